/- strings.Split, CutPrefix, HasPrefix, TrimPrefix, Contains. -/
import Derived.Test.YtpknaffdaemlbaaGreatDoorW1
import Derived.Lib.SplitLaws
import Derived.Lib.ItoaNum
namespace Go.Ab
open Go Go.Proofs

def splitL (s : List UInt8) (c : UInt8) : List (List UInt8) := (Lib.splitB ⟨#[c]⟩ 0 (Lib.countB ⟨s.toArray⟩ ⟨#[c]⟩) ⟨s.toArray⟩).map fun b => b.data.toList

theorem Split_c (s : List UInt8) (c : UInt8) (hs : s.length < 4294967281) :
    ACalls Tryz.prog 140 [.str s, .str [c]] [] (.imm ((splitL s c).map sRow)) [] := by
  refine ⟨by kernel_rfl, fun cx vs hH hr hv => ?_⟩
  simp only [Vals, Val] at hv
  obtain ⟨v, vs', rfl, rfl, v2, vs2, rfl, rfl, rfl⟩ := hv
  obtain ⟨⟨m, hm⟩, _⟩ := hr.gl
  refine (Tryz.strings_Split ⟨s.toArray⟩ ⟨#[c]⟩ m cx.w hs hm (Nat.le_refl 1)).mono fun e w' hq => ?_
  obtain ⟨rfl, rfl⟩ := hq
  have hlen := Lib.splitB_all ⟨#[c]⟩ (Nat.le_refl 1) 0 _ ⟨s.toArray⟩ rfl
  generalize hL : Lib.splitB ⟨#[c]⟩ 0 (Lib.countB ⟨s.toArray⟩ ⟨#[c]⟩) ⟨s.toArray⟩ = L at hlen
  generalize Lib.countB ⟨s.toArray⟩ ⟨#[c]⟩ = n at hlen
  have hN := rel_grow hr (F' := fun b => cx.F b ∨ b = cx.w.heap.size) (w' := cx.w.alloc (.cells (L.map Value.string).toArray 9)) (fun b h => .inl h) (fun b h => h.imp id fun h => ⟨by omega, by simp; omega⟩) (fun b hb => alloc_old cx.w _ b hb) (by simp) rfl rfl rfl
  refine ⟨_, ⟨fun b => cx.F b ∨ b = cx.w.heap.size, cx.μ, cx.H, _⟩, rfl, rfl, hH, hN.1, hN.2, ?_⟩
  have e : (splitL s c).map sRow = L.map fun b => sRow b.data.toList := by rw [splitL, hL, List.map_map]; rfl
  rw [e]
  simp only [Val, List.length_map]
  refine .inl ⟨cx.w.heap.size, 0, n + 1, 1, by rw [hlen], .inr rfl, by omega, ?_⟩
  rw [RowsAt_iff]
  intro j r hj
  rw [List.getElem?_map] at hj
  cases h : L[j]? with
  | none => simp [h] at hj
  | some y =>
    simp [h] at hj
    subst hj
    refine ⟨rfl, ?_⟩
    simp only [sRow, Cells, Val, and_true]
    refine ⟨_, ?_, rfl, rfl⟩
    rw [Nat.mul_one, Nat.zero_add]
    show (cx.w.alloc _).cell? _ = _
    rw [World.cell?_alloc_new]
    simp [h]

theorem splitL_length_le (s : List UInt8) (c : UInt8) : (splitL s c).length ≤ s.length + 1 := by
  have hlen := Lib.splitB_all ⟨#[c]⟩ (Nat.le_refl 1) 0 _ ⟨s.toArray⟩ rfl
  have h2 := Lib.countB_le ⟨#[c]⟩ (Nat.le_refl 1) _ ⟨s.toArray⟩ (Nat.le_refl _)
  have h3 : (ByteArray.mk s.toArray).size = s.length := rfl
  rw [splitL, List.length_map, hlen]; omega

theorem splitB_small (sep : ByteArray) (n : Nat) : ∀ (k : Nat) (s : ByteArray), s.size ≤ n → ∀ x ∈ Lib.splitB sep 0 k s, x.size ≤ n
  | 0, s, h, x, hx => by simp [Lib.splitB] at hx; subst hx; exact h
  | k + 1, s, h, x, hx => by
    unfold Lib.splitB at hx
    split at hx
    · simp at hx; subst hx; exact h
    · rcases List.mem_cons.1 hx with rfl | hx
      · rw [ByteArray.size_extract]; omega
      · exact splitB_small sep n k _ (by rw [ByteArray.size_extract]; omega) x hx
theorem splitL_small {s : List UInt8} {c : UInt8} {x : List UInt8} (h : x ∈ splitL s c) : x.length ≤ s.length := by
  obtain ⟨y, hy, rfl⟩ := List.mem_map.1 h
  exact splitB_small _ s.length _ ⟨s.toArray⟩ (Nat.le_refl _) y hy

theorem HasPrefix0_c (s p : List UInt8) (_hl : p.length < 9223372036854775807) : ACalls Tryz.prog 91 [.str s, .str p] [] (.bool (p.isPrefixOf s)) [] := by
  refine acalls_F c91_ok rfl ?_
  unfold c91
  by_cases h : p.length ≤ s.length
  · have h' : (p.length : Int) ≤ s.length := by omega
    have e : (s.take p.length == p) = p.isPrefixOf s := by
      rw [Bool.eq_iff_iff, beq_iff_eq, List.isPrefixOf_iff_prefix, List.prefix_iff_eq_take]
      exact eq_comm
    simp +decide -dsimp -implicitDefEqProofs [go_sem, h, h', e]
  · have h' : ¬ (p.length : Int) ≤ s.length := by omega
    have e : p.isPrefixOf s = false := by
      rw [Bool.eq_false_iff]; intro hp; rw [List.isPrefixOf_iff_prefix] at hp
      exact h hp.length_le
    simp +decide -dsimp -implicitDefEqProofs [go_sem, h', e]

def trimP (s p : List UInt8) : List UInt8 := if p.isPrefixOf s then s.drop p.length else s
theorem CutPrefix_c (s p : List UInt8) (hl : p.length < 9223372036854775807) : ACalls Tryz.prog 139 [.str s, .str p] [] (.tup [.str (trimP s p), .bool (p.isPrefixOf s)]) [] := by
  have h108 : ACalls Tryz.prog 175 [.str s, .str p] [] (.tup [.str (trimP s p), .bool (p.isPrefixOf s)]) [] := by
    refine acalls_F c175_ok rfl ?_
    unfold c175 trimP
    simp +decide -dsimp -implicitDefEqProofs [go_sem]
    refine callE_pure (HasPrefix0_c s p hl) rfl rfl ?_
    by_cases h : p.isPrefixOf s = true
    · have h2 : p.length ≤ s.length := (List.isPrefixOf_iff_prefix.1 h).length_le
      simp +decide -dsimp -implicitDefEqProofs [go_sem, h, h2]
      intro hn; exact absurd (List.isPrefixOf_iff_prefix.1 h) hn
    · simp +decide -dsimp -implicitDefEqProofs [go_sem, h]
      intro hn; exact absurd (List.isPrefixOf_iff_prefix.2 hn) h
  refine acalls_F c139_ok rfl ?_
  unfold c139
  simp +decide -dsimp -implicitDefEqProofs [go_sem]
  refine callE_pure h108 rfl rfl ?_
  simp +decide -dsimp -implicitDefEqProofs [go_sem]

theorem cvT_self {H : List AObj} {m : Nat} : ∀ {l : List AV}, closedL m l = true → cvT H m l l
  | [], _ => trivial
  | x :: xs, h => by
    simp only [closedL, Bool.and_eq_true] at h
    exact ⟨.inr (.inl ⟨rfl, h.1⟩), cvT_self h.2⟩

def pathL (s : List UInt8) : Option (List (List UInt8)) :=
  match s with
  | [] => none
  | c :: r => if c = 47 ∧ ((splitL r 47).all validB) = true then some (splitL r 47) else none

set_option maxRecDepth 20000 in
theorem nSplit_c (s : List UInt8) (hs : s.length < 100000000) : ACalls Tryz.prog 96 [.str s] [] (match pathL s with | some l => .tup [.imm (l.map sRow), .int .i64 0] | none => .tup [.imm [], .int .i64 10]) [] := by
  refine acalls_F c96_ok rfl ?_
  unfold c96
  simp +decide -dsimp -implicitDefEqProofs [go_sem]
  refine callE_pure (CutPrefix_c s [47] (by decide)) rfl rfl ?_
  have hlt : (trimP s [47]).length ≤ s.length := by unfold trimP; split <;> simp
  simp +decide -dsimp -implicitDefEqProofs [go_sem]
  have hl2 := splitL_length_le (trimP s [47]) 47
  refine callE_pure (Split_c (trimP s [47]) 47 (by omega)) rfl (by simp [closed, closedLL_sRows]) ?_
  by_cases hp : ([47] : List UInt8).isPrefixOf s = true
  · obtain ⟨r, rfl⟩ : ∃ r, s = 47 :: r := by
      cases s with
      | nil => simp at hp
      | cons c r => simp at hp; exact ⟨r, by rw [hp]⟩
    have e : trimP (47 :: r) [47] = r := by simp [trimP]
    rw [e]
    simp +decide -dsimp -implicitDefEqProofs [go_sem]
    refine callE_of (all_c (splitL r 47) 105 [] [] validB (by rw [e] at hl2; simp only [List.length_cons] at hs; omega) (fun _ _ => rfl) (by simp [selfH, cvH]) (fun _ => by simp [cvH]) (fun cs h => ⟨⟨rfl, cvT_self h⟩, trivial⟩) (fun x _ => (nValid_c x).pure _ rfl rfl)) ?_
    by_cases hv : ((splitL r 47).all validB) = true
    · simp +decide -dsimp -implicitDefEqProofs [go_sem, hv, pathL]
    · simp +decide -dsimp -implicitDefEqProofs [go_sem, hv, pathL]
  · have e : pathL s = none := by
      cases s with
      | nil => rfl
      | cons c r => simp at hp; simp [pathL]; intro h; exact absurd h.symm hp
    simp +decide -dsimp -implicitDefEqProofs [go_sem, hp, e]
end Go.Ab
namespace Go.Ab
open Go Go.Proofs

def placeB (s : List UInt8) : Bool := match pathL s with | some l => decide (l.length ≤ 7) | none => false

theorem isPath_c (s : List UInt8) (hs : s.length < 100000000) : ACalls Tryz.prog 67 [.str s] [] (.bool (placeB s)) [] := by
  refine acalls_F c67_ok rfl ?_
  unfold c67
  have h := nSplit_c s hs
  simp +decide -dsimp -implicitDefEqProofs [go_sem]
  refine callE_pure h rfl (by cases pathL s <;> simp [closed, closedL, closedLL, closedLL_sRows]) ?_
  cases e : pathL s with
  | none => simp +decide -dsimp -implicitDefEqProofs [go_sem, placeB, e]
  | some l =>
    have e2 : (decide ((l.length : Int) ≤ 7)) = decide (l.length ≤ 7) := by rw [decide_eq_decide]; omega
    simp +decide -dsimp -implicitDefEqProofs [go_sem, placeB, e, e2]

set_option maxRecDepth 20000 in
theorem rSplit_c (s : List UInt8) (hs : s.length < 100000000) : ACalls Tryz.prog 155 [.str s] [] (match pathL s with | some l => .tup [.imm (l.map sRow), .bool true] | none => .tup [.imm [], .bool false]) [] := by
  refine acalls_F c155_ok rfl ?_
  unfold c155
  cases s with
  | nil => simp +decide -dsimp -implicitDefEqProofs [go_sem, pathL]
  | cons c r =>
    by_cases hc : c = 47
    · subst hc
      have hl2 := splitL_length_le r 47
      simp only [List.length_cons] at hs
      simp +decide -dsimp -implicitDefEqProofs [go_sem]
      refine callE_pure (Split_c r 47 (by omega)) rfl (by simp [closed, closedLL_sRows]) ?_
      simp +decide -dsimp -implicitDefEqProofs [go_sem]
      generalize hL : splitL r 47 = L at hl2
      refine loop_of (S := Nat) (fun i => ⟨tmps 29 [(4, .imm (L.map sRow)), (5, .int .i64 i)], []⟩) (fun i => L.length - i) (fun i => i ≤ L.length ∧ ∀ x ∈ L.take i, validB x = true) 0 (by simp) (cut_of (by simp) ?_) ?_
      · simp +decide -dsimp -implicitDefEqProofs [go_sem]
      intro i hi
      by_cases h : i < L.length
      · have w : IntKind.i64.wrap ((i : Int) + 1) = i + 1 := w64 (by omega) (by omega)
        simp +decide -dsimp -implicitDefEqProofs [go_sem, h]
        refine callE_pure (rValid_c L[i]) rfl rfl ?_
        by_cases hv : validB L[i] = true
        · simp +decide -dsimp -implicitDefEqProofs [go_sem, hv, w]
          refine next_of (i + 1) ⟨by omega, fun x hx => ?_⟩ (by omega) (cut_of (by simp) ?_)
          · rw [List.take_succ_eq_append_getElem h] at hx
            rcases List.mem_append.1 hx with hx | hx
            · exact hi.2 x hx
            · simp at hx; subst hx; exact hv
          simp +decide -dsimp -implicitDefEqProofs [go_sem]
        · have e : pathL (47 :: r) = none := by
            simp only [pathL, hL]
            rw [if_neg]
            rintro ⟨_, h3⟩
            exact hv (List.all_eq_true.1 h3 _ (List.getElem_mem h))
          simp +decide -dsimp -implicitDefEqProofs [go_sem, hv, e]
      · have e : i = L.length := by omega
        have h2 := hi.2
        rw [e, List.take_length] at h2
        have e2 : pathL (47 :: r) = some L := by
          simp only [pathL, hL]
          rw [if_pos ⟨trivial, List.all_eq_true.2 h2⟩]
        simp +decide -dsimp -implicitDefEqProofs [go_sem, h, e2]
    · have e : pathL (c :: r) = none := by simp [pathL, hc]
      have hc' : ¬ ((c.toNat : Int) = 47) := fun h => hc (UInt8.toNat_inj.1 (by simpa using (by omega : c.toNat = 47)))
      simp +decide -dsimp -implicitDefEqProofs [go_sem, e, hc']

theorem rPlace_c (s : List UInt8) (hs : s.length < 100000000) : ACalls Tryz.prog 116 [.str s] [] (.bool (placeB s)) [] := by
  refine acalls_F c116_ok rfl ?_
  unfold c116
  have h := rSplit_c s hs
  simp +decide -dsimp -implicitDefEqProofs [go_sem]
  refine callE_pure h rfl (by cases pathL s <;> simp [closed, closedL, closedLL, closedLL_sRows]) ?_
  cases e : pathL s with
  | none => simp +decide -dsimp -implicitDefEqProofs [go_sem, placeB, e]
  | some l =>
    have e2 : (decide ((l.length : Int) ≤ 7)) = decide (l.length ≤ 7) := by rw [decide_eq_decide]; omega
    simp +decide -dsimp -implicitDefEqProofs [go_sem, placeB, e, e2]
end Go.Ab
namespace Go.Ab
open Go Go.Proofs
def tblP : List Bool := plusL tblC [64, 35, 61, 37]
theorem tblP_len : tblP.length = 256 := by simp only [tblP, plusL_len, tblC_len]
def linkL : List UInt8 := [65, 66, 67, 68, 69, 70, 71, 72, 73, 74, 75, 76, 77, 78, 79, 80, 81, 82, 83, 84, 85, 86, 87, 88, 89, 90, 97, 98, 99, 100, 101, 102, 103, 104, 105, 106, 107, 108, 109, 110, 111, 112, 113, 114, 115, 116, 117, 118, 119, 120, 121, 122, 48, 49, 50, 51, 52, 53, 54, 55, 56, 57, 95, 46, 58, 43, 45, 64, 35, 61, 37]

theorem tblP_at (c : UInt8) : tblP[c.toNat]?.getD false = decide (c ∈ linkL) := by
  rw [tblP, plusL_at _ _ _ tblC_len, tblC, plusL_at _ _ _ (by simp only [plusL_len, falses_len]), plusL_at _ _ _ (by simp only [plusL_len, falses_len]), plusL_at _ _ _ (by simp only [plusL_len, falses_len]), tblU_at]
  simp only [Option.getD_some]
  have key : ∀ n : Fin 256, (decide (UInt8.ofNat n ∈ upperL) || decide (UInt8.ofNat n ∈ Lib.toLowerA upperL) || decide (UInt8.ofNat n ∈ digitsL) || decide (UInt8.ofNat n ∈ [95, 46, 58, 43, 45]) || decide (UInt8.ofNat n ∈ ([64, 35, 61, 37] : List UInt8))) = decide (UInt8.ofNat n ∈ linkL) := by decide +kernel
  have := key ⟨c.toNat, UInt8.toNat_lt c⟩
  simpa only [UInt8.ofNat_toNat] using this

set_option maxRecDepth 20000 in
theorem parts_c : ACalls Tryz.prog 147 [] [] (.agg (bB tblP)) [] := by
  refine acalls_F c147_ok rfl ?_
  unfold c147
  rw [zB_f]
  simp +decide -dsimp -implicitDefEqProofs [go_sem]
  refine callE_pure common_c rfl (aggB_closed _ _) ?_
  simp +decide -dsimp -implicitDefEqProofs [go_sem]
  refine callE_pure (plus_c tblC [64, 35, 61, 37] tblC_len (by decide)) (by simp [closedL, bB_closed, closed]) (aggB_closed _ _) ?_
  change cbv _ _ _
  have t1 : ∀ bs : List Bool, bs.length = 256 → (bB bs).take 256 = bB bs := fun bs h => bB_take bs 256 (by omega)
  have t2 : ∀ bs : List Bool, bs.length = 256 → (bB bs).drop 256 = [] := fun bs h => List.drop_eq_nil_of_le (by rw [bB_len]; omega)
  have e : plusL tblC [64, 35, 61, 37] = tblP := rfl
  rw [e]
  simp +decide -dsimp -implicitDefEqProofs [go_sem, bB_len, tblP_len, falses_len, t1, t2, bB_cvT]

def compB (s : List UInt8) : Bool := decide (s ≠ []) && !decide (s = [46] ∨ s = [46, 46]) && s.all fun c => decide (c ∈ linkL)
def linkB (s : List UInt8) : Bool := decide (s.length ≤ 256) && (splitL s 47).all compB

theorem hasP_c (s : List UInt8) (hl : s.length < 1000000000) : ACalls Tryz.prog 144 [.agg (bB tblP), .str s] [] (.bool (s.all fun c => decide (c ∈ linkL))) [] := by
  have := has_c tblP s tblP_len hl
  simp only [tblP_at] at this
  exact this

set_option maxRecDepth 20000 in
theorem comp1_c (s : List UInt8) (hl : s.length < 1000000000) (H : List AObj) (H2 : List AObj) (hH : H = .box 194 (bB tblP) :: H2) (hs : selfH H) : ACalls Tryz.prog 148 [.str s, .ptr 0 0] H (.bool (compB s)) H := by
  refine acalls_F c148_ok rfl ?_
  unfold c148 compB
  have h0 : H[0]? = some (.box 194 (bB tblP)) := by rw [hH]; rfl
  have t1 : ∀ bs : List Bool, bs.length = 256 → (bB bs).take 256 = bB bs := fun bs h => bB_take bs 256 (by omega)
  by_cases he : s = []
  · subst he; simp +decide -dsimp -implicitDefEqProofs [go_sem]; exact hs
  simp +decide -dsimp -implicitDefEqProofs [go_sem, he]
  refine callE_pure (dots_c s) rfl rfl ?_
  by_cases h3 : s = [46]
  · subst h3; simp +decide -dsimp -implicitDefEqProofs [go_sem]; exact hs
  by_cases h4 : s = [46, 46]
  · subst h4; simp +decide -dsimp -implicitDefEqProofs [go_sem]; exact hs
  simp +decide -dsimp -implicitDefEqProofs [go_sem, he, h3, h4, h0, tblP_len, t1]
  refine callE_pure (hasP_c s hl) (by simp [closedL, closed, bB_closed]) rfl ?_
  simp +decide -dsimp -implicitDefEqProofs [go_sem, h3, h4]
  exact hs

set_option maxRecDepth 20000 in
theorem Link_c (s : List UInt8) (hl : s.length < 1000000000) : ACalls Tryz.prog 106 [.str s] [] (.bool (linkB s)) [] := by
  refine acalls_F c106_ok rfl ?_
  unfold c106 linkB
  rw [zB_f]
  have t1 : ∀ bs : List Bool, bs.length = 256 → (bB bs).take 256 = bB bs := fun bs h => bB_take bs 256 (by omega)
  have t2 : ∀ bs : List Bool, bs.length = 256 → (bB bs).drop 256 = [] := fun bs h => List.drop_eq_nil_of_le (by rw [bB_len]; omega)
  simp +decide -dsimp -implicitDefEqProofs [go_sem]
  refine callE_pure parts_c rfl (aggB_closed _ _) ?_
  by_cases h : s.length ≤ 256
  · have h' : (s.length : Int) ≤ 256 := by omega
    simp +decide -dsimp -implicitDefEqProofs [go_sem, bB_len, tblP_len, falses_len, t2, h']
    refine callE_pure (Split_c s 47 (by omega)) rfl (by simp [closed, closedLL_sRows]) ?_
    simp +decide -dsimp -implicitDefEqProofs [go_sem]
    have hl2 := splitL_length_le s 47
    refine callE_of (all_c (splitL s 47) 148 [.ptr 0 0] [.box 194 (bB tblP)] compB (by omega) (fun n hn => by simp [closedL, closed]; exact hn) ⟨⟨rfl, bB_cvT _ _ _⟩, trivial⟩ (fun _ => ⟨⟨rfl, bB_cvT _ _ _⟩, trivial⟩) (fun cs hcs => ⟨⟨rfl, bB_cvT _ _ _⟩, ⟨rfl, cvT_self hcs⟩, trivial⟩)
      (fun x hx => comp1_c x (by have := splitL_small hx; omega) _ _ rfl ⟨⟨rfl, bB_cvT _ _ _⟩, ⟨rfl, cvT_self (by simp [closedL, closed])⟩, trivial⟩)) ?_
    simp +decide -dsimp -implicitDefEqProofs [go_sem, h]
  · have h' : ¬ (s.length : Int) ≤ 256 := by omega
    simp +decide -dsimp -implicitDefEqProofs [go_sem, bB_len, tblP_len, falses_len, t2, h, h']

set_option maxRecDepth 20000 in
theorem rLink_c (s : List UInt8) (hl : s.length < 1000000000) : ACalls Tryz.prog 189 [.str s] [] (.bool (linkB s)) [] := by
  refine acalls_F c189_ok rfl ?_
  unfold c189
  simp +decide -dsimp -implicitDefEqProofs [go_sem]
  refine callE_pure (Split_c s 47 (by omega)) rfl (by simp [closed, closedLL_sRows]) ?_
  simp +decide -dsimp -implicitDefEqProofs [go_sem]
  have hl2 := splitL_length_le s 47
  have hsm : ∀ x ∈ splitL s 47, x.length ≤ s.length := fun x hx => splitL_small hx
  have hlb : linkB s = (decide (s.length ≤ 256) && (splitL s 47).all compB) := rfl
  generalize hL : splitL s 47 = L at hl2 hsm hlb
  refine loop_of (S := Nat) (fun i => ⟨tmps 43 [(0, .str s), (3, .imm (L.map sRow)), (4, .int .i64 i)], []⟩) (fun i => L.length - i) (fun i => i ≤ L.length ∧ ∀ x ∈ L.take i, compB x = true) 0 (by simp) (cut_of (by simp) ?_) ?_
  · simp +decide -dsimp -implicitDefEqProofs [go_sem]
  intro i hi
  by_cases h : i < L.length
  · have w : IntKind.i64.wrap ((i : Int) + 1) = i + 1 := w64 (by omega) (by omega)
    have hxl := hsm L[i] (List.getElem_mem h)
    have hbad : compB L[i] = false → linkB s = false := fun e => by
      rw [hlb, Bool.and_eq_false_iff]; right; rw [List.all_eq_false]; exact ⟨L[i], List.getElem_mem h, by simp [e]⟩
    have key : ∀ x : List UInt8, x = L[i] → compB x = compB L[i] := fun x e => by rw [e]
    by_cases h1 : L[i] = []
    · have e := hbad (by rw [h1]; rfl)
      simp +decide -dsimp -implicitDefEqProofs [go_sem, h, h1, e]
    by_cases h2 : L[i] = [46]
    · have e := hbad (by rw [h2]; rfl)
      simp +decide -dsimp -implicitDefEqProofs [go_sem, h, h2, e]
    by_cases h3 : L[i] = [46, 46]
    · have e := hbad (by rw [h3]; rfl)
      simp +decide -dsimp -implicitDefEqProofs [go_sem, h, h3, e]
    simp +decide -dsimp -implicitDefEqProofs [go_sem, h, h1, h2, h3]
    refine callE_pure (rin_c L[i] linkL (by omega)) rfl rfl ?_
    have ec : compB L[i] = (L[i].all fun c => decide (c ∈ linkL)) := by simp [compB, h1, h2, h3]
    by_cases h4 : (L[i].all fun c => decide (c ∈ linkL)) = true
    · simp +decide -dsimp -implicitDefEqProofs [go_sem, h3, h4, w]
      refine next_of (i + 1) ⟨by omega, fun x hx => ?_⟩ (by omega) (cut_of (by simp) ?_)
      · rw [List.take_succ_eq_append_getElem h] at hx
        rcases List.mem_append.1 hx with hx | hx
        · exact hi.2 x hx
        · simp at hx; subst hx; rw [ec, h4]
      simp +decide -dsimp -implicitDefEqProofs [go_sem]
    · have e := hbad (by rw [ec]; simpa using h4)
      simp +decide -dsimp -implicitDefEqProofs [go_sem, h3, h4, e]
  · have e : i = L.length := by omega
    have h2 := hi.2
    rw [e, List.take_length] at h2
    have h3 : L.all compB = true := List.all_eq_true.2 h2
    have e2 : (decide ((s.length : Int) ≤ 256)) = decide (s.length ≤ 256) := by rw [decide_eq_decide]; omega
    simp +decide -dsimp -implicitDefEqProofs [go_sem, h, hlb, h3, e2]
end Go.Ab
namespace Go.Ab
open Go Go.Proofs
def ifaceB (s : List UInt8) : Bool := validB s && decide (s.length ≤ 15) && !(decide (58 ∈ s)) && !(decide (33 ∈ s))

theorem indexAny_nonneg (cs : List UInt8) : ∀ s : List UInt8, 0 ≤ Lib.indexAny s cs ↔ ∃ x ∈ s, x ∈ cs
  | [] => by simp [Lib.indexAny]
  | b :: r => by
    have ih := indexAny_nonneg cs r
    have hge := Lib.indexAny_ge cs r
    by_cases h : b ∈ cs
    · simp [Lib.indexAny, h]
    · by_cases h2 : Lib.indexAny r cs = -1
      · have : ¬ ∃ x ∈ r, x ∈ cs := fun e => by have := ih.2 e; omega
        simp only [not_exists, not_and] at this
        simp [Lib.indexAny, h, h2]
        exact this
      · have h3 : 0 ≤ Lib.indexAny r cs := by omega
        obtain ⟨x, hx, hc⟩ := ih.1 h3
        have h4 : 0 ≤ Lib.indexAny r cs + 1 := by omega
        simp [Lib.indexAny, h, h2, h4]
        exact ⟨x, hx, hc⟩
theorem containsAny_eq (s cs : List UInt8) : Lib.containsAny s cs = s.any fun c => cs.contains c := by
  unfold Lib.containsAny
  rw [Bool.eq_iff_iff, decide_eq_true_iff, indexAny_nonneg, List.any_eq_true]
  simp only [List.contains_iff_mem]

theorem ContainsAny_c (s cs : List UInt8) (hs : s.length < 1000000) (hc : cs.length < 1000000) (ha : ∀ b ∈ s, b.toNat < 128) (hb : ∀ b ∈ cs, b.toNat < 128) : ACalls Tryz.prog 150 [.str s, .str cs] [] (.bool (s.any fun c => cs.contains c)) [] := by
  refine .of_below (by kernel_rfl) fun c vs hv _ => ?_
  simp only [Vals, Val] at hv
  obtain ⟨v, vs', rfl, rfl, v2, vs2, rfl, rfl, rfl⟩ := hv
  refine (Tryz.strings_ContainsAny_laid ⟨s.toArray⟩ ⟨cs.toArray⟩ c.w (by show s.length < _; omega) (by show cs.length < _; omega) (fun j b hj => ha b (List.mem_of_getElem? (by simpa using hj))) (fun j b hj => hb b (List.mem_of_getElem? (by simpa using hj)))).mono fun e w' h => ?_
  exact ⟨_, h.1, h.2, fun c' => by simp [Val, containsAny_eq]⟩

theorem Contains1_c (s : List UInt8) (b : UInt8) : ACalls Tryz.prog 190 [.str s, .str [b]] [] (.bool (decide (b ∈ s))) [] := by
  refine of_same (by kernel_rfl) fun c vs hv _ => ?_
  simp only [Vals, Val] at hv
  obtain ⟨v, vs', rfl, rfl, v2, vs2, rfl, rfl, rfl⟩ := hv
  have h := Tryz.strings_Contains_one ⟨s.toArray⟩ b c.w
  refine ⟨_, h, fun c' => ?_⟩
  have hn := (indexByte_neg s b).2
  simp only [Val, Value.bool.injEq]
  rw [decide_eq_decide]
  constructor
  · intro h1
    by_cases h2 : b ∈ s
    · exact h2
    · have := hn.2 h2; omega
  · intro h1
    have : ¬ Lib.indexByte s b < 0 := fun h2 => hn.1 h2 h1
    simp; omega

theorem valid_ascii {s : List UInt8} (h : validB s = true) : ∀ b ∈ s, b.toNat < 128 := by
  unfold validB at h
  simp only [Bool.and_eq_true, List.all_eq_true, decide_eq_true_eq] at h
  intro b hb
  have h2 := h.2 b hb
  have key : ∀ x ∈ setL, x.toNat < 128 := by decide
  exact key b h2
theorem valid_small {s : List UInt8} (h : validB s = true) : s.length ≤ 32 := by
  unfold validB at h
  simp only [Bool.and_eq_true, decide_eq_true_eq] at h
  exact h.1.1.2

theorem any2 (s : List UInt8) : (s.any fun c => ([58, 33] : List UInt8).contains c) = (decide (58 ∈ s) || decide (33 ∈ s)) := by
  rw [Bool.eq_iff_iff]
  simp only [List.any_eq_true, Bool.or_eq_true, decide_eq_true_eq, List.contains_iff_mem, List.mem_cons, List.not_mem_nil, or_false]
  constructor
  · rintro ⟨x, hx, rfl | rfl⟩
    · exact .inl hx
    · exact .inr hx
  · rintro (h | h)
    · exact ⟨_, h, .inl rfl⟩
    · exact ⟨_, h, .inr rfl⟩

theorem Interface_c (s : List UInt8) : ACalls Tryz.prog 110 [.str s] [] (.bool (ifaceB s)) [] := by
  refine acalls_F c110_ok rfl ?_
  unfold c110 ifaceB
  simp +decide -dsimp -implicitDefEqProofs [go_sem]
  refine callE_pure (nValid_c s) rfl rfl ?_
  by_cases hv : validB s = true
  · by_cases h : s.length ≤ 15
    · have h' : (s.length : Int) ≤ 15 := by omega
      simp +decide -dsimp -implicitDefEqProofs [go_sem, hv, h']
      have hc := ContainsAny_c s [58, 33] (by omega) (by decide) (valid_ascii hv) (by decide)
      rw [any2] at hc
      refine callE_pure hc rfl rfl ?_
      simp +decide -dsimp -implicitDefEqProofs [go_sem, hv, h]
    · have h' : ¬ (s.length : Int) ≤ 15 := by omega
      simp +decide -dsimp -implicitDefEqProofs [go_sem, hv, h, h']
  · simp +decide -dsimp -implicitDefEqProofs [go_sem, hv]

theorem rInterface_c (s : List UInt8) : ACalls Tryz.prog 154 [.str s] [] (.bool (ifaceB s)) [] := by
  refine acalls_F c154_ok rfl ?_
  unfold c154 ifaceB
  simp +decide -dsimp -implicitDefEqProofs [go_sem]
  refine callE_pure (rValid_c s) rfl rfl ?_
  by_cases hv : validB s = true
  · by_cases h : s.length ≤ 15
    · have h' : (s.length : Int) ≤ 15 := by omega
      simp +decide -dsimp -implicitDefEqProofs [go_sem, hv, h']
      refine callE_pure (Contains1_c s 58) rfl rfl ?_
      by_cases h1 : (58 : UInt8) ∈ s
      · simp +decide -dsimp -implicitDefEqProofs [go_sem, hv, h, h1]
      · simp +decide -dsimp -implicitDefEqProofs [go_sem, h1]
        refine callE_pure (Contains1_c s 33) rfl rfl ?_
        simp +decide -dsimp -implicitDefEqProofs [go_sem, hv, h, h1]
    · have h' : ¬ (s.length : Int) ≤ 15 := by omega
      simp +decide -dsimp -implicitDefEqProofs [go_sem, hv, h, h']
  · simp +decide -dsimp -implicitDefEqProofs [go_sem, hv]
end Go.Ab
namespace Go.Ab
open Go Go.Proofs
def filledT (b : UInt8) (s : List UInt8) : List UInt8 := if s = [] then [] else lineT b s
theorem filledLine_c (l : List UInt8) (b : UInt8) (s : List UInt8) (hs : l.length + s.length + 3 ≤ 1000000000) :
    ACalls Tryz.prog 65 [.ptr 0 0, .int .u8 b.toNat, .str s] (bld l) (.tup []) (bld (l ++ filledT b s)) := by
  refine acalls_F c65_ok rfl ?_
  unfold c65 filledT
  by_cases h : s = []
  · subst h
    simp +decide -dsimp -implicitDefEqProofs [go_sem, bld]
  · simp +decide -dsimp -implicitDefEqProofs [go_sem, h]
    have hl := lines_c (.inl rfl : isBld (bld l) l) b [s] (.inl (by simp)) (by simp) (by simp [linesT, lineT]; omega)
    have e : linesT b [s] = lineT b s := by simp [linesT]
    rw [e] at hl
    refine callE_of (hl) ?_
    simp +decide -dsimp -implicitDefEqProofs [go_sem, bld]

theorem filled_c (s : List UInt8) (hl : s.length < 9223372036854775807) : ACalls Tryz.prog 107 [.str s] [] (.bool (decide (s ≠ []) && textB s)) [] := by
  refine acalls_F c107_ok rfl ?_
  unfold c107
  by_cases h : s = []
  · subst h; simp +decide -dsimp -implicitDefEqProofs [go_sem]
  · simp +decide -dsimp -implicitDefEqProofs [go_sem, h]
    refine callE_pure (Text_c s hl) rfl rfl ?_
    simp +decide -dsimp -implicitDefEqProofs [go_sem, h]

theorem same_c (s : List UInt8) : ACalls Tryz.prog 104 [.str s] [] (.str s) [] := by
  refine acalls_F c104_ok rfl ?_
  unfold c104
  simp +decide -dsimp -implicitDefEqProofs [go_sem]

theorem notFilled_c (s : List UInt8) (hl : s.length < 9223372036854775807) : ACalls Tryz.prog 109 [.str s] [] (.bool (!(decide (s ≠ []) && textB s))) [] := by
  refine acalls_F c109_ok rfl ?_
  unfold c109
  simp +decide -dsimp -implicitDefEqProofs [go_sem]
  refine callE_pure (filled_c s hl) rfl rfl ?_
  simp +decide -dsimp -implicitDefEqProofs [go_sem]

def aRow (p : List UInt8 × List UInt8) : List AV := [.str p.1, .str p.2]
theorem attrKey_c (p : List UInt8 × List UInt8) : ACalls Tryz.prog 99 [.agg (aRow p)] [] (.str p.1) [] := by
  refine acalls_F c99_ok rfl ?_
  unfold c99 aRow
  simp +decide -dsimp -implicitDefEqProofs [go_sem]
theorem attrGood_c (p : List UInt8 × List UInt8) (hl : p.2.length < 9223372036854775807) : ACalls Tryz.prog 100 [.agg (aRow p)] [] (.bool (keyNB p.1 && textB p.2)) [] := by
  refine acalls_F c100_ok rfl ?_
  unfold c100 aRow
  simp +decide -dsimp -implicitDefEqProofs [go_sem]
  refine callE_pure (Key_c p.1) rfl rfl ?_
  by_cases h : keyNB p.1 = true
  · simp +decide -dsimp -implicitDefEqProofs [go_sem, h]
    refine callE_pure (Text_c p.2 hl) rfl rfl ?_
    simp +decide -dsimp -implicitDefEqProofs [go_sem, h]
  · simp +decide -dsimp -implicitDefEqProofs [go_sem, h]
end Go.Ab
namespace Go.Ab
open Go Go.Proofs
def ascB : List (List UInt8) → Bool
  | a :: b :: r => Op.bytesLess a b && ascB (b :: r)
  | _ => true
theorem asc_iff : ∀ {l : List (List UInt8)}, ascB l = true ↔ ∀ i (h : i + 1 < l.length), Op.bytesLess l[i] l[i + 1] = true
  | [] => by simp [ascB]
  | [a] => by simp [ascB]
  | a :: b :: r => by
    simp only [ascB, Bool.and_eq_true]
    rw [asc_iff (l := b :: r)]
    constructor
    · rintro ⟨h1, h2⟩ i hi
      cases i with
      | zero => exact h1
      | succ i => exact h2 i (by simpa using hi)
    · intro h
      exact ⟨h 0 (by simp), fun i hi => h (i + 1) (by simpa using hi)⟩
def risB (l : List (List UInt8)) (g : List UInt8 → Bool) (n : Nat) : Bool := l.all g && ascB l && decide (l.length ≤ n)

set_option maxRecDepth 20000 in
theorem risingS_c (l : List (List UInt8)) (g : List UInt8 → Bool) (G : Nat) (n : Nat) (hl : l.length < 1000000000) (hg : ∀ x ∈ l, ACalls Tryz.prog G [.str x] [] (.bool (g x)) []) :
    ACalls Tryz.prog 103 [.imm (l.map sRow), .int .i64 n, .fn (.func 104) [] [], .fn (.func G) [] []] [] (.bool (risB l g n)) [] := by
  refine acalls_F c103_ok rfl ?_
  unfold c103
  simp +decide -dsimp -implicitDefEqProofs [go_sem]
  refine loop_of (S := Nat) (fun i => ⟨tmps 44 [(0, .imm (l.map sRow)), (1, .int .i64 n), (2, .fn (.func 104) [] []), (3, .fn (.func G) [] []), (11, .imm (l.map sRow)), (12, .int .i64 l.length), (13, .int .i64 i)], []⟩) (fun i => l.length - i)
    (fun i => i ≤ l.length ∧ (∀ x ∈ l.take i, g x = true) ∧ ∀ j (h : j + 1 < l.length), j + 1 < i → Op.bytesLess l[j] l[j + 1] = true) 0 (by simp) (cut_of (by simp) ?_) ?_
  · simp +decide -dsimp -implicitDefEqProofs [go_sem]
  intro i hi
  obtain ⟨hi0, hi1, hi2⟩ := hi
  by_cases h : i < l.length
  · have w : IntKind.i64.wrap ((i : Int) + 1) = i + 1 := w64 (by omega) (by omega)
    simp +decide -dsimp -implicitDefEqProofs [go_sem, h]
    refine callE_pure (hg l[i] (List.getElem_mem h)) rfl rfl ?_
    by_cases h1 : g l[i] = true
    · have hnext : ∀ x ∈ l.take (i + 1), g x = true := fun x hx => by
        rw [List.take_succ_eq_append_getElem h] at hx
        rcases List.mem_append.1 hx with hx | hx
        · exact hi1 x hx
        · simp at hx; subst hx; exact h1
      by_cases h0 : i = 0
      · subst h0
        simp +decide -dsimp -implicitDefEqProofs [go_sem, h1]
        refine next_of 1 ⟨by omega, hnext, fun j hj hj2 => by omega⟩ (by omega) (cut_of (by simp) ?_)
        simp +decide -dsimp -implicitDefEqProofs [go_sem]
      · obtain ⟨k, rfl⟩ : ∃ k, i = k + 1 := ⟨i - 1, by omega⟩
        have hk : k < l.length := by omega
        have wk : IntKind.i64.wrap (k : Int) = k := w64 (by omega) (by omega)
        have e1 : (0 : Int) < (k : Int) + 1 := by omega
        simp +decide -dsimp -implicitDefEqProofs [go_sem, h1, wk, hk, e1]
        refine callE_pure (same_c l[k]) rfl rfl ?_
        simp +decide -dsimp -implicitDefEqProofs [go_sem]
        refine callE_pure (same_c l[k + 1]) rfl rfl ?_
        by_cases h2 : Op.bytesLess l[k] l[k + 1] = true
        · have w' : IntKind.i64.wrap ((k : Int) + 1 + 1) = k + 1 + 1 := w64 (by omega) (by omega)
          simp +decide -dsimp -implicitDefEqProofs [go_sem, h2, w']
          refine next_of (k + 1 + 1) ⟨by omega, hnext, fun j hj hj2 => ?_⟩ (by omega) (cut_of (by simp) ?_)
          · by_cases hjk : j = k
            · subst hjk; exact h2
            · exact hi2 j hj (by omega)
          simp +decide -dsimp -implicitDefEqProofs [go_sem]
        · have e : risB l g n = false := by
            have : ascB l = false := by
              rw [Bool.eq_false_iff]; intro ha; exact h2 (asc_iff.1 ha k h)
            simp [risB, this]
          simp +decide -dsimp -implicitDefEqProofs [go_sem, h2, e]
    · have e : risB l g n = false := by
        have : l.all g = false := by rw [List.all_eq_false]; exact ⟨l[i], List.getElem_mem h, h1⟩
        simp [risB, this]
      simp +decide -dsimp -implicitDefEqProofs [go_sem, h1, e]
  · have e : i = l.length := by omega
    subst e
    rw [List.take_length] at hi1
    have e1 : l.all g = true := List.all_eq_true.2 hi1
    have e2 : ascB l = true := asc_iff.2 fun j hj => hi2 j hj hj
    have e3 : (decide ((l.length : Int) ≤ n)) = decide (l.length ≤ n) := by rw [decide_eq_decide]; omega
    simp +decide -dsimp -implicitDefEqProofs [go_sem, risB, e1, e2]
end Go.Ab
namespace Go.Ab
open Go Go.Proofs
@[go_sem] theorem closedLL_aRows (k : Nat) (s : List (List UInt8 × List UInt8)) : closedLL k (s.map aRow) = true := closedLL_map fun x _ => by simp [aRow, closedL, closed]
@[go_sem] theorem renLL_aRows (is : List Nat) (s : List (List UInt8 × List UInt8)) : renLL is (s.map aRow) = s.map aRow := by
  induction s with
  | nil => rfl
  | cons x r ih => simp [renLL, ih, aRow, renL, ren]
@[go_sem] theorem aRow_len (x : List UInt8 × List UInt8) : (aRow x).length = 2 := rfl
@[go_sem ↓] theorem ldK_aRow (x : List UInt8 × List UInt8) (K : AV → Prop) : ldK (some 2) (aRow x) K = K (.agg (aRow x)) := by simp [ldK, aRow]
@[go_sem ↓] theorem ldK_aRow0 (x : List UInt8 × List UInt8) (K : AV → Prop) : ldK none (aRow x) K = K (.str x.1) := rfl
@[go_sem] theorem aRow_tail (x : List UInt8 × List UInt8) : (aRow x).tail = [.str x.2] := rfl
@[go_sem ↓] theorem ldK_aRow1 (x : List UInt8 × List UInt8) (K : AV → Prop) : ldK none (aRow x).tail K = K (.str x.2) := rfl
@[go_sem ↓] theorem ldK_aRow2 (x : List UInt8 × List UInt8) (K : AV → Prop) : ldK none ((aRow x).drop 1) K = K (.str x.2) := rfl
@[go_sem] theorem aRow_drop0 (x : List UInt8 × List UInt8) : (aRow x).drop 0 = aRow x := rfl
def goodA (p : List UInt8 × List UInt8) : Bool := keyNB p.1 && textB p.2
def risAB (l : List (List UInt8 × List UInt8)) (n : Nat) : Bool := l.all goodA && ascB (l.map (·.1)) && decide (l.length ≤ n)

set_option maxRecDepth 20000 in
theorem risingA_c (l : List (List UInt8 × List UInt8)) (n : Nat) (hl : l.length < 1000000000) (hv : ∀ x ∈ l, x.2.length < 9223372036854775807) :
    ACalls Tryz.prog 98 [.imm (l.map aRow), .int .i64 n, .fn (.func 99) [] [], .fn (.func 100) [] []] [] (.bool (risAB l n)) [] := by
  refine acalls_F c98_ok rfl ?_
  unfold c98
  simp +decide -dsimp -implicitDefEqProofs [go_sem]
  refine loop_of (S := Nat) (fun i => ⟨tmps 44 [(0, .imm (l.map aRow)), (1, .int .i64 n), (2, .fn (.func 99) [] []), (3, .fn (.func 100) [] []), (11, .imm (l.map aRow)), (12, .int .i64 l.length), (13, .int .i64 i)], []⟩) (fun i => l.length - i)
    (fun i => i ≤ l.length ∧ (∀ x ∈ l.take i, goodA x = true) ∧ ∀ j (h : j + 1 < l.length), j + 1 < i → Op.bytesLess l[j].1 l[j + 1].1 = true) 0 (by simp) (cut_of (by simp) ?_) ?_
  · simp +decide -dsimp -implicitDefEqProofs [go_sem]
  intro i hi
  obtain ⟨hi0, hi1, hi2⟩ := hi
  by_cases h : i < l.length
  · have w : IntKind.i64.wrap ((i : Int) + 1) = i + 1 := w64 (by omega) (by omega)
    simp +decide -dsimp -implicitDefEqProofs [go_sem, h]
    refine callDE_pure (show ACalls Tryz.prog 100 [.agg (aRow l[i])] [] (.bool (goodA l[i])) [] from attrGood_c l[i] (hv _ (List.getElem_mem h))) rfl rfl ?_
    by_cases h1 : goodA l[i] = true
    · have hnext : ∀ x ∈ l.take (i + 1), goodA x = true := fun x hx => by
        rw [List.take_succ_eq_append_getElem h] at hx
        rcases List.mem_append.1 hx with hx | hx
        · exact hi1 x hx
        · simp at hx; subst hx; exact h1
      by_cases h0 : i = 0
      · subst h0
        simp +decide -dsimp -implicitDefEqProofs [go_sem, h1]
        refine next_of 1 ⟨by omega, hnext, fun j hj hj2 => by omega⟩ (by omega) (cut_of (by simp) ?_)
        simp +decide -dsimp -implicitDefEqProofs [go_sem]
      · obtain ⟨k, rfl⟩ : ∃ k, i = k + 1 := ⟨i - 1, by omega⟩
        have hk : k < l.length := by omega
        have wk : IntKind.i64.wrap (k : Int) = k := w64 (by omega) (by omega)
        have e1 : (0 : Int) < (k : Int) + 1 := by omega
        simp +decide -dsimp -implicitDefEqProofs [go_sem, h1, wk, hk, e1]
        refine callDE_pure (attrKey_c l[k]) rfl rfl ?_
        simp +decide -dsimp -implicitDefEqProofs [go_sem]
        refine callDE_pure (attrKey_c l[k + 1]) rfl rfl ?_
        by_cases h2 : Op.bytesLess l[k].1 l[k + 1].1 = true
        · have w' : IntKind.i64.wrap ((k : Int) + 1 + 1) = k + 1 + 1 := w64 (by omega) (by omega)
          simp +decide -dsimp -implicitDefEqProofs [go_sem, h2, w']
          refine next_of (k + 1 + 1) ⟨by omega, hnext, fun j hj hj2 => ?_⟩ (by omega) (cut_of (by simp) ?_)
          · by_cases hjk : j = k
            · subst hjk; exact h2
            · exact hi2 j hj (by omega)
          simp +decide -dsimp -implicitDefEqProofs [go_sem]
        · have e : risAB l n = false := by
            have : ascB (l.map (·.1)) = false := by
              rw [Bool.eq_false_iff]; intro ha; exact h2 (by have := asc_iff.1 ha k (by simpa using h); simpa using this)
            simp [risAB, this]
          simp +decide -dsimp -implicitDefEqProofs [go_sem, h2, e]
    · have e : risAB l n = false := by
        have : l.all goodA = false := by rw [List.all_eq_false]; exact ⟨l[i], List.getElem_mem h, h1⟩
        simp [risAB, this]
      simp +decide -dsimp -implicitDefEqProofs [go_sem, h1, e]
  · have e : i = l.length := by omega
    subst e
    rw [List.take_length] at hi1
    have e1 : l.all goodA = true := List.all_eq_true.2 hi1
    have e2 : ascB (l.map (·.1)) = true := asc_iff.2 fun j hj => (by simpa using hi2 j (by simpa using hj) (by simpa using hj))
    have e3 : (decide ((l.length : Int) ≤ n)) = decide (l.length ≤ n) := by rw [decide_eq_decide]; omega
    simp +decide -dsimp -implicitDefEqProofs [go_sem, risAB, e1, e2]
end Go.Ab
namespace Go.Ab
open Go Go.Proofs
set_option maxRecDepth 20000 in
theorem ascends_c (l : List (List UInt8)) (n : Nat) (hl : l.length < 1000000000) :
    ACalls Tryz.prog 186 [.imm (l.map sRow), .int .i64 n] [] (.bool (ascB l && decide (l.length ≤ n))) [] := by
  refine acalls_F c186_ok rfl ?_
  unfold c186
  simp +decide -dsimp -implicitDefEqProofs [go_sem]
  refine loop_of (S := Nat) (fun k => ⟨tmps 26 [(0, .imm (l.map sRow)), (1, .int .i64 n), (5, .int .i64 ((k : Int) + 1))], []⟩) (fun k => l.length + 1 - k)
    (fun k => k ≤ l.length ∧ ∀ j (h : j + 1 < l.length), j < k → Op.bytesLess l[j] l[j + 1] = true) 0 (by simp) (cut_of (by simp) ?_) ?_
  · simp +decide -dsimp -implicitDefEqProofs [go_sem]
  intro k hk
  obtain ⟨hk0, hk1⟩ := hk
  by_cases h : k + 1 < l.length
  · have h' : (k : Int) + 1 < l.length := by omega
    have hk2 : k < l.length := by omega
    have w : IntKind.i64.wrap ((k : Int) + 1 + 1) = k + 1 + 1 := w64 (by omega) (by omega)
    have wk : IntKind.i64.wrap (k : Int) = k := w64 (by omega) (by omega)
    have t1 : ((k : Int) + 1).toNat = k + 1 := by omega
    have p1 : (0 : Int) ≤ (k : Int) + 1 := by omega
    by_cases h2 : Op.bytesLess l[k] l[k + 1] = true
    · simp +decide -dsimp -implicitDefEqProofs [go_sem, h', wk, hk2, h, t1, p1, h2, w]
      refine next_of (k + 1) ⟨by omega, fun j hj hj2 => ?_⟩ (by omega) (cut_of (by simp) ?_)
      · by_cases hjk : j = k
        · subst hjk; exact h2
        · exact hk1 j hj (by omega)
      simp +decide -dsimp -implicitDefEqProofs [go_sem]
    · have e : ascB l = false := by rw [Bool.eq_false_iff]; intro ha; exact h2 (asc_iff.1 ha k h)
      simp +decide -dsimp -implicitDefEqProofs [go_sem, h', wk, hk2, h, t1, p1, h2, e]
  · have h' : ¬ (k : Int) + 1 < l.length := by omega
    have e2 : ascB l = true := asc_iff.2 fun j hj => hk1 j hj (by omega)
    have e3 : (decide ((l.length : Int) ≤ n)) = decide (l.length ≤ n) := by rw [decide_eq_decide]; omega
    simp +decide -dsimp -implicitDefEqProofs [go_sem, h', e2]
end Go.Ab
namespace Go.Ab
open Go Go.Proofs
structure Rcd where
  path : List UInt8
  index : Int
  props : List (List UInt8 × List UInt8)
  tags : List (List UInt8)
  links : List (List UInt8)
  run : List (List UInt8)
  load : List (List UInt8)
  name : List UInt8
  prio : Int
  owner : List UInt8
  group : List UInt8
  mode : Int
  deriving DecidableEq
def rRow (r : Rcd) : List AV := [.str r.path, .int .i64 r.index, .imm (r.props.map aRow), .imm (r.tags.map sRow), .imm (r.links.map sRow), .imm (r.run.map sRow), .imm (r.load.map sRow), .str r.name, .int .i64 r.prio, .str r.owner, .str r.group, .int .i64 r.mode]
def fillB (s : List UInt8) : Bool := decide (s ≠ []) && textB s
def soundB (r : Rcd) : Bool :=
  placeB r.path && decide (1 ≤ r.index ∧ r.index ≤ 1073741824) && risAB r.props 64 && risB r.tags validB 16 && risB r.links linkB 16 && risB r.load fillB 16 && decide (r.run.length ≤ 16) && r.run.all fillB &&
    (decide (r.name = []) || ifaceB r.name) && decide (-1000 ≤ r.prio ∧ r.prio ≤ 1000) && decide (0 ≤ r.mode ∧ r.mode ≤ 4095) &&
    (decide (r.owner = [] ∧ r.group = [] ∧ r.mode = 0 ∧ r.links = []) || validB r.owner && validB r.group)
structure Few (r : Rcd) : Prop where
  path : r.path.length < 100000000
  tags : r.tags.length < 1000000000
  props : r.props.length < 1000000000
  vals : ∀ x ∈ r.props, x.2.length < 1000000000
  links : r.links.length < 1000000000
  link : ∀ x ∈ r.links, x.length < 1000000000
  runs : r.run.length < 1000000000
  rn : ∀ x ∈ r.run, x.length < 1000000000
  loads : r.load.length < 1000000000
  ld : ∀ x ∈ r.load, x.length < 1000000000

end Go.Ab
namespace Go.Ab
open Go

def cutL (c : UInt8) : List UInt8 → Option (List UInt8 × List UInt8)
  | [] => none
  | x :: r => if x = c then some ([], r) else (cutL c r).map fun p => (x :: p.1, p.2)
theorem cutL_app {c : UInt8} {t : List UInt8} : ∀ {s : List UInt8}, c ∉ s → cutL c (s ++ c :: t) = some (s, t)
  | [], _ => by simp [cutL]
  | x :: r, h => by
    simp only [List.mem_cons, not_or] at h
    simp [cutL, cutL_app h.2, show ¬ x = c from fun e => h.1 e.symm]
theorem cutL_none {c : UInt8} : ∀ {s : List UInt8}, c ∉ s → cutL c s = none
  | [], _ => rfl
  | x :: r, h => by
    simp only [List.mem_cons, not_or] at h
    simp [cutL, cutL_none h.2, show ¬ x = c from fun e => h.1 e.symm]
theorem cutL_some {c : UInt8} : ∀ {s a b : List UInt8}, cutL c s = some (a, b) → s = a ++ c :: b ∧ c ∉ a
  | [], _, _, h => by simp [cutL] at h
  | x :: r, a, b, h => by
    unfold cutL at h
    split at h
    · rename_i e
      simp at h; obtain ⟨rfl, rfl⟩ := h; subst e; simp
    · rename_i e
      cases hr : cutL c r with
      | none => simp [hr] at h
      | some p =>
        simp [hr] at h
        obtain ⟨rfl, rfl⟩ := h
        obtain ⟨h1, h2⟩ := cutL_some (a := p.1) (b := p.2) (by rw [hr])
        exact ⟨by rw [List.cons_append, ← h1], by simp [h2]; exact fun e' => e e'.symm⟩

def splitC (c : UInt8) : List UInt8 → List (List UInt8)
  | [] => [[]]
  | x :: r => if x = c then [] :: splitC c r else (match splitC c r with | a :: l => (x :: a) :: l | [] => [[x]])
theorem splitC_ne (c : UInt8) : ∀ s, splitC c s ≠ []
  | [] => by simp [splitC]
  | x :: r => by
    unfold splitC; split
    · simp
    · split <;> simp
theorem splitC_app {c : UInt8} {t : List UInt8} : ∀ {s : List UInt8}, c ∉ s → splitC c (s ++ c :: t) = s :: splitC c t
  | [], _ => by simp [splitC]
  | x :: r, h => by
    simp only [List.mem_cons, not_or] at h
    simp [splitC, splitC_app h.2, show ¬ x = c from fun e => h.1 e.symm]
theorem splitC_none {c : UInt8} : ∀ {s : List UInt8}, c ∉ s → splitC c s = [s]
  | [], _ => rfl
  | x :: r, h => by
    simp only [List.mem_cons, not_or] at h
    simp [splitC, splitC_none h.2, show ¬ x = c from fun e => h.1 e.symm]
theorem index_one (c : UInt8) : ∀ s : List UInt8, Lib.index s [c] = Lib.indexByte s c
  | [] => rfl
  | b :: l => by
    unfold Lib.index Lib.indexByte
    rw [index_one c l]
    by_cases h : b = c
    · subst h; simp [List.isPrefixOf]
    · have : ¬ c = b := fun e => h e.symm
      simp [List.isPrefixOf, h, this]
theorem indexByte_cut (c : UInt8) : ∀ s : List UInt8, (Lib.indexByte s c = -1 ∧ c ∉ s) ∨ ∃ a b, s = a ++ c :: b ∧ c ∉ a ∧ Lib.indexByte s c = a.length
  | [] => .inl ⟨rfl, by simp⟩
  | x :: r => by
    unfold Lib.indexByte
    by_cases h : x = c
    · subst h; exact .inr ⟨[], r, rfl, by simp, by simp⟩
    · have h' : ¬ c = x := fun e => h e.symm
      rcases indexByte_cut c r with ⟨h1, h2⟩ | ⟨a, b, h1, h2, h3⟩
      · exact .inl ⟨by simp [h, h1], by simp [h2, h']⟩
      · refine .inr ⟨x :: a, b, by rw [h1]; rfl, by simp [h2, h'], ?_⟩
        have h4 : ¬ (a.length : Int) = -1 := by omega
        simp [h, h3, h4]
theorem splitK_eq (c : UInt8) : ∀ (n : Nat) (s : List UInt8), s.length ≤ n → Lib.splitK [c] 0 (Lib.count s [c]) s = splitC c s
  | n, s, hn => by
    rcases indexByte_cut c s with ⟨h1, h2⟩ | ⟨a, b, h1, h2, h3⟩
    · have hi : Lib.index s [c] = -1 := by rw [index_one, h1]
      rw [Lib.count_miss hi, splitC_none h2]; rfl
    · have hi : Lib.index s [c] = (a.length : Nat) := by rw [index_one, h3]
      have hm : ¬ (Lib.index s [c] == -1) = true := fun e => by have := beq_iff_eq.1 e; omega
      rw [Lib.count_hit (by simp) hi, Nat.add_comm]
      unfold Lib.splitK
      rw [if_neg hm, hi]
      have e1 : s.drop (a.length + [c].length) = b := by rw [h1]; simp
      have e2 : s.take a.length = a := by rw [h1]; simp
      have e3 : ((a.length : Nat) : Int).toNat = a.length := by omega
      rw [e1, e3, Nat.add_zero, e2, e1]
      have hb : b.length < s.length := by rw [h1]; simp; omega
      cases n with
      | zero => omega
      | succ n =>
        rw [splitK_eq c n b (by omega)]
        conv => rhs; rw [h1]
        rw [splitC_app h2]

/-! ### Numerals -/
def digC (d : Nat) : UInt8 := UInt8.ofNat (48 + d)
def digsB (b : Nat) (u : Nat) : List UInt8 := if _h : u < b ∨ b < 2 then [digC u] else digsB b (u / b) ++ [digC (u % b)]
  termination_by u
  decreasing_by
  simp only [not_or, Nat.not_lt] at _h
  exact Nat.div_lt_self (by omega) (by omega)
def baseT (b : Nat) (n : Int) : List UInt8 := if n < 0 then 45 :: digsB b n.natAbs else digsB b n.toNat
def numT (b : Nat) (n : Int) : List UInt8 := if n = 0 then [] else baseT b n
theorem digsB_small {b u : Nat} (h : u < b) : digsB b u = [digC u] := by rw [digsB, dif_pos (.inl h)]
theorem digsB_big {b u : Nat} (hb : 2 ≤ b) (h : b ≤ u) : digsB b u = digsB b (u / b) ++ [digC (u % b)] := by rw [digsB, dif_neg (by omega)]
theorem digsB_dec : ∀ u : Nat, digsB 10 u = Lib.decDigits u := by
  intro u
  induction u using Nat.strongRecOn with
  | _ u ih =>
    by_cases h : u < 10
    · rw [digsB_small h, Lib.decDigits, dif_pos h]; rfl
    · rw [digsB_big (by omega) (by omega), Lib.decDigits, dif_neg h, ih _ (by omega)]; rfl
theorem baseT_itoa (n : Int) : baseT 10 n = Lib.itoa n := by
  unfold baseT Lib.itoa; rw [digsB_dec, digsB_dec]

def valB (b : Nat) (l : List UInt8) : Int := l.foldl (fun n c => n * b + ((c.toNat : Int) - 48)) 0
theorem valB_snoc (b : Nat) (l : List UInt8) (c : UInt8) : valB b (l ++ [c]) = valB b l * b + ((c.toNat : Int) - 48) := by simp [valB]
theorem digC_toNat {d : Nat} (h : d < 10) : (digC d).toNat = 48 + d := by
  rw [digC, UInt8.toNat_ofNat']; omega
theorem digsB_spec {b : Nat} (hb : 2 ≤ b) (hb2 : b ≤ 10) : ∀ u : Nat, valB b (digsB b u) = u ∧ (∀ c ∈ digsB b u, 48 ≤ c.toNat ∧ c.toNat < 48 + b) ∧ digsB b u ≠ [] ∧ (∀ k : Nat, 1 ≤ k → u < b ^ k → (digsB b u).length ≤ k) := by
  intro u
  induction u using Nat.strongRecOn with
  | _ u ih =>
    by_cases h : u < b
    · have hd := digC_toNat (d := u) (by omega)
      rw [digsB_small h]
      refine ⟨by simp [valB, hd]; omega, by simp [hd]; omega, by simp, fun k hk _ => by simp; omega⟩
    · have hlt : u / b < u := Nat.div_lt_self (by omega) (by omega)
      have hm : u % b < b := Nat.mod_lt _ (by omega)
      have hd := digC_toNat (d := u % b) (by omega)
      obtain ⟨h1, h2, h3, h4⟩ := ih _ hlt
      rw [digsB_big hb (by omega)]
      refine ⟨?_, ?_, by simp, fun k hk hlt2 => ?_⟩
      · rw [valB_snoc, h1, hd]
        have := Nat.div_add_mod u b
        have e : ((u / b : Nat) : Int) * b = ((b * (u / b) : Nat) : Int) := by rw [Int.natCast_mul, Int.mul_comm]
        rw [e]; omega
      · intro c hc
        rcases List.mem_append.1 hc with hc | hc
        · exact h2 c hc
        · simp at hc; subst hc; omega
      · have hk1 : k ≠ 1 := fun e => by subst e; simp at hlt2; omega
        have := h4 (k - 1) (by omega) (by
          rw [Nat.div_lt_iff_lt_mul (by omega)]
          have : b ^ (k - 1) * b = b ^ k := by rw [← Nat.pow_succ]; congr 1; omega
          omega)
        simp; omega
theorem baseT_chars {b : Nat} (hb : 2 ≤ b) (hb2 : b ≤ 10) (n : Int) : ∀ c ∈ baseT b n, c = 45 ∨ (48 ≤ c.toNat ∧ c.toNat < 58) := by
  intro c hc
  unfold baseT at hc
  split at hc
  · rcases List.mem_cons.1 hc with rfl | hc
    · exact .inl rfl
    · have := (digsB_spec hb hb2 _).2.1 c hc; right; omega
  · have := (digsB_spec hb hb2 _).2.1 c hc; right; omega
theorem baseT_ne {b : Nat} (hb : 2 ≤ b) (hb2 : b ≤ 10) (n : Int) : baseT b n ≠ [] := by
  unfold baseT; split
  · simp
  · exact (digsB_spec hb hb2 _).2.2.1
end Go.Ab
namespace Go.Ab
open Go Go.Proofs

def attrT (p : List UInt8 × List UInt8) : List UInt8 := p.1 ++ 61 :: p.2
def encT (r : Rcd) : List UInt8 :=
  lineT 80 r.path ++ (lineT 73 (baseT 10 r.index) ++ (linesT 69 (r.props.map attrT) ++ (linesT 71 r.tags ++ (linesT 76 r.links ++ (linesT 82 r.run ++ (linesT 77 r.load ++ (filledT 78 r.name ++ (filledT 79 r.owner ++ (filledT 81 r.group ++
    (filledT 89 (numT 10 r.prio) ++ (filledT 88 (numT 8 r.mode) ++ [46, 10])))))))))))

/-! ### The first reader: line by line -/
def lineP (b : UInt8) (s : List UInt8) : Option (List UInt8 × List UInt8) :=
  match cutL 10 s with
  | some p => if [b, 58].isPrefixOf p.1 then some (p.1.drop 2, p.2) else none
  | none => none
def line1 (b : UInt8) (s : List UInt8) : List UInt8 × List UInt8 := match lineP b s with | some p => p | none => ([], s)
theorem lineP_len {b : UInt8} {s : List UInt8} {p : List UInt8 × List UInt8} (h : lineP b s = some p) : p.2.length < s.length ∧ p.1.length ≤ s.length := by
  unfold lineP at h
  split at h
  · rename_i q hq
    obtain ⟨h1, _⟩ := cutL_some (a := q.1) (b := q.2) hq
    split at h
    · cases h; rw [h1]; simp; omega
    · cases h
  · cases h
def listP (b : UInt8) (s : List UInt8) : List (List UInt8) × List UInt8 :=
  match _h : lineP b s with
  | some p => (p.1 :: (listP b p.2).1, (listP b p.2).2)
  | none => ([], s)
  termination_by s.length
  decreasing_by all_goals exact (lineP_len _h).1
theorem listP_some {b : UInt8} {s : List UInt8} {p : List UInt8 × List UInt8} (h : lineP b s = some p) : listP b s = (p.1 :: (listP b p.2).1, (listP b p.2).2) := by
  rw [listP]; split
  · rename_i q hq; rw [h] at hq; cases hq; rfl
  · rename_i hq; rw [h] at hq; cases hq
theorem listP_none {b : UInt8} {s : List UInt8} (h : lineP b s = none) : listP b s = ([], s) := by
  rw [listP]; split
  · rename_i q hq; rw [h] at hq; cases hq
  · rfl

theorem lineP_line {b : UInt8} {s t : List UInt8} (hb : b ≠ 10) (h : 10 ∉ s) : lineP b (lineT b s ++ t) = some (s, t) := by
  have e : lineT b s ++ t = (b :: 58 :: s) ++ 10 :: t := by simp [lineT]
  have hn : (10 : UInt8) ∉ b :: 58 :: s := by simp [h, hb.symm]
  rw [lineP, e, cutL_app hn]
  simp
def Hd (S : List UInt8) (s : List UInt8) : Prop := ∃ c r, s = c :: r ∧ c ∈ S
theorem Hd.mono {S S' : List UInt8} {s : List UInt8} (h : Hd S s) (hs : ∀ c ∈ S, c ∈ S') : Hd S' s := by
  obtain ⟨c, r, rfl, hc⟩ := h; exact ⟨c, r, rfl, hs c hc⟩
theorem Hd.lines {S : List UInt8} {b : UInt8} {l : List (List UInt8)} {s : List UInt8} (h : Hd S s) : Hd (b :: S) (linesT b l ++ s) := by
  cases l with
  | nil => exact h.mono fun c hc => by simp [hc]
  | cons x l => exact ⟨b, _, rfl, by simp⟩
theorem Hd.filled {S : List UInt8} {b : UInt8} {x : List UInt8} {s : List UInt8} (h : Hd S s) : Hd (b :: S) (filledT b x ++ s) := by
  unfold filledT; split
  · exact h.mono fun c hc => by simp [hc]
  · exact ⟨b, _, rfl, by simp⟩
theorem lineP_not {b : UInt8} {S : List UInt8} {s : List UInt8} (h : Hd S s) (hb : b ∉ S) : lineP b s = none := by
  obtain ⟨c, r, rfl, hc⟩ := h
  have hbc : b ≠ c := fun e => hb (e ▸ hc)
  unfold lineP
  split
  · rename_i p hp
    obtain ⟨h1, _⟩ := cutL_some (a := p.1) (b := p.2) hp
    rw [if_neg]
    intro hpre
    cases hq : p.1 with
    | nil => rw [hq] at hpre; simp at hpre
    | cons x y =>
      rw [hq] at h1 hpre
      simp at h1 hpre
      exact hbc (hpre.1.trans h1.1.symm)
  · rfl
theorem line1_line {b : UInt8} {s t : List UInt8} (hb : b ≠ 10) (h : 10 ∉ s) : line1 b (lineT b s ++ t) = (s, t) := by rw [line1, lineP_line hb h]
theorem line1_filled {b : UInt8} {x s : List UInt8} {S : List UInt8} (h : Hd S s) (hb : b ∉ S) (h10 : b ≠ 10) (hx : 10 ∉ x) : line1 b (filledT b x ++ s) = (x, s) := by
  unfold filledT; split
  · rename_i e; subst e; rw [line1, List.nil_append, lineP_not h hb]
  · exact line1_line h10 hx
theorem listP_lines {b : UInt8} {s : List UInt8} {S : List UInt8} (h : Hd S s) (hb : b ∉ S) (h10 : b ≠ 10) : ∀ {l : List (List UInt8)}, (∀ x ∈ l, 10 ∉ x) → listP b (linesT b l ++ s) = (l, s)
  | [], _ => listP_none (by simpa [linesT] using lineP_not h hb)
  | x :: l, hl => by
    have e : linesT b (x :: l) ++ s = lineT b x ++ (linesT b l ++ s) := by simp [linesT]
    rw [e, listP_some (lineP_line h10 (hl x (by simp))), listP_lines h hb h10 fun y hy => hl y (by simp [hy])]

/-! ### No newline in what is sound -/
theorem setL_nl : ∀ c ∈ setL, c ≠ 10 := by decide
theorem linkL_nl : ∀ c ∈ linkL, c ≠ 10 := by decide
theorem keyL_nl : ∀ c ∈ keyL, c ≠ 10 ∧ c ≠ 61 := by decide
theorem valid_nl {s : List UInt8} (h : validB s = true) : 10 ∉ s := by
  unfold validB at h
  simp only [Bool.and_eq_true, List.all_eq_true, decide_eq_true_eq] at h
  exact fun hc => setL_nl _ (h.2 _ hc) rfl
theorem text_nl {s : List UInt8} (h : textB s = true) : 10 ∉ s := by
  unfold textB printB at h
  simp only [Bool.and_eq_true, List.all_eq_true, decide_eq_true_eq] at h
  intro hc
  have := (h.1 _ hc).1
  have e : (10 : UInt8).toNat = 10 := rfl
  omega
theorem fill_nl {s : List UInt8} (h : fillB s = true) : 10 ∉ s := by
  unfold fillB at h
  simp only [Bool.and_eq_true] at h
  exact text_nl h.2
theorem key_nl {s : List UInt8} (h : keyNB s = true) : 10 ∉ s ∧ 61 ∉ s := by
  unfold keyNB at h
  simp only [Bool.and_eq_true, List.all_eq_true, decide_eq_true_eq] at h
  exact ⟨fun hc => (keyL_nl _ (h.2 _ hc)).1 rfl, fun hc => (keyL_nl _ (h.2 _ hc)).2 rfl⟩
theorem iface_nl {s : List UInt8} (h : ifaceB s = true) : 10 ∉ s := by
  unfold ifaceB at h
  simp only [Bool.and_eq_true] at h
  exact valid_nl h.1.1.1
theorem splitL_eq (s : List UInt8) (c : UInt8) : splitL s c = splitC c s := by
  have h := Lib.splitB_data ⟨#[c]⟩ 0 (Lib.countB ⟨s.toArray⟩ ⟨#[c]⟩) ⟨s.toArray⟩
  have e : Lib.countB ⟨s.toArray⟩ ⟨#[c]⟩ = Lib.count s [c] := by simp [Lib.countB]
  rw [splitL, h, e]
  exact splitK_eq c _ s (Nat.le_refl _)
theorem splitC_nl {c d : UInt8} (hd : d ≠ c) : ∀ {s : List UInt8}, (∀ x ∈ splitC c s, d ∉ x) → d ∉ s
  | [], _ => by simp
  | x :: r, h => by
    unfold splitC at h
    split at h
    · rename_i e
      subst e
      have := splitC_nl hd (s := r) fun y hy => h y (by simp [hy])
      simp [this, hd]
    · rename_i e
      split at h
      · rename_i a l hl
        have h1 := h (x :: a) (by simp)
        simp only [List.mem_cons, not_or] at h1
        have := splitC_nl hd (s := r) fun y hy => by
          rw [hl] at hy
          rcases List.mem_cons.1 hy with rfl | hy
          · exact h1.2
          · exact h y (by simp [hy])
        simp [this, h1.1]
      · rename_i hl; exact absurd hl (splitC_ne c r)
theorem path_nl {s : List UInt8} (h : placeB s = true) : 10 ∉ s := by
  unfold placeB at h
  split at h
  · rename_i l hl
    unfold pathL at hl
    split at hl
    · cases hl
    · rename_i c r
      split at hl
      · rename_i hc
        have h2 := List.all_eq_true.1 hc.2
        rw [splitL_eq] at h2
        have := splitC_nl (c := 47) (d := 10) (by decide) (s := r) fun x hx => valid_nl (h2 x hx)
        rw [hc.1]
        simp [this]
      · cases hl
  · cases h
theorem link_nl {s : List UInt8} (h : linkB s = true) : 10 ∉ s := by
  unfold linkB at h
  simp only [Bool.and_eq_true, List.all_eq_true] at h
  rw [splitL_eq] at h
  refine splitC_nl (c := 47) (by decide) fun x hx => ?_
  have := h.2 x hx
  unfold compB at this
  simp only [Bool.and_eq_true, List.all_eq_true, decide_eq_true_eq] at this
  exact fun hc => linkL_nl _ (this.2 _ hc) rfl
theorem base_nl {b : Nat} (hb : 2 ≤ b) (hb2 : b ≤ 10) (n : Int) : 10 ∉ baseT b n := fun hc => by
  rcases baseT_chars hb hb2 n _ hc with h | h
  · cases h
  · have e : (10 : UInt8).toNat = 10 := rfl
    omega
theorem num_nl {b : Nat} (hb : 2 ≤ b) (hb2 : b ≤ 10) (n : Int) : 10 ∉ numT b n := by
  unfold numT; split
  · simp
  · exact base_nl hb hb2 n

structure Nice (r : Rcd) : Prop where
  path : 10 ∉ r.path
  key : ∀ p ∈ r.props, 10 ∉ p.1 ∧ 61 ∉ p.1
  val : ∀ p ∈ r.props, 10 ∉ p.2
  tag : ∀ x ∈ r.tags, 10 ∉ x
  link : ∀ x ∈ r.links, 10 ∉ x
  run : ∀ x ∈ r.run, 10 ∉ x
  load : ∀ x ∈ r.load, 10 ∉ x
  name : 10 ∉ r.name
  owner : 10 ∉ r.owner
  group : 10 ∉ r.group
  index : 1 ≤ r.index ∧ r.index ≤ 1073741824
  prio : -1000 ≤ r.prio ∧ r.prio ≤ 1000
  mode : 0 ≤ r.mode ∧ r.mode ≤ 4095
theorem nice_of {r : Rcd} (h : soundB r = true) : Nice r := by
  unfold soundB at h
  simp only [Bool.and_eq_true, Bool.or_eq_true, decide_eq_true_eq, risAB, risB, List.all_eq_true] at h
  obtain ⟨⟨⟨⟨⟨⟨⟨⟨⟨⟨⟨h1, h2⟩, h3⟩, h4⟩, h5⟩, h6⟩, h7⟩, h8⟩, h9⟩, h10⟩, h11⟩, h12⟩ := h
  have hg : ∀ p ∈ r.props, keyNB p.1 = true ∧ textB p.2 = true := fun p hp => by simpa [goodA] using h3.1.1 p hp
  refine ⟨path_nl h1, fun p hp => key_nl (hg p hp).1, fun p hp => text_nl (hg p hp).2, fun x hx => valid_nl (h4.1.1 x hx), fun x hx => link_nl (h5.1.1 x hx), fun x hx => fill_nl (h8 x hx), fun x hx => fill_nl (h6.1.1 x hx), ?_, ?_, ?_, h2, h10, h11⟩
  · rcases h9 with h | h
    · rw [h]; simp
    · exact iface_nl h
  · rcases h12 with h | h
    · rw [h.1]; simp
    · exact valid_nl h.1
  · rcases h12 with h | h
    · rw [h.2.1]; simp
    · exact valid_nl h.2

theorem attr_nl {r : Rcd} (h : Nice r) : ∀ x ∈ r.props.map attrT, 10 ∉ x := fun x hx => by
  obtain ⟨p, hp, rfl⟩ := List.mem_map.1 hx
  simp [attrT, (h.key p hp).1, h.val p hp]

def tl12 : List UInt8 := [46, 10]
def tl11 (r : Rcd) := filledT 88 (numT 8 r.mode) ++ tl12
def tl10 (r : Rcd) := filledT 89 (numT 10 r.prio) ++ tl11 r
def tl9 (r : Rcd) := filledT 81 r.group ++ tl10 r
def tl8 (r : Rcd) := filledT 79 r.owner ++ tl9 r
def tl7 (r : Rcd) := filledT 78 r.name ++ tl8 r
def tl6 (r : Rcd) := linesT 77 r.load ++ tl7 r
def tl5 (r : Rcd) := linesT 82 r.run ++ tl6 r
def tl4 (r : Rcd) := linesT 76 r.links ++ tl5 r
def tl3 (r : Rcd) := linesT 71 r.tags ++ tl4 r
def tl2 (r : Rcd) := linesT 69 (r.props.map attrT) ++ tl3 r
def tl1 (r : Rcd) := lineT 73 (baseT 10 r.index) ++ tl2 r
theorem enc_tl (r : Rcd) : encT r = lineT 80 r.path ++ tl1 r := rfl
theorem hd12 : Hd [46] tl12 := ⟨46, [10], rfl, by simp⟩
theorem hd11 (r : Rcd) : Hd [88, 46] (tl11 r) := hd12.filled
theorem hd10 (r : Rcd) : Hd [89, 88, 46] (tl10 r) := (hd11 r).filled
theorem hd9 (r : Rcd) : Hd [81, 89, 88, 46] (tl9 r) := (hd10 r).filled
theorem hd8 (r : Rcd) : Hd [79, 81, 89, 88, 46] (tl8 r) := (hd9 r).filled
theorem hd7 (r : Rcd) : Hd [78, 79, 81, 89, 88, 46] (tl7 r) := (hd8 r).filled
theorem hd6 (r : Rcd) : Hd [77, 78, 79, 81, 89, 88, 46] (tl6 r) := (hd7 r).lines
theorem hd5 (r : Rcd) : Hd [82, 77, 78, 79, 81, 89, 88, 46] (tl5 r) := (hd6 r).lines
theorem hd4 (r : Rcd) : Hd [76, 82, 77, 78, 79, 81, 89, 88, 46] (tl4 r) := (hd5 r).lines
theorem hd3 (r : Rcd) : Hd [71, 76, 82, 77, 78, 79, 81, 89, 88, 46] (tl3 r) := (hd4 r).lines
structure Reads (r : Rcd) : Prop where
  p : line1 80 (encT r) = (r.path, tl1 r)
  i : line1 73 (tl1 r) = (baseT 10 r.index, tl2 r)
  e : listP 69 (tl2 r) = (r.props.map attrT, tl3 r)
  g : listP 71 (tl3 r) = (r.tags, tl4 r)
  l : listP 76 (tl4 r) = (r.links, tl5 r)
  rn : listP 82 (tl5 r) = (r.run, tl6 r)
  m : listP 77 (tl6 r) = (r.load, tl7 r)
  n : line1 78 (tl7 r) = (r.name, tl8 r)
  o : line1 79 (tl8 r) = (r.owner, tl9 r)
  q : line1 81 (tl9 r) = (r.group, tl10 r)
  y : line1 89 (tl10 r) = (numT 10 r.prio, tl11 r)
  x : line1 88 (tl11 r) = (numT 8 r.mode, tl12)
theorem reads {r : Rcd} (h : Nice r) : Reads r where
  p := line1_line (by decide) h.path
  i := line1_line (by decide) (base_nl (by decide) (by decide) _)
  e := listP_lines (hd3 r) (by decide) (by decide) (attr_nl h)
  g := listP_lines (hd4 r) (by decide) (by decide) h.tag
  l := listP_lines (hd5 r) (by decide) (by decide) h.link
  rn := listP_lines (hd6 r) (by decide) (by decide) h.run
  m := listP_lines (hd7 r) (by decide) (by decide) h.load
  n := line1_filled (hd8 r) (by decide) (by decide) h.name
  o := line1_filled (hd9 r) (by decide) (by decide) h.owner
  q := line1_filled (hd10 r) (by decide) (by decide) h.group
  y := line1_filled (hd11 r) (by decide) (by decide) (num_nl (by decide) (by decide) _)
  x := line1_filled hd12 (by decide) (by decide) (num_nl (by decide) (by decide) _)

def attrP (s : List UInt8) : List UInt8 × List UInt8 := match cutL 61 s with | some p => p | none => (s, [])
theorem attrP_T {p : List UInt8 × List UInt8} (h : 61 ∉ p.1) : attrP (attrT p) = p := by rw [attrP, attrT, cutL_app h]
theorem attrsP {r : Rcd} (h : Nice r) : (r.props.map attrT).map attrP = r.props := by
  rw [List.map_map]
  conv => rhs; rw [← List.map_id r.props]
  exact List.map_congr_left fun p hp => attrP_T (h.key p hp).2

/-! ### The second reader: all lines, one after the other -/
def nil0 : Rcd := ⟨[], 0, [], [], [], [], [], [], 0, [], [], 0⟩
def refN (b : Nat) (s : List UInt8) : Int :=
  let t := if s.take 1 = [45] then s.drop 1 else s
  (if s.take 1 = [45] then -1 else 1) * (if t.length ≤ 10 then valB b t else 0)
def stepR (x : Rcd) (s : List UInt8) : Rcd :=
  let v := s.drop 2
  let k := s.take 2
  if s.length < 2 then x else
  if k = [80, 58] then { x with path := v } else
  if k = [73, 58] then { x with index := refN 10 v } else
  if k = [69, 58] then { x with props := x.props ++ [attrP v] } else
  if k = [71, 58] then { x with tags := x.tags ++ [v] } else
  if k = [76, 58] then { x with links := x.links ++ [v] } else
  if k = [82, 58] then { x with run := x.run ++ [v] } else
  if k = [77, 58] then { x with load := x.load ++ [v] } else
  if k = [78, 58] then { x with name := v } else
  if k = [79, 58] then { x with owner := v } else
  if k = [81, 58] then { x with group := v } else
  if k = [89, 58] then { x with prio := refN 10 v } else
  if k = [88, 58] then { x with mode := refN 8 v } else x
theorem refN_base {b : Nat} (hb : 2 ≤ b) (hb2 : b ≤ 10) {n : Int} (hn : n.natAbs < b ^ 10) : refN b (baseT b n) = n := by
  obtain ⟨h1, h2, h3, h4⟩ := digsB_spec hb hb2 n.natAbs
  have hl := h4 10 (by decide) hn
  by_cases h : n < 0
  · rw [baseT, if_pos h]
    simp [refN, hl, h1]; omega
  · have e : n.toNat = n.natAbs := by omega
    rw [baseT, if_neg h, e]
    obtain ⟨c, r, hd⟩ := List.exists_cons_of_ne_nil h3
    have hc : ¬ c = 45 := fun e => by
      have := h2 c (by rw [hd]; simp)
      rw [e] at this
      have e2 : (45 : UInt8).toNat = 45 := rfl
      omega
    have h45 : ¬ (digsB b n.natAbs).take 1 = [45] := by rw [hd]; simpa using hc
    simp only [refN, if_neg h45, if_pos hl, h1]; omega
def linesOf (r : Rcd) : List (List UInt8) :=
  (80 :: 58 :: r.path) :: (73 :: 58 :: baseT 10 r.index) :: ((r.props.map attrT).map (fun s => 69 :: 58 :: s) ++ (r.tags.map (fun s => 71 :: 58 :: s) ++ (r.links.map (fun s => 76 :: 58 :: s) ++ (r.run.map (fun s => 82 :: 58 :: s) ++ (r.load.map (fun s => 77 :: 58 :: s) ++
    ((if r.name = [] then [] else [78 :: 58 :: r.name]) ++ ((if r.owner = [] then [] else [79 :: 58 :: r.owner]) ++ ((if r.group = [] then [] else [81 :: 58 :: r.group]) ++
    ((if numT 10 r.prio = [] then [] else [89 :: 58 :: numT 10 r.prio]) ++ ((if numT 8 r.mode = [] then [] else [88 :: 58 :: numT 8 r.mode]) ++ [[46]]))))))))))
theorem lines_flat (b : UInt8) (l : List (List UInt8)) : (l.map fun s => b :: 58 :: s).flatMap (· ++ [10]) = linesT b l := by
  induction l with
  | nil => rfl
  | cons x l ih => simp only [List.map_cons, List.flatMap_cons, ih, linesT]; simp [lineT]
theorem filled_flat (b : UInt8) (x : List UInt8) : (if x = [] then [] else [b :: 58 :: x]).flatMap (· ++ [10]) = filledT b x := by
  unfold filledT; split <;> simp [lineT]
theorem enc_flat (r : Rcd) : encT r = (linesOf r).flatMap (· ++ [10]) := by
  simp only [linesOf, List.flatMap_cons, List.flatMap_append, lines_flat, filled_flat, encT]
  simp [lineT]
theorem splitC_flat : ∀ {l : List (List UInt8)}, (∀ x ∈ l, 10 ∉ x) → splitC 10 (l.flatMap (· ++ [10])) = l ++ [[]]
  | [], _ => rfl
  | x :: l, h => by
    have e : (x :: l).flatMap (· ++ [10]) = x ++ 10 :: l.flatMap (· ++ [10]) := by simp
    rw [e, splitC_app (h x (by simp)), splitC_flat fun y hy => h y (by simp [hy])]; rfl
theorem linesOf_nl {r : Rcd} (h : Nice r) : ∀ x ∈ linesOf r, 10 ∉ x := by
  intro x hx
  have cons : ∀ {b : UInt8} {s : List UInt8}, b ≠ 10 → 10 ∉ s → 10 ∉ b :: 58 :: s := fun hb hs => by simp [hs, hb.symm]
  have mp : ∀ {b : UInt8} {l : List (List UInt8)}, b ≠ 10 → (∀ y ∈ l, 10 ∉ y) → x ∈ l.map (fun s => b :: 58 :: s) → 10 ∉ x := fun hb hl hx => by
    obtain ⟨y, hy, rfl⟩ := List.mem_map.1 hx; exact cons hb (hl y hy)
  have fl : ∀ {b : UInt8} {s : List UInt8}, b ≠ 10 → 10 ∉ s → x ∈ (if s = [] then [] else [b :: 58 :: s]) → 10 ∉ x := fun hb hs hx => by
    split at hx
    · simp at hx
    · simp at hx; subst hx; exact cons hb hs
  simp only [linesOf, List.mem_cons, List.mem_append] at hx
  rcases hx with rfl | rfl | hx | hx | hx | hx | hx | hx | hx | hx | hx | hx | hx
  · exact cons (by decide) h.path
  · exact cons (by decide) (base_nl (by decide) (by decide) _)
  · exact mp (by decide) (attr_nl h) hx
  · exact mp (by decide) h.tag hx
  · exact mp (by decide) h.link hx
  · exact mp (by decide) h.run hx
  · exact mp (by decide) h.load hx
  · exact fl (by decide) h.name hx
  · exact fl (by decide) h.owner hx
  · exact fl (by decide) h.group hx
  · exact fl (by decide) (num_nl (by decide) (by decide) _) hx
  · exact fl (by decide) (num_nl (by decide) (by decide) _) hx
  · rcases hx with rfl | hx
    · simp
    · cases hx
theorem lt2 (n : Nat) : (n + 1 + 1 < 2) = False := by simp
theorem fold_props (l : List (List UInt8)) : ∀ x : Rcd, (l.map fun s => 69 :: 58 :: s).foldl stepR x = { x with props := x.props ++ l.map attrP } := by
  induction l with
  | nil => intro x; simp
  | cons s l ih => intro x; simp only [List.map_cons, List.foldl_cons, ih]; simp +decide [stepR, lt2]
theorem fold_tags (l : List (List UInt8)) : ∀ x : Rcd, (l.map fun s => 71 :: 58 :: s).foldl stepR x = { x with tags := x.tags ++ l } := by
  induction l with
  | nil => intro x; simp
  | cons s l ih => intro x; simp only [List.map_cons, List.foldl_cons, ih]; simp +decide [stepR, lt2]
theorem fold_links (l : List (List UInt8)) : ∀ x : Rcd, (l.map fun s => 76 :: 58 :: s).foldl stepR x = { x with links := x.links ++ l } := by
  induction l with
  | nil => intro x; simp
  | cons s l ih => intro x; simp only [List.map_cons, List.foldl_cons, ih]; simp +decide [stepR, lt2]
theorem fold_run (l : List (List UInt8)) : ∀ x : Rcd, (l.map fun s => 82 :: 58 :: s).foldl stepR x = { x with run := x.run ++ l } := by
  induction l with
  | nil => intro x; simp
  | cons s l ih => intro x; simp only [List.map_cons, List.foldl_cons, ih]; simp +decide [stepR, lt2]
theorem fold_load (l : List (List UInt8)) : ∀ x : Rcd, (l.map fun s => 77 :: 58 :: s).foldl stepR x = { x with load := x.load ++ l } := by
  induction l with
  | nil => intro x; simp
  | cons s l ih => intro x; simp only [List.map_cons, List.foldl_cons, ih]; simp +decide [stepR, lt2]
theorem fold_if (b : UInt8) (s : List UInt8) (x y : Rcd) (h1 : s = [] → x = y) (h2 : s ≠ [] → stepR x (b :: 58 :: s) = y) : (if s = [] then [] else [b :: 58 :: s]).foldl stepR x = y := by
  split
  · exact h1 (by assumption)
  · exact h2 (by assumption)
theorem numT_nil {b : Nat} (hb : 2 ≤ b) (hb2 : b ≤ 10) {n : Int} : numT b n = [] ↔ n = 0 := by
  unfold numT; split
  · simp [*]
  · simp [*, baseT_ne hb hb2]
theorem refN_num {b : Nat} (hb : 2 ≤ b) (hb2 : b ≤ 10) {n : Int} (hn : n.natAbs < b ^ 10) (h : numT b n ≠ []) : refN b (numT b n) = n := by
  have h0 : n ≠ 0 := fun e => h ((numT_nil hb hb2).2 e)
  rw [numT, if_neg h0]; exact refN_base hb hb2 hn
theorem fold_enc {r : Rcd} (h : Nice r) : (splitC 10 (encT r)).foldl stepR nil0 = r := by
  rw [enc_flat, splitC_flat (linesOf_nl h)]
  have hi := h.index
  have hp := h.prio
  have hm := h.mode
  simp only [linesOf, List.foldl_cons, List.foldl_append, fold_props, fold_tags, fold_links, fold_run, fold_load, attrsP h]
  have e1 : stepR nil0 (80 :: 58 :: r.path) = { nil0 with path := r.path } := by simp +decide [stepR, lt2]
  have e2 : ∀ x : Rcd, stepR x (73 :: 58 :: baseT 10 r.index) = { x with index := r.index } := fun x => by
    simp +decide [stepR, lt2, refN_base (b := 10) (by decide) (by decide) (n := r.index) (by omega)]
  have en : ∀ x : Rcd, x.name = [] → (if r.name = [] then [] else [78 :: 58 :: r.name]).foldl stepR x = { x with name := r.name } := fun x hx =>
    fold_if _ _ _ _ (fun e => by rw [e, ← hx]) fun _ => by simp +decide [stepR, lt2]
  have eo : ∀ x : Rcd, x.owner = [] → (if r.owner = [] then [] else [79 :: 58 :: r.owner]).foldl stepR x = { x with owner := r.owner } := fun x hx =>
    fold_if _ _ _ _ (fun e => by rw [e, ← hx]) fun _ => by simp +decide [stepR, lt2]
  have eg : ∀ x : Rcd, x.group = [] → (if r.group = [] then [] else [81 :: 58 :: r.group]).foldl stepR x = { x with group := r.group } := fun x hx =>
    fold_if _ _ _ _ (fun e => by rw [e, ← hx]) fun _ => by simp +decide [stepR, lt2]
  have ey : ∀ x : Rcd, x.prio = 0 → (if numT 10 r.prio = [] then [] else [89 :: 58 :: numT 10 r.prio]).foldl stepR x = { x with prio := r.prio } := fun x hx =>
    fold_if _ _ _ _ (fun e => by rw [(numT_nil (by decide) (by decide)).1 e, ← hx]) fun e => by
      simp +decide [stepR, lt2, refN_num (b := 10) (by decide) (by decide) (n := r.prio) (by omega) e]
  have ex : ∀ x : Rcd, x.mode = 0 → (if numT 8 r.mode = [] then [] else [88 :: 58 :: numT 8 r.mode]).foldl stepR x = { x with mode := r.mode } := fun x hx =>
    fold_if _ _ _ _ (fun e => by rw [(numT_nil (by decide) (by decide)).1 e, ← hx]) fun e => by
      simp +decide [stepR, lt2, refN_num (b := 8) (by decide) (by decide) (n := r.mode) (by omega) e]
  have ed : ∀ x : Rcd, stepR x [46] = x := fun x => by simp [stepR]
  have e0 : ∀ x : Rcd, stepR x [] = x := fun x => by simp [stepR]
  rw [e1, e2, en _ rfl, eo _ rfl, eg _ rfl, ey _ rfl, ex _ rfl]
  simp [ed, e0, nil0]

theorem enc_inj {r r' : Rcd} (h : soundB r = true) (h' : soundB r' = true) (he : encT r = encT r') : r = r' := by
  rw [← fold_enc (nice_of h), ← fold_enc (nice_of h'), he]

/-! ### What is decoded -/
def decS (s : List UInt8) : Prop := ∃ r, soundB r = true ∧ encT r = s
noncomputable def decV (s : List UInt8) : AV :=
  open Classical in if h : decS s then .tup [.agg (rRow h.choose), .int .i64 0] else .tup [.agg (rRow nil0), .int .i64 251]
end Go.Ab
