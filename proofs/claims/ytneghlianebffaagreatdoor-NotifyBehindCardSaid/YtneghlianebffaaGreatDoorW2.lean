/- Names of interfaces. -/
import Derived.Test.YtneghlianebffaaGreatDoorOX
import Derived.Test.YtneghlianebffaaGreatDoorW1
import Derived.Test.YtneghlianebffaaGreatDoorA5
namespace Go.Ab
open Go Go.Proofs
def ifaceB (s : List UInt8) : Bool := validB s && decide (s.length ≤ 15) && !(decide (58 ∈ s)) && !(decide (33 ∈ s))

theorem indexAny_nonneg (cs : List UInt8) : ∀ s : List UInt8, 0 ≤ Lib.indexAny s cs ↔ ∃ x ∈ s, x ∈ cs
  | [] => by simp [Lib.indexAny]
  | b :: r => by
    have ih := indexAny_nonneg cs r
    have hge := Lib.indexAny_ge cs r
    by_cases h : b ∈ cs
    · simp [Lib.indexAny, h]
    · by_cases h2 : Lib.indexAny r cs = -1
      · have : ¬ ∃ x ∈ r, x ∈ cs := fun e => by have := ih.2 e; omega
        simp only [not_exists, not_and] at this
        simp [Lib.indexAny, h, h2]
        exact this
      · have h3 : 0 ≤ Lib.indexAny r cs := by omega
        obtain ⟨x, hx, hc⟩ := ih.1 h3
        have h4 : 0 ≤ Lib.indexAny r cs + 1 := by omega
        simp [Lib.indexAny, h, h2, h4]
        exact ⟨x, hx, hc⟩
theorem containsAny_eq (s cs : List UInt8) : Lib.containsAny s cs = s.any fun c => cs.contains c := by
  unfold Lib.containsAny
  rw [Bool.eq_iff_iff, decide_eq_true_iff, indexAny_nonneg, List.any_eq_true]
  simp only [List.contains_iff_mem]

theorem ContainsAny_c (s cs : List UInt8) (hs : s.length < 1000000) (hc : cs.length < 1000000) (ha : ∀ b ∈ s, b.toNat < 128) (hb : ∀ b ∈ cs, b.toNat < 128) : ACalls Tryz.prog 170 [.str s, .str cs] [] (.bool (s.any fun c => cs.contains c)) [] := by
  refine .of_below (by kernel_rfl) fun c vs hv _ => ?_
  simp only [Vals, Val] at hv
  obtain ⟨v, vs', rfl, rfl, v2, vs2, rfl, rfl, rfl⟩ := hv
  refine (Tryz.strings_ContainsAny_laid ⟨s.toArray⟩ ⟨cs.toArray⟩ c.w (by show s.length < _; omega) (by show cs.length < _; omega) (fun j b hj => ha b (List.mem_of_getElem? (by simpa using hj))) (fun j b hj => hb b (List.mem_of_getElem? (by simpa using hj)))).mono fun e w' h => ?_
  exact ⟨_, h.1, h.2, fun c' => by simp [Val, containsAny_eq]⟩

theorem valid_ascii {s : List UInt8} (h : validB s = true) : ∀ b ∈ s, b.toNat < 128 := by
  unfold validB at h
  simp only [Bool.and_eq_true, List.all_eq_true, decide_eq_true_eq] at h
  intro b hb
  have h2 := h.2 b hb
  have key : ∀ x ∈ setL, x.toNat < 128 := by decide
  exact key b h2

theorem any2 (s : List UInt8) : (s.any fun c => ([58, 33] : List UInt8).contains c) = (decide (58 ∈ s) || decide (33 ∈ s)) := by
  rw [Bool.eq_iff_iff]
  simp only [List.any_eq_true, Bool.or_eq_true, decide_eq_true_eq, List.contains_iff_mem, List.mem_cons, List.not_mem_nil, or_false]
  constructor
  · rintro ⟨x, hx, rfl | rfl⟩
    · exact .inl hx
    · exact .inr hx
  · rintro (h | h)
    · exact ⟨_, h, .inl rfl⟩
    · exact ⟨_, h, .inr rfl⟩

theorem Interface_c (s : List UInt8) : ACalls Tryz.prog 130 [.str s] [] (.bool (ifaceB s)) [] := by
  refine acalls_F c130_ok rfl ?_
  unfold c130 ifaceB
  simp +decide -dsimp -implicitDefEqProofs [go_sem]
  refine callE_pure (nValid_c s) rfl rfl ?_
  by_cases hv : validB s = true
  · by_cases h : s.length ≤ 15
    · have h' : (s.length : Int) ≤ 15 := by omega
      simp +decide -dsimp -implicitDefEqProofs [go_sem, hv, h']
      have hc := ContainsAny_c s [58, 33] (by omega) (by decide) (valid_ascii hv) (by decide)
      rw [any2] at hc
      refine callE_pure hc rfl rfl ?_
      simp +decide -dsimp -implicitDefEqProofs [go_sem, hv, h]
    · have h' : ¬ (s.length : Int) ≤ 15 := by omega
      simp +decide -dsimp -implicitDefEqProofs [go_sem, hv, h, h']
  · simp +decide -dsimp -implicitDefEqProofs [go_sem, hv]

end Go.Ab
namespace Go.Ab
open Go Go.Proofs
theorem filled_c (s : List UInt8) (hl : s.length < 9223372036854775807) : ACalls Tryz.prog 128 [.str s] [] (.bool (decide (s ≠ []) && textB s)) [] := by
  refine acalls_F c128_ok rfl ?_
  unfold c128
  by_cases h : s = []
  · subst h; simp +decide -dsimp -implicitDefEqProofs [go_sem]
  · simp +decide -dsimp -implicitDefEqProofs [go_sem, h]
    refine callE_pure (Text_c s hl) rfl rfl ?_
    simp +decide -dsimp -implicitDefEqProofs [go_sem, h]

theorem same_c (s : List UInt8) : ACalls Tryz.prog 126 [.str s] [] (.str s) [] := by
  refine acalls_F c126_ok rfl ?_
  unfold c126
  simp +decide -dsimp -implicitDefEqProofs [go_sem]

theorem notFilled_c (s : List UInt8) (hl : s.length < 9223372036854775807) : ACalls Tryz.prog 129 [.str s] [] (.bool (!(decide (s ≠ []) && textB s))) [] := by
  refine acalls_F c129_ok rfl ?_
  unfold c129
  simp +decide -dsimp -implicitDefEqProofs [go_sem]
  refine callE_pure (filled_c s hl) rfl rfl ?_
  simp +decide -dsimp -implicitDefEqProofs [go_sem]

def aRow (p : List UInt8 × List UInt8) : List AV := [.str p.1, .str p.2]
theorem attrKey_c (p : List UInt8 × List UInt8) : ACalls Tryz.prog 122 [.agg (aRow p)] [] (.str p.1) [] := by
  refine acalls_F c122_ok rfl ?_
  unfold c122 aRow
  simp +decide -dsimp -implicitDefEqProofs [go_sem]
theorem attrGood_c (p : List UInt8 × List UInt8) (hl : p.2.length < 9223372036854775807) : ACalls Tryz.prog 123 [.agg (aRow p)] [] (.bool (keyNB p.1 && textB p.2)) [] := by
  refine acalls_F c123_ok rfl ?_
  unfold c123 aRow
  simp +decide -dsimp -implicitDefEqProofs [go_sem]
  refine callE_pure (Key_c p.1) rfl rfl ?_
  by_cases h : keyNB p.1 = true
  · simp +decide -dsimp -implicitDefEqProofs [go_sem, h]
    refine callE_pure (Text_c p.2 hl) rfl rfl ?_
    simp +decide -dsimp -implicitDefEqProofs [go_sem, h]
  · simp +decide -dsimp -implicitDefEqProofs [go_sem, h]
end Go.Ab
namespace Go.Ab
open Go Go.Proofs
def ascB : List (List UInt8) → Bool
  | a :: b :: r => Op.bytesLess a b && ascB (b :: r)
  | _ => true
theorem asc_iff : ∀ {l : List (List UInt8)}, ascB l = true ↔ ∀ i (h : i + 1 < l.length), Op.bytesLess l[i] l[i + 1] = true
  | [] => by simp [ascB]
  | [a] => by simp [ascB]
  | a :: b :: r => by
    simp only [ascB, Bool.and_eq_true]
    rw [asc_iff (l := b :: r)]
    constructor
    · rintro ⟨h1, h2⟩ i hi
      cases i with
      | zero => exact h1
      | succ i => exact h2 i (by simpa using hi)
    · intro h
      exact ⟨h 0 (by simp), fun i hi => h (i + 1) (by simpa using hi)⟩
def risB (l : List (List UInt8)) (g : List UInt8 → Bool) (n : Nat) : Bool := l.all g && ascB l && decide (l.length ≤ n)

set_option maxRecDepth 20000 in
theorem risingS_c (l : List (List UInt8)) (g : List UInt8 → Bool) (G : Nat) (n : Nat) (hl : l.length < 1000000000) (hg : ∀ x ∈ l, ACalls Tryz.prog G [.str x] [] (.bool (g x)) []) :
    ACalls Tryz.prog 125 [.imm (l.map sRow), .int .i64 n, .fn (.func 126) [] [], .fn (.func G) [] []] [] (.bool (risB l g n)) [] := by
  refine acalls_F c125_ok rfl ?_
  unfold c125
  simp +decide -dsimp -implicitDefEqProofs [go_sem]
  refine loop_of (S := Nat) (fun i => ⟨tmps 44 [(0, .imm (l.map sRow)), (1, .int .i64 n), (2, .fn (.func 126) [] []), (3, .fn (.func G) [] []), (11, .imm (l.map sRow)), (12, .int .i64 l.length), (13, .int .i64 i)], []⟩) (fun i => l.length - i)
    (fun i => i ≤ l.length ∧ (∀ x ∈ l.take i, g x = true) ∧ ∀ j (h : j + 1 < l.length), j + 1 < i → Op.bytesLess l[j] l[j + 1] = true) 0 (by simp) (cut_of (by simp) ?_) ?_
  · simp +decide -dsimp -implicitDefEqProofs [go_sem]
  intro i hi
  obtain ⟨hi0, hi1, hi2⟩ := hi
  by_cases h : i < l.length
  · have w : IntKind.i64.wrap ((i : Int) + 1) = i + 1 := w64 (by omega) (by omega)
    simp +decide -dsimp -implicitDefEqProofs [go_sem, h]
    refine callE_pure (hg l[i] (List.getElem_mem h)) rfl rfl ?_
    by_cases h1 : g l[i] = true
    · have hnext : ∀ x ∈ l.take (i + 1), g x = true := fun x hx => by
        rw [List.take_succ_eq_append_getElem h] at hx
        rcases List.mem_append.1 hx with hx | hx
        · exact hi1 x hx
        · simp at hx; subst hx; exact h1
      by_cases h0 : i = 0
      · subst h0
        simp +decide -dsimp -implicitDefEqProofs [go_sem, h1]
        refine next_of 1 ⟨by omega, hnext, fun j hj hj2 => by omega⟩ (by omega) (cut_of (by simp) ?_)
        simp +decide -dsimp -implicitDefEqProofs [go_sem]
      · obtain ⟨k, rfl⟩ : ∃ k, i = k + 1 := ⟨i - 1, by omega⟩
        have hk : k < l.length := by omega
        have wk : IntKind.i64.wrap (k : Int) = k := w64 (by omega) (by omega)
        have e1 : (0 : Int) < (k : Int) + 1 := by omega
        simp +decide -dsimp -implicitDefEqProofs [go_sem, h1, wk, hk, e1]
        refine callE_pure (same_c l[k]) rfl rfl ?_
        simp +decide -dsimp -implicitDefEqProofs [go_sem]
        refine callE_pure (same_c l[k + 1]) rfl rfl ?_
        by_cases h2 : Op.bytesLess l[k] l[k + 1] = true
        · have w' : IntKind.i64.wrap ((k : Int) + 1 + 1) = k + 1 + 1 := w64 (by omega) (by omega)
          simp +decide -dsimp -implicitDefEqProofs [go_sem, h2, w']
          refine next_of (k + 1 + 1) ⟨by omega, hnext, fun j hj hj2 => ?_⟩ (by omega) (cut_of (by simp) ?_)
          · by_cases hjk : j = k
            · subst hjk; exact h2
            · exact hi2 j hj (by omega)
          simp +decide -dsimp -implicitDefEqProofs [go_sem]
        · have e : risB l g n = false := by
            have : ascB l = false := by
              rw [Bool.eq_false_iff]; intro ha; exact h2 (asc_iff.1 ha k h)
            simp [risB, this]
          simp +decide -dsimp -implicitDefEqProofs [go_sem, h2, e]
    · have e : risB l g n = false := by
        have : l.all g = false := by rw [List.all_eq_false]; exact ⟨l[i], List.getElem_mem h, h1⟩
        simp [risB, this]
      simp +decide -dsimp -implicitDefEqProofs [go_sem, h1, e]
  · have e : i = l.length := by omega
    subst e
    rw [List.take_length] at hi1
    have e1 : l.all g = true := List.all_eq_true.2 hi1
    have e2 : ascB l = true := asc_iff.2 fun j hj => hi2 j hj hj
    have e3 : (decide ((l.length : Int) ≤ n)) = decide (l.length ≤ n) := by rw [decide_eq_decide]; omega
    simp +decide -dsimp -implicitDefEqProofs [go_sem, risB, e1, e2]
end Go.Ab
namespace Go.Ab
open Go Go.Proofs
@[go_sem] theorem closedLL_aRows (k : Nat) (s : List (List UInt8 × List UInt8)) : closedLL k (s.map aRow) = true := closedLL_map fun x _ => by simp [aRow, closedL, closed]
@[go_sem] theorem renLL_aRows (is : List Nat) (s : List (List UInt8 × List UInt8)) : renLL is (s.map aRow) = s.map aRow := by
  induction s with
  | nil => rfl
  | cons x r ih => simp [renLL, ih, aRow, renL, ren]
@[go_sem] theorem aRow_len (x : List UInt8 × List UInt8) : (aRow x).length = 2 := rfl
@[go_sem ↓] theorem ldK_aRow (x : List UInt8 × List UInt8) (K : AV → Prop) : ldK (some 2) (aRow x) K = K (.agg (aRow x)) := by simp [ldK, aRow]
@[go_sem ↓] theorem ldK_aRow0 (x : List UInt8 × List UInt8) (K : AV → Prop) : ldK none (aRow x) K = K (.str x.1) := rfl
@[go_sem] theorem aRow_tail (x : List UInt8 × List UInt8) : (aRow x).tail = [.str x.2] := rfl
@[go_sem ↓] theorem ldK_aRow1 (x : List UInt8 × List UInt8) (K : AV → Prop) : ldK none (aRow x).tail K = K (.str x.2) := rfl
@[go_sem ↓] theorem ldK_aRow2 (x : List UInt8 × List UInt8) (K : AV → Prop) : ldK none ((aRow x).drop 1) K = K (.str x.2) := rfl
@[go_sem] theorem aRow_drop0 (x : List UInt8 × List UInt8) : (aRow x).drop 0 = aRow x := rfl
def goodA (p : List UInt8 × List UInt8) : Bool := keyNB p.1 && textB p.2
def risAB (l : List (List UInt8 × List UInt8)) (n : Nat) : Bool := l.all goodA && ascB (l.map (·.1)) && decide (l.length ≤ n)

set_option maxRecDepth 20000 in
theorem risingA_c (l : List (List UInt8 × List UInt8)) (n : Nat) (hl : l.length < 1000000000) (hv : ∀ x ∈ l, x.2.length < 9223372036854775807) :
    ACalls Tryz.prog 121 [.imm (l.map aRow), .int .i64 n, .fn (.func 122) [] [], .fn (.func 123) [] []] [] (.bool (risAB l n)) [] := by
  refine acalls_F c121_ok rfl ?_
  unfold c121
  simp +decide -dsimp -implicitDefEqProofs [go_sem]
  refine loop_of (S := Nat) (fun i => ⟨tmps 44 [(0, .imm (l.map aRow)), (1, .int .i64 n), (2, .fn (.func 122) [] []), (3, .fn (.func 123) [] []), (11, .imm (l.map aRow)), (12, .int .i64 l.length), (13, .int .i64 i)], []⟩) (fun i => l.length - i)
    (fun i => i ≤ l.length ∧ (∀ x ∈ l.take i, goodA x = true) ∧ ∀ j (h : j + 1 < l.length), j + 1 < i → Op.bytesLess l[j].1 l[j + 1].1 = true) 0 (by simp) (cut_of (by simp) ?_) ?_
  · simp +decide -dsimp -implicitDefEqProofs [go_sem]
  intro i hi
  obtain ⟨hi0, hi1, hi2⟩ := hi
  by_cases h : i < l.length
  · have w : IntKind.i64.wrap ((i : Int) + 1) = i + 1 := w64 (by omega) (by omega)
    simp +decide -dsimp -implicitDefEqProofs [go_sem, h]
    refine callDE_pure (show ACalls Tryz.prog 123 [.agg (aRow l[i])] [] (.bool (goodA l[i])) [] from attrGood_c l[i] (hv _ (List.getElem_mem h))) rfl rfl ?_
    by_cases h1 : goodA l[i] = true
    · have hnext : ∀ x ∈ l.take (i + 1), goodA x = true := fun x hx => by
        rw [List.take_succ_eq_append_getElem h] at hx
        rcases List.mem_append.1 hx with hx | hx
        · exact hi1 x hx
        · simp at hx; subst hx; exact h1
      by_cases h0 : i = 0
      · subst h0
        simp +decide -dsimp -implicitDefEqProofs [go_sem, h1]
        refine next_of 1 ⟨by omega, hnext, fun j hj hj2 => by omega⟩ (by omega) (cut_of (by simp) ?_)
        simp +decide -dsimp -implicitDefEqProofs [go_sem]
      · obtain ⟨k, rfl⟩ : ∃ k, i = k + 1 := ⟨i - 1, by omega⟩
        have hk : k < l.length := by omega
        have wk : IntKind.i64.wrap (k : Int) = k := w64 (by omega) (by omega)
        have e1 : (0 : Int) < (k : Int) + 1 := by omega
        simp +decide -dsimp -implicitDefEqProofs [go_sem, h1, wk, hk, e1]
        refine callDE_pure (attrKey_c l[k]) rfl rfl ?_
        simp +decide -dsimp -implicitDefEqProofs [go_sem]
        refine callDE_pure (attrKey_c l[k + 1]) rfl rfl ?_
        by_cases h2 : Op.bytesLess l[k].1 l[k + 1].1 = true
        · have w' : IntKind.i64.wrap ((k : Int) + 1 + 1) = k + 1 + 1 := w64 (by omega) (by omega)
          simp +decide -dsimp -implicitDefEqProofs [go_sem, h2, w']
          refine next_of (k + 1 + 1) ⟨by omega, hnext, fun j hj hj2 => ?_⟩ (by omega) (cut_of (by simp) ?_)
          · by_cases hjk : j = k
            · subst hjk; exact h2
            · exact hi2 j hj (by omega)
          simp +decide -dsimp -implicitDefEqProofs [go_sem]
        · have e : risAB l n = false := by
            have : ascB (l.map (·.1)) = false := by
              rw [Bool.eq_false_iff]; intro ha; exact h2 (by have := asc_iff.1 ha k (by simpa using h); simpa using this)
            simp [risAB, this]
          simp +decide -dsimp -implicitDefEqProofs [go_sem, h2, e]
    · have e : risAB l n = false := by
        have : l.all goodA = false := by rw [List.all_eq_false]; exact ⟨l[i], List.getElem_mem h, h1⟩
        simp [risAB, this]
      simp +decide -dsimp -implicitDefEqProofs [go_sem, h1, e]
  · have e : i = l.length := by omega
    subst e
    rw [List.take_length] at hi1
    have e1 : l.all goodA = true := List.all_eq_true.2 hi1
    have e2 : ascB (l.map (·.1)) = true := asc_iff.2 fun j hj => (by simpa using hi2 j (by simpa using hj) (by simpa using hj))
    have e3 : (decide ((l.length : Int) ≤ n)) = decide (l.length ≤ n) := by rw [decide_eq_decide]; omega
    simp +decide -dsimp -implicitDefEqProofs [go_sem, risAB, e1, e2]
end Go.Ab
namespace Go.Ab
open Go Go.Proofs
end Go.Ab
namespace Go.Ab
open Go Go.Proofs
structure Rcd where
  path : List UInt8
  index : Int
  props : List (List UInt8 × List UInt8)
  tags : List (List UInt8)
  links : List (List UInt8)
  run : List (List UInt8)
  load : List (List UInt8)
  name : List UInt8
  prio : Int
  owner : List UInt8
  group : List UInt8
  mode : Int
  deriving DecidableEq
def rRow (r : Rcd) : List AV := [.str r.path, .int .i64 r.index, .imm (r.props.map aRow), .imm (r.tags.map sRow), .imm (r.links.map sRow), .imm (r.run.map sRow), .imm (r.load.map sRow), .str r.name, .int .i64 r.prio, .str r.owner, .str r.group, .int .i64 r.mode]
def fillB (s : List UInt8) : Bool := decide (s ≠ []) && textB s
def soundB (r : Rcd) : Bool :=
  placeB r.path && decide (1 ≤ r.index ∧ r.index ≤ 1073741824) && risAB r.props 64 && risB r.tags validB 16 && risB r.links linkB 16 && risB r.load fillB 16 && decide (r.run.length ≤ 16) && r.run.all fillB &&
    (decide (r.name = []) || ifaceB r.name) && decide (-1000 ≤ r.prio ∧ r.prio ≤ 1000) && decide (0 ≤ r.mode ∧ r.mode ≤ 4095) &&
    (decide (r.owner = [] ∧ r.group = [] ∧ r.mode = 0 ∧ r.links = []) || validB r.owner && validB r.group)
structure Few (r : Rcd) : Prop where
  path : r.path.length < 100000000
  tags : r.tags.length < 1000000000
  props : r.props.length < 1000000000
  vals : ∀ x ∈ r.props, x.2.length < 1000000000
  links : r.links.length < 1000000000
  link : ∀ x ∈ r.links, x.length < 1000000000
  runs : r.run.length < 1000000000
  rn : ∀ x ∈ r.run, x.length < 1000000000
  loads : r.load.length < 1000000000
  ld : ∀ x ∈ r.load, x.length < 1000000000

end Go.Ab
namespace Go.Ab
open Go Go.Proofs

def plainB (r : Rcd) : Bool := decide (r.owner = [] ∧ r.group = [] ∧ r.mode = 0 ∧ r.links = [])
set_option maxRecDepth 20000 in
theorem sound_c (r : Rcd) (hf : Few r) : ACalls Tryz.prog 90 [.agg (rRow r)] [] (.bool (soundB r)) [] := by
  refine acalls_A c90_ok rfl ?_
  unfold c90
  refine awp_cut ⟨tmps 93 [(1, .ptr 0 0), (2, .bool false)], [.box 36 (rRow r)]⟩ (awp_of ?_) (awp_cut ⟨tmps 93 [(1, .ptr 0 0), (2, .bool false), (3, .bool (plainB r))], [.box 36 (rRow r)]⟩ (awp_of ?_) (awp_of ?_))
  · unfold rRow
    simp +decide -dsimp -implicitDefEqProofs [go_sem]
    refine cutE_of (by simp) ?_
    simp +decide -dsimp -implicitDefEqProofs [go_sem]
  · unfold rRow
    by_cases h1 : r.owner = []
    · by_cases h2 : r.group = []
      · by_cases h3 : r.mode = 0
        · by_cases h4 : r.links = []
          · simp +decide -dsimp -implicitDefEqProofs [go_sem, h1, h2, h3, h4]
            refine cutE_of (by simp) ?_
            simp +decide -dsimp -implicitDefEqProofs [go_sem, plainB, h1, h2, h3, h4]
          · simp +decide -dsimp -implicitDefEqProofs [go_sem, h1, h2, h3]
            refine cutE_of (by simp) ?_
            simp +decide -dsimp -implicitDefEqProofs [go_sem, plainB, h1, h2, h3, h4]
        · simp +decide -dsimp -implicitDefEqProofs [go_sem, h1, h2, h3]
          refine cutE_of (by simp) ?_
          simp +decide -dsimp -implicitDefEqProofs [go_sem, plainB, h1, h2, h3]
      · simp +decide -dsimp -implicitDefEqProofs [go_sem, h1, h2]
        refine cutE_of (by simp) ?_
        simp +decide -dsimp -implicitDefEqProofs [go_sem, plainB, h1, h2]
    · simp +decide -dsimp -implicitDefEqProofs [go_sem, h1]
      refine cutE_of (by simp) ?_
      simp +decide -dsimp -implicitDefEqProofs [go_sem, plainB, h1]
  have hs : soundB r = (placeB r.path && decide (1 ≤ r.index ∧ r.index ≤ 1073741824) && risAB r.props 64 && risB r.tags validB 16 && risB r.links linkB 16 && risB r.load fillB 16 && decide (r.run.length ≤ 16) && r.run.all fillB &&
    (decide (r.name = []) || ifaceB r.name) && decide (-1000 ≤ r.prio ∧ r.prio ≤ 1000) && decide (0 ≤ r.mode ∧ r.mode ≤ 4095) && (plainB r || validB r.owner && validB r.group)) := rfl
  have c1 := isPath_c r.path hf.path
  have c2 := risingA_c r.props 64 hf.props (fun x hx => by have := hf.vals x hx; omega)
  have c3 := risingS_c r.tags validB 41 16 hf.tags (fun x _ => nValid_c x)
  have c4 := risingS_c r.links linkB 127 16 hf.links (fun x hx => Link_c x (hf.link x hx))
  have c5 := risingS_c r.load fillB 128 16 hf.loads (fun x hx => filled_c x (by have := hf.ld x hx; omega))
  have c6 := ContainsFunc_c r.run 129 [] [] (fun x => !fillB x) hf.runs (by simp [closedL]) (by simp [selfH, cvH]) (fun x hx => notFilled_c x (by have := hf.rn x hx; omega))
  have e6 : (r.run.any fun x => !fillB x) = !r.run.all fillB := by rw [← List.not_all_eq_any_not]
  rw [e6] at c6
  have c7 := Interface_c r.name
  generalize hP : plainB r = pl at *
  unfold rRow
  simp +decide -dsimp -implicitDefEqProofs [go_sem]
  refine callE_pure c1 rfl rfl ?_
  by_cases h1 : placeB r.path = true
  rotate_left
  · simp +decide -dsimp -implicitDefEqProofs [go_sem, h1, hs]
  by_cases h2 : r.index < 1
  · have : ¬ (1 ≤ r.index ∧ r.index ≤ 1073741824) := by omega
    simp +decide -dsimp -implicitDefEqProofs [go_sem, h1, h2, hs, this]
  by_cases h3 : 1073741824 < r.index
  · have : ¬ (1 ≤ r.index ∧ r.index ≤ 1073741824) := by omega
    simp +decide -dsimp -implicitDefEqProofs [go_sem, h1, h2, h3, hs, this]
  have hi : (1 ≤ r.index ∧ r.index ≤ 1073741824) := by omega
  simp +decide -dsimp -implicitDefEqProofs [go_sem, h1, h2, h3]
  refine callE_pure c2 (by simp [go_sem]) rfl ?_
  by_cases h4 : risAB r.props 64 = true
  rotate_left
  · simp +decide -dsimp -implicitDefEqProofs [go_sem, h1, h4, hs]
  simp +decide -dsimp -implicitDefEqProofs [go_sem, h4]
  refine callE_pure c3 (by simp [go_sem]) rfl ?_
  by_cases h5 : risB r.tags validB 16 = true
  rotate_left
  · simp +decide -dsimp -implicitDefEqProofs [go_sem, h5, hs]
  simp +decide -dsimp -implicitDefEqProofs [go_sem, h5]
  refine callE_pure c4 (by simp [go_sem]) rfl ?_
  by_cases h6 : risB r.links linkB 16 = true
  rotate_left
  · simp +decide -dsimp -implicitDefEqProofs [go_sem, h6, hs]
  simp +decide -dsimp -implicitDefEqProofs [go_sem, h6]
  refine callE_pure c5 (by simp [go_sem]) rfl ?_
  by_cases h7 : risB r.load fillB 16 = true
  rotate_left
  · simp +decide -dsimp -implicitDefEqProofs [go_sem, h7, hs]
  by_cases h8 : r.run.length ≤ 16
  rotate_left
  · have h8' : (16 : Int) < r.run.length := by omega
    simp +decide -dsimp -implicitDefEqProofs [go_sem, h7, h8, h8', hs]
  have h8' : ¬ (16 : Int) < r.run.length := by omega
  simp +decide -dsimp -implicitDefEqProofs [go_sem, h7, h8']
  refine callE_pure c6 (by simp [go_sem]) rfl ?_
  by_cases h9 : r.run.all fillB = true
  rotate_left
  · simp +decide -dsimp -implicitDefEqProofs [go_sem, h9, hs]
  have fin : ∀ bo bg : Bool, bo = validB r.owner → bg = validB r.group → (decide (r.name = []) || ifaceB r.name) = true → (-1000 ≤ r.prio ∧ r.prio ≤ 1000) → (0 ≤ r.mode ∧ r.mode ≤ 4095) → soundB r = (pl || bo && bg) := fun bo bg e1 e2 e3 e4 e5 => by
    rw [hs, e1, e2, h1, h4, h5, h6, h7, h9, e3]; simp [hi, h8, e4, e5]
  by_cases h10 : r.name = []
  · have hn : (decide (r.name = []) || ifaceB r.name) = true := by simp [h10]
    by_cases h11 : r.prio < -1000
    · have : ¬ (-1000 ≤ r.prio ∧ r.prio ≤ 1000) := by omega
      simp +decide -dsimp -implicitDefEqProofs [go_sem, h9, h10, h11, hs, this]
    by_cases h12 : 1000 < r.prio
    · have : ¬ (-1000 ≤ r.prio ∧ r.prio ≤ 1000) := by omega
      simp +decide -dsimp -implicitDefEqProofs [go_sem, h9, h10, h11, h12, hs, this]
    by_cases h13 : r.mode < 0
    · have : ¬ (0 ≤ r.mode ∧ r.mode ≤ 4095) := by omega
      simp +decide -dsimp -implicitDefEqProofs [go_sem, h9, h10, h11, h12, h13, hs, this]
    by_cases h14 : 4095 < r.mode
    · have : ¬ (0 ≤ r.mode ∧ r.mode ≤ 4095) := by omega
      simp +decide -dsimp -implicitDefEqProofs [go_sem, h9, h10, h11, h12, h13, h14, hs, this]
    rw [fin _ _ rfl rfl hn (by omega) (by omega)]
    cases pl with
    | true => simp +decide -dsimp -implicitDefEqProofs [go_sem, h9, h10, h11, h12, h13, h14]
    | false =>
      simp +decide -dsimp -implicitDefEqProofs [go_sem, h9, h10, h11, h12, h13, h14]
      refine callE_pure (nValid_c r.owner) rfl rfl ?_
      by_cases h15 : validB r.owner = true
      · simp +decide -dsimp -implicitDefEqProofs [go_sem, h15]
        refine callE_pure (nValid_c r.group) rfl rfl ?_
        simp +decide -dsimp -implicitDefEqProofs [go_sem, h15]
      · simp +decide -dsimp -implicitDefEqProofs [go_sem, h15]
  · simp +decide -dsimp -implicitDefEqProofs [go_sem, h9, h10]
    refine callE_pure c7 rfl rfl ?_
    by_cases h10b : ifaceB r.name = true
    rotate_left
    · simp +decide -dsimp -implicitDefEqProofs [go_sem, h10, h10b, hs]
    have hn : (decide (r.name = []) || ifaceB r.name) = true := by simp [h10b]
    by_cases h11 : r.prio < -1000
    · have : ¬ (-1000 ≤ r.prio ∧ r.prio ≤ 1000) := by omega
      simp +decide -dsimp -implicitDefEqProofs [go_sem, h10, h10b, h11, hs, this]
    by_cases h12 : 1000 < r.prio
    · have : ¬ (-1000 ≤ r.prio ∧ r.prio ≤ 1000) := by omega
      simp +decide -dsimp -implicitDefEqProofs [go_sem, h10, h10b, h11, h12, hs, this]
    by_cases h13 : r.mode < 0
    · have : ¬ (0 ≤ r.mode ∧ r.mode ≤ 4095) := by omega
      simp +decide -dsimp -implicitDefEqProofs [go_sem, h10, h10b, h11, h12, h13, hs, this]
    by_cases h14 : 4095 < r.mode
    · have : ¬ (0 ≤ r.mode ∧ r.mode ≤ 4095) := by omega
      simp +decide -dsimp -implicitDefEqProofs [go_sem, h10, h10b, h11, h12, h13, h14, hs, this]
    rw [fin _ _ rfl rfl hn (by omega) (by omega)]
    cases pl with
    | true => simp +decide -dsimp -implicitDefEqProofs [go_sem, h10, h10b, h11, h12, h13, h14]
    | false =>
      simp +decide -dsimp -implicitDefEqProofs [go_sem, h10, h10b, h11, h12, h13, h14]
      refine callE_pure (nValid_c r.owner) rfl rfl ?_
      by_cases h15 : validB r.owner = true
      · simp +decide -dsimp -implicitDefEqProofs [go_sem, h15]
        refine callE_pure (nValid_c r.group) rfl rfl ?_
        simp +decide -dsimp -implicitDefEqProofs [go_sem, h15]
      · simp +decide -dsimp -implicitDefEqProofs [go_sem, h15]
end Go.Ab
namespace Go.Ab
open Go Go.Proofs

end Go.Ab
namespace Go.Ab
open Go Go.Proofs

end Go.Ab
namespace Go.Ab
open Go Go.Proofs
def c22 : AFn := ⟨(sq [(ox 2 (.mov (.v .nils)))] (sq [(ox 3 (.mov (.v .nils)))] (.seq (sq [(mv 6 0), (ox 7 (.nilchk (.t 6))), (ox 8 (fa 0 7)), (ox 9 (ld 8)), (ox 10 (fc 53 [(.t 9)])), (ox 11 (fc 52 [(.t 10), (.v (.fn (.func 54) [] []))])), (ox 12 (.len .sl (.t 11))), (ox 13 (.mov (iv 0)))] (.block 0 (.loop (sq [(ox 14 (b2 .lss 13 12))] (.seq (cd 14 .skip (.exit 0)) (.seq (.block 1 (sq [(ox 15 (.iaddr none 1 (.t 11) (.t 13))), (ox 16 (ld 15)), (mv 5 16)] (.ops [(mv 17 3), (mv 18 0), (ox 19 (.nilchk (.t 18))), (ox 20 (fa 0 19)), (ox 21 (ld 20)), (mv 22 5), (ox 23 (.lookup .str (.agg [(.str []), (.int .i64 0), .nils, .nils, .nils, .nils, .nils, (.str []), (.int .i64 0), (.str []), (.str []), (.int .i64 0)]) false (.t 21) (.t 22))), (ox 24 (fc 45 [(.t 23)])), (ox 25 (.bslice 36 12 false [(.t 24)])), (ox 26 (.append 36 12 208 (.t 17) (.t 25))), (mv 3 26)]))) (.ops [(ox 27 (b1 .add 13 1)), (mv 13 27)]))))))) (sq [(mv 28 3), (mv 2 28)] .ret)))), 29, [(.tmp 2)]⟩
theorem c22_ok : compileF Tryz.prog [] 22 = some c22 := by kernel_rfl
def c85 : AFn := ⟨(sq [(ox 2 (.box 36 (.t 0))), (ox 4 (.mov (.v (.str []))))] (.seq (sq [(ox 7 (fa 2 2)), (ox 8 (ld 7)), (ox 9 (.len .sl (.t 8))), (ox 10 (.mov (iv 0)))] (.block 0 (.loop (sq [(ox 11 (b2 .lss 10 9))] (.seq (cd 11 .skip (.exit 0)) (.seq (.block 1 (sq [(ox 12 (.iaddr none 2 (.t 8) (.t 10))), (ox 13 (.load (some 2) (.t 12))), (ox 6 (.alloc 97 [(.str []), (.str [])])), (on (.store (some 2) (.t 6) (.t 13)))] (sq [(ox 14 (fa 0 6)), (ox 15 (ld 14)), (mv 16 1), (ox 17 (b2 .eql 15 16))] (cd 17 (sq [(ox 18 (fa 1 6)), (ox 19 (ld 18)), (mv 4 19)] .ret) .skip)))) (.ops [(ox 20 (b1 .add 10 1)), (mv 10 20)]))))))) (sq [(ox 4 (.mov (.v (.str []))))] .ret))), 21, [(.tmp 4)]⟩
theorem c85_ok : compileF Tryz.prog [] 85 = some c85 := by kernel_rfl
def c45 : AFn := ⟨(sq [(ox 1 (.box 36 (.t 0))), (ox 2 (.alloc 36 [(.str []), (.int .i64 0), .nils, .nils, .nils, .nils, .nils, (.str []), (.int .i64 0), (.str []), (.str []), (.int .i64 0)]))] (.seq (.draw [(ox 3 (fa 2 1)), (ox 4 (ld 3)), (ox 5 (fc 88 [(.t 4)])), (ox 6 (fa 3 1)), (ox 7 (ld 6)), (ox 8 (fc 89 [(.t 7)])), (ox 9 (fa 4 1)), (ox 10 (ld 9)), (ox 11 (fc 89 [(.t 10)])), (ox 12 (fa 2 1)), (on (.store none (.t 12) (.t 5))), (ox 13 (fa 3 1)), (on (.store none (.t 13) (.t 8))), (ox 14 (fa 4 1)), (on (.store none (.t 14) (.t 11)))] [0, 1, 3, 0, 8, 31, 0, 64, 255, 223, 1023, 2047, 4095, 8191, 16383]) (.seq (.draw [(ox 15 (fa 5 1)), (ox 16 (ld 15)), (ox 17 (fc 89 [(.t 16)])), (ox 18 (fa 6 1)), (ox 19 (ld 18)), (ox 20 (fc 89 [(.t 19)])), (ox 21 (fa 5 1)), (on (.store none (.t 21) (.t 17))), (ox 22 (fa 6 1)), (on (.store none (.t 22) (.t 20)))] [0, 1, 3, 0, 8, 31, 31, 127, 255, 511]) (sq [(ox 23 (.load (some 12) (.t 1))), (on (.store (some 12) (.t 2) (.t 23)))] .ret)))), 24, [(.cell 2 (some 12))]⟩
theorem c45_ok : compileF Tryz.prog [] 45 = some c45 := by kernel_rfl
end Go.Ab
namespace Go.Ab
open Go Go.Proofs

@[go_sem ↓] theorem kinds_aRow (x : List UInt8 × List UInt8) : kindsOk [some .str, some .str] (aRow x) = true := rfl
@[go_sem ↓] theorem take_aRow (x : List UInt8 × List UInt8) : (aRow x).take 2 = aRow x := rfl
@[go_sem ↓] theorem scalars_aRow (x y : List UInt8 × List UInt8) : scalarsEq (aRow x) (aRow y) = some (decide (x = y)) := by
  obtain ⟨a, b⟩ := x
  obtain ⟨c, d⟩ := y
  simp only [aRow, scalarsEq, scalarEq]
  by_cases h1 : a = c <;> by_cases h2 : b = d <;> simp [h1, h2]

end Go.Ab
namespace Go.Ab
open Go Go.Proofs
structure Fit (r : Rcd) : Prop where
  props : r.props.length ≤ 9223372036854775807
  tags : r.tags.length ≤ 9223372036854775807
  links : r.links.length ≤ 9223372036854775807
  run : r.run.length ≤ 9223372036854775807
  load : r.load.length ≤ 9223372036854775807
end Go.Ab
namespace Go.Ab
open Go Go.Proofs
theorem rRow_ren (is : List Nat) (r : Rcd) : renL is (rRow r) = rRow r := by unfold rRow; simp +decide -dsimp -implicitDefEqProofs [go_sem, renLL_sRows, renLL_aRows]
theorem rRow_cl (k : Nat) (r : Rcd) : closedL k (rRow r) = true := by unfold rRow; simp +decide -dsimp -implicitDefEqProofs [go_sem]
@[go_sem ↓] theorem ldK_rRow (r : Rcd) (K : AV → Prop) : ldK (some 12) (rRow r) K = K (.agg (rRow r)) := by simp [ldK, rRow]
theorem rRow_take (r : Rcd) : (rRow r).take 12 = rRow r := rfl
theorem ofNat_row {n : Nat} (h : n < 256) : [AV.int .u8 (n : Int)] = bRow (UInt8.ofNat n) := by
  simp only [bRow, UInt8.toNat_ofNat']
  rw [Nat.mod_eq_of_lt h]
theorem unb_one {n : Nat} (h : n < 256) : unb [[AV.int .u8 (n : Int)]] = some [UInt8.ofNat n] := by
  rw [ofNat_row h]; exact unb_map [UInt8.ofNat n]
end Go.Ab
namespace Go.Ab
open Go Go.Proofs
theorem text_small {s : List UInt8} (h : textB s = true) : s.length ≤ 256 := by
  unfold textB at h
  simp only [Bool.and_eq_true, decide_eq_true_eq] at h
  exact h.2
theorem link_small {s : List UInt8} (h : linkB s = true) : s.length ≤ 256 := by
  unfold linkB at h
  simp only [Bool.and_eq_true, decide_eq_true_eq] at h
  exact h.1
theorem key_small {s : List UInt8} (h : keyNB s = true) : s.length ≤ 32 := by
  unfold keyNB at h
  simp only [Bool.and_eq_true, decide_eq_true_eq] at h
  exact h.1.1.2
structure Small (r : Rcd) : Prop where
  path : r.path.length ≤ 240
  props : r.props.length ≤ 64
  attr : ∀ p ∈ r.props, p.1.length ≤ 32 ∧ p.2.length ≤ 256
  tags : r.tags.length ≤ 16
  tag : ∀ x ∈ r.tags, x.length ≤ 32
  links : r.links.length ≤ 16
  link : ∀ x ∈ r.links, x.length ≤ 256
  runs : r.run.length ≤ 16
  run : ∀ x ∈ r.run, x.length ≤ 256
  loads : r.load.length ≤ 16
  load : ∀ x ∈ r.load, x.length ≤ 256
  name : r.name.length ≤ 32
  owner : r.owner.length ≤ 32
  group : r.group.length ≤ 32
theorem small_of {r : Rcd} (h : soundB r = true) : Small r := by
  unfold soundB at h
  simp only [Bool.and_eq_true, Bool.or_eq_true, decide_eq_true_eq, risAB, risB, List.all_eq_true] at h
  obtain ⟨⟨⟨⟨⟨⟨⟨⟨⟨⟨⟨h1, h2⟩, h3⟩, h4⟩, h5⟩, h6⟩, h7⟩, h8⟩, h9⟩, h10⟩, h11⟩, h12⟩ := h
  have hg : ∀ p ∈ r.props, keyNB p.1 = true ∧ textB p.2 = true := fun p hp => by simpa [goodA] using h3.1.1 p hp
  have hf : ∀ x, fillB x = true → x.length ≤ 256 := fun x hx => by
    unfold fillB at hx; simp only [Bool.and_eq_true] at hx; exact text_small hx.2
  refine ⟨path_small h1, h3.2, fun p hp => ⟨key_small (hg p hp).1, text_small (hg p hp).2⟩, h4.2, fun x hx => valid_small (h4.1.1 x hx), h5.2, fun x hx => link_small (h5.1.1 x hx), h7, fun x hx => hf x (h8 x hx), h6.2, fun x hx => hf x (h6.1.1 x hx), ?_, ?_, ?_⟩
  · rcases h9 with h | h
    · rw [h]; simp
    · unfold ifaceB at h; simp only [Bool.and_eq_true] at h; exact valid_small h.1.1.1
  · rcases h12 with h | h
    · rw [h.1]; simp
    · exact valid_small h.1
  · rcases h12 with h | h
    · rw [h.2.1]; simp
    · exact valid_small h.2
end Go.Ab
