/- Patterns: sets of bytes, and how they are read. -/
import Derived.Test.YtneghlianebffaaGreatDoorOX
import Derived.Test.YtneghlianebffaaGreatDoorW1
import Derived.Test.YtneghlianebffaaGreatDoorW3
import Derived.Test.YtneghlianebffaaGreatDoorA6
import Derived.Test.YtneghlianebffaaGreatDoorW2
import Derived.Below
namespace Go.Ab
open Go Go.Proofs
def rB (n : Nat) (f : Nat → Bool) : List Bool := (List.range n).map f
@[simp] theorem rB_len (n : Nat) (f : Nat → Bool) : (rB n f).length = n := by simp [rB]
theorem rB_at {n : Nat} {f : Nat → Bool} {i : Nat} (h : i < (rB n f).length) : (rB n f)[i] = f i := by simp [rB]
theorem rB_set {n i : Nat} {f : Nat → Bool} {b : Bool} : (rB n f).set i b = rB n fun j => if j = i then b else f j := by
  refine List.ext_getElem (by simp) fun j h1 h2 => ?_
  rw [List.getElem_set, rB_at, rB_at]
  by_cases h : i = j
  · simp [h]
  · rw [if_neg h, if_neg fun e => h e.symm]
theorem rB_congr {n : Nat} {f g : Nat → Bool} (h : ∀ i, i < n → f i = g i) : rB n f = rB n g := by
  unfold rB
  exact List.map_congr_left fun i hi => h i (List.mem_range.1 hi)
theorem zB127_eq : zB127 = bB (rB 127 fun _ => false) := by simp [zB127, bB, rB, List.map_const']
theorem bB_put {n i : Nat} {f : Nat → Bool} {b : Bool} (h : i < n) : (bB (rB n f)).take i ++ AV.bool b :: (bB (rB n f)).drop (i + 1) = bB (rB n fun j => if j = i then b else f j) := by
  have e := bB_set (rB n f) i b (by simpa using h)
  rw [rB_set] at e
  simpa using e
def allF (i : Nat) : Bool := decide (32 ≤ i)
def upF (i j : Nat) : Bool := decide (32 ≤ j ∧ j < i)
set_option maxRecDepth 20000 in
theorem every_c : ACalls Tryz.prog 166 [] [] (.agg (bB (rB 127 allF))) [] := by
  refine acalls_F c166_ok rfl ?_
  unfold c166
  rw [zB127_eq]
  simp +decide -dsimp -implicitDefEqProofs [go_sem]
  refine loop_of (S := Nat) (fun i => ⟨tmps 10 [(0, .ptr 0 0), (1, .ptr 1 0), (2, .int .i64 i)], [.box 208 (bB (rB 127 fun _ => false)), .box 208 (bB (rB 127 (upF i)))]⟩) (fun i => 127 - i) (fun i => 32 ≤ i ∧ i ≤ 127) 32 (by simp) (cut_of (by simp) ?_) ?_
  · have e : rB 127 (upF 32) = rB 127 fun _ => false := rB_congr fun i _ => by simp [upF]
    rw [e]
    simp +decide -dsimp -implicitDefEqProofs [go_sem, bB_cvT]
  intro i ⟨h32, hi⟩
  by_cases h : i < 127
  · have w : IntKind.i64.wrap ((i : Int) + 1) = i + 1 := w64 (by omega) (by omega)
    have h' : (i : Int) ≤ 126 := by omega
    have e := bB_put (n := 127) (i := i) (f := upF i) (b := true) h
    have e2 : (rB 127 fun j => if j = i then true else upF i j) = rB 127 (upF (i + 1)) := rB_congr fun j _ => by
      unfold upF
      by_cases hj : j = i
      · simp [hj]; omega
      · rw [if_neg hj, decide_eq_decide]; omega
    rw [e2] at e
    simp +decide -dsimp -implicitDefEqProofs [go_sem, h, h', w, bB_len, e]
    refine ⟨by omega, next_of (i + 1) ⟨by omega, by omega⟩ (by show 127 - (i + 1) < 127 - i; omega) (cut_of (by simp) ?_)⟩
    simp +decide -dsimp -implicitDefEqProofs [go_sem, bB_cvT]
  · have e : i = 127 := by omega
    subst e
    have t1 : ∀ f, (bB (rB 127 f)).take 127 = bB (rB 127 f) := fun f => bB_take _ 127 (by simp)
    have t2 : ∀ f, (bB (rB 127 f)).drop 127 = [] := fun f => List.drop_eq_nil_of_le (by rw [bB_len]; simp)
    have e2 : rB 127 (upF 127) = rB 127 allF := rB_congr fun j hj => by unfold allF upF; rw [decide_eq_decide]; omega
    rw [e2]
    simp +decide -dsimp -implicitDefEqProofs [go_sem, bB_len, t1, t2, bB_cvT]
end Go.Ab
namespace Go.Ab
open Go Go.Proofs
def pc (p : List UInt8) (i : Nat) : UInt8 := p.getD i 0
theorem pc_at {p : List UInt8} {i : Nat} (h : i < p.length) : p[i]? = some (pc p i) := by rw [pc, List.getD_eq_getElem?_getD, List.getElem?_eq_getElem h]; rfl
def memQ (p : List UInt8) (i : Nat) : Prop := i + 2 < p.length ∧ (pc p (i + 1)).toNat = 45 ∧ (pc p (i + 2)).toNat ≠ 93
instance (p : List UInt8) (i : Nat) : Decidable (memQ p i) := by unfold memQ; infer_instance
def memA (p : List UInt8) (i : Nat) : Nat × Nat × Nat :=
  if memQ p i then (3, (pc p i).toNat, (pc p (i + 2)).toNat) else (1, (pc p i).toNat, (pc p i).toNat)
def addF (f : Nat → Bool) (a z j : Nat) : Bool := f j || decide (a ≤ j ∧ j ≤ z)
theorem memA_k (p : List UInt8) (i : Nat) : 1 ≤ (memA p i).1 ∧ (i < p.length → i + (memA p i).1 ≤ p.length) := by
  unfold memA
  split
  · rename_i h; exact ⟨by simp, fun _ => by have := h.1; simp; omega⟩
  · exact ⟨by simp, fun _ => by simp; omega⟩
theorem pc_le {p : List UInt8} {B i : Nat} (hp : ∀ c ∈ p, c.toNat ≤ B) : (pc p i).toNat ≤ B := by
  unfold pc
  rw [List.getD_eq_getElem?_getD]
  cases h : p[i]? with
  | none => simp
  | some c => exact hp c (List.mem_of_getElem? h)
theorem memA_z {p : List UInt8} {B : Nat} (hp : ∀ c ∈ p, c.toNat ≤ B) (i : Nat) : (memA p i).2.1 ≤ B ∧ (memA p i).2.2 ≤ B := by
  unfold memA
  split <;> exact ⟨pc_le hp, pc_le hp⟩
theorem w8 {n : Int} (h0 : 0 ≤ n) (h1 : n ≤ 255) : IntKind.u8.wrap n = n := by
  have e : IntKind.u8.wrap n = n % 256 := by simp [IntKind.wrap, IntKind.signed, IntKind.bits]
  rw [e]; omega
def addU (f : Nat → Bool) (a b j : Nat) : Bool := f j || decide (a ≤ j ∧ j < b)
theorem addU_step {f : Nat → Bool} {a i : Nat} (h : a ≤ i) : (fun j => if j = i then true else addU f a i j) = addU f a (i + 1) := by
  funext j
  unfold addU
  by_cases hj : j = i
  · rw [if_pos hj, decide_eq_true (by omega), Bool.or_true]
  · rw [if_neg hj]
    congr 1
    rw [decide_eq_decide]; omega
theorem addU_nil {f : Nat → Bool} {a : Nat} : addU f a a = f := by
  funext j; unfold addU; rw [decide_eq_false (by omega), Bool.or_false]
theorem addU_end {f : Nat → Bool} {a z : Nat} : addU f a (z + 1) = addF f a z := by
  funext j; unfold addU addF; congr 1; rw [decide_eq_decide]; omega
set_option maxRecDepth 20000 in
set_option maxHeartbeats 4000000 in
theorem member_c (p : List UInt8) (i : Nat) (f : Nat → Bool) (hp : ∀ c ∈ p, c.toNat ≤ 126) (hl : p.length ≤ 1000) (hi : i < p.length) :
    ACalls Tryz.prog 192 [.ptr 0 0, .ptr 1 0] [.box 157 [.str p, .int .i64 i], .box 208 (bB (rB 127 f))] (.bool (decide ((memA p i).2.1 ≤ (memA p i).2.2)))
      [.box 157 [.str p, .int .i64 ((i + (memA p i).1 : Nat) : Int)], .box 208 (bB (rB 127 (if (memA p i).2.1 ≤ (memA p i).2.2 then addF f (memA p i).2.1 (memA p i).2.2 else f)))] := by
  have hz := memA_z hp i
  obtain ⟨d, hd⟩ : ∃ d, d = p.drop i := ⟨_, rfl⟩
  have hdl : d.length = p.length - i := by rw [hd, List.length_drop]
  have hdn : d ≠ [] := fun h => by rw [h] at hdl; simp at hdl; omega
  have dj : ∀ j, i + j < p.length → d[j]? = some (pc p (i + j)) := fun j h => by rw [hd, List.getElem?_drop, pc_at h]
  have d0 : d[0]? = some (pc p i) := dj 0 (by omega)
  have d1 := dj 1
  have d2 := dj 2
  refine acalls_A c192_ok rfl ?_
  unfold c192
  refine awp_go ?_
  simp +decide -dsimp -implicitDefEqProofs [go_sem]
  refine awp_cut ⟨tmps 66 [(0, .ptr 0 0), (1, .ptr 1 0), (5, .str d)], [.box 157 [.str p, .int .i64 i], .box 208 (bB (rB 127 f))]⟩ (awp_of ?_) ?_
  · simp +decide -dsimp -implicitDefEqProofs [go_sem]
    refine ⟨by omega, ?_⟩
    rw [← hd]
    refine cut_of (by simp) ?_
    simp +decide -dsimp -implicitDefEqProofs [go_sem, bB_cvT]
  refine awp_go ?_
  simp +decide -dsimp -implicitDefEqProofs [go_sem, hdn]
  refine awp_go ?_
  simp +decide -dsimp -implicitDefEqProofs [go_sem, d0]
  have w1 : IntKind.i64.wrap ((i : Int) + 1) = i + 1 := w64 (by omega) (by omega)
  have w3 : IntKind.i64.wrap ((i : Int) + 1 + 2) = i + 3 := w64 (by omega) (by omega)
  refine awp_go ?_
  simp +decide -dsimp -implicitDefEqProofs [go_sem, w1]
  refine awp_cut ⟨tmps 66 [(1, .ptr 1 0), (6, .int .u8 (memA p i).2.1), (7, .int .u8 (memA p i).2.2)], [.box 157 [.str p, .int .i64 ((i + (memA p i).1 : Nat) : Int)], .box 208 (bB (rB 127 f))]⟩ (awp_of ?_) ?_
  · unfold memA
    by_cases h1 : i + 2 < p.length
    · have l1 : (2 : Int) < (d.length : Int) := by omega
      have d1' := d1 (by omega)
      have d2' := d2 h1
      by_cases h2 : (pc p (i + 1)).toNat = 45
      · by_cases h3 : (pc p (i + 2)).toNat = 93
        · rw [if_neg (fun h => h.2.2 h3)]
          have h2' : ((pc p (i + 1)).toNat : Int) = 45 := by omega
          have h3' : ((pc p (i + 2)).toNat : Int) = 93 := by omega
          simp +decide -dsimp -implicitDefEqProofs [go_sem, l1, d1', d2', h2', h3']
          refine cut_of (by simp) ?_
          simp +decide -dsimp -implicitDefEqProofs [go_sem, bB_cvT]
        · rw [if_pos ⟨h1, h2, h3⟩]
          have h3' : ¬ ((pc p (i + 2)).toNat : Int) = 93 := by omega
          have h2' : ((pc p (i + 1)).toNat : Int) = 45 := by omega
          simp +decide -dsimp -implicitDefEqProofs [go_sem, l1, d1', d2', h2', h3', w3]
          refine cut_of (by simp) ?_
          simp +decide -dsimp -implicitDefEqProofs [go_sem, bB_cvT]
      · rw [if_neg (fun h => h2 h.2.1)]
        have h2' : ¬ ((pc p (i + 1)).toNat : Int) = 45 := by omega
        simp +decide -dsimp -implicitDefEqProofs [go_sem, l1, d1', h2']
        refine cut_of (by simp) ?_
        simp +decide -dsimp -implicitDefEqProofs [go_sem, bB_cvT]
    · rw [if_neg (fun h => h1 h.1)]
      have l1 : ¬ (2 : Int) < (d.length : Int) := by omega
      simp +decide -dsimp -implicitDefEqProofs [go_sem, l1]
      refine cut_of (by simp) ?_
      simp +decide -dsimp -implicitDefEqProofs [go_sem, bB_cvT]
  generalize (memA p i).1 = k at *
  generalize (memA p i).2.1 = a at *
  generalize (memA p i).2.2 = z at *
  refine awp_cut ⟨tmps 66 [(6, .int .u8 a), (7, .int .u8 z)], [.box 157 [.str p, .int .i64 ((i + k : Nat) : Int)], .box 208 (bB (rB 127 (if a ≤ z then addF f a z else f)))]⟩ (awp_of ?_) ?_
  · simp +decide -dsimp -implicitDefEqProofs [go_sem]
    refine loop_of (S := Nat) (fun b => ⟨tmps 66 [(1, .ptr 1 0), (6, .int .u8 a), (7, .int .u8 z), (8, .int .u8 b)], [.box 157 [.str p, .int .i64 ((i + k : Nat) : Int)], .box 208 (bB (rB 127 (addU f a b)))]⟩) (fun b => 128 - b) (fun b => a ≤ b ∧ (b ≤ z + 1 ∨ b = a)) a ⟨by omega, .inr rfl⟩ (cut_of (by simp) ?_) ?_
    · rw [addU_nil]
      simp +decide -dsimp -implicitDefEqProofs [go_sem, bB_cvT]
    intro b ⟨hab, hb⟩
    by_cases h : b ≤ z
    · have w : IntKind.u8.wrap ((b : Int) + 1) = b + 1 := w8 (by omega) (by omega)
      have e := bB_put (n := 127) (i := b) (f := addU f a b) (b := true) (by omega)
      rw [addU_step hab] at e
      have hb127 : b < 127 := by omega
      simp +decide -dsimp -implicitDefEqProofs [go_sem, h, w, bB_len, hb127, e]
      refine ⟨by omega, next_of (b + 1) ⟨by omega, by omega⟩ (by show 128 - (b + 1) < 128 - b; omega) (cut_of (by simp) ?_)⟩
      simp +decide -dsimp -implicitDefEqProofs [go_sem, bB_cvT]
    · have e : addU f a b = if a ≤ z then addF f a z else f := by
        by_cases h2 : a ≤ z
        · rw [if_pos h2, show b = z + 1 by omega, addU_end]
        · rw [if_neg h2, show b = a by omega, addU_nil]
      rw [e]
      simp +decide -dsimp -implicitDefEqProofs [go_sem, h]
      refine cut_of (by simp) ?_
      simp +decide -dsimp -implicitDefEqProofs [go_sem, bB_cvT]
  refine awp_of ?_
  simp +decide -dsimp -implicitDefEqProofs [go_sem, bB_cvT]
end Go.Ab
namespace Go.Ab
open Go Go.Proofs
def hasC (p : List UInt8) (i : Nat) (c : UInt8) : Bool := decide (i < p.length ∧ pc p i = c)
theorem pre_drop (p : List UInt8) (i : Nat) (c : UInt8) : ([c] : List UInt8).isPrefixOf (p.drop i) = hasC p i c := by
  unfold hasC
  by_cases h : i < p.length
  · have e : p.drop i = pc p i :: p.drop (i + 1) := by
      rw [List.drop_eq_getElem_cons h]
      have := pc_at h
      rw [List.getElem?_eq_getElem h] at this
      rw [Option.some.inj this]
    rw [e]
    by_cases h2 : pc p i = c
    · simp [h, h2]
    · have h3 : ¬ c = pc p i := fun e => h2 e.symm
      show (c == pc p i && _) = _
      simp [h2, h3]
  · rw [List.drop_eq_nil_of_le (by omega)]
    simp [h]
def setA (p : List UInt8) (i : Nat) (f : Nat → Bool) : Option (Nat × (Nat → Bool)) :=
  if _h : i < p.length then
    if pc p i = 93 then some (i, f)
    else if (memA p i).2.1 ≤ (memA p i).2.2 then setA p (i + (memA p i).1) (addF f (memA p i).2.1 (memA p i).2.2) else none
  else none
termination_by p.length - i
decreasing_by have := (memA_k p i).1; omega
def notF (f : Nat → Bool) (t : Nat) : Bool := if 32 ≤ t then !f t else f t
def notU (f : Nat → Bool) (b t : Nat) : Bool := if 32 ≤ t ∧ t < b then !f t else f t
def noF (_ : Nat) : Bool := false
def begA (p : List UInt8) (i : Nat) : Nat := if hasC p i 33 = true then i + 1 else i
def setB (p : List UInt8) (i : Nat) : Option (Nat × (Nat → Bool)) :=
  if hasC p (begA p i) 93 = true then none else match setA p (begA p i) noF with
    | none => none
    | some (e, f) => some (e + 1, if hasC p i 33 = true then notF f else f)
theorem setA_le {p : List UInt8} {e : Nat} {g : Nat → Bool} : ∀ (n i : Nat) (f : Nat → Bool), p.length - i ≤ n → setA p i f = some (e, g) → i ≤ e ∧ e < p.length
  | 0, i, f, hn, h => by
    rw [setA, dif_neg (by omega)] at h; cases h
  | n + 1, i, f, hn, h => by
    rw [setA] at h
    split at h
    · split at h
      · cases h; exact ⟨Nat.le_refl _, by assumption⟩
      · split at h
        · have := (memA_k p i).1
          have := setA_le n _ _ (by omega) h
          omega
        · cases h
    · cases h
theorem setB_le {p : List UInt8} {i e : Nat} {g : Nat → Bool} (h : setB p i = some (e, g)) : i < e ∧ e ≤ p.length := by
  unfold setB at h
  split at h
  · cases h
  · split at h
    · cases h
    · rename_i e' f hA
      cases h
      have h2 := setA_le _ _ _ (Nat.le_refl _) hA
      have : i ≤ begA p i := by unfold begA; split <;> omega
      omega
set_option maxRecDepth 20000 in
theorem member0_c (p : List UInt8) (f : Nat → Bool) :
    ACalls Tryz.prog 192 [.ptr 0 0, .ptr 1 0] [.box 157 [.str p, .int .i64 p.length], .box 208 (bB (rB 127 f))] (.bool false) [.box 157 [.str p, .int .i64 p.length], .box 208 (bB (rB 127 f))] := by
  refine acalls_F c192_ok rfl ?_
  unfold c192
  simp +decide -dsimp -implicitDefEqProofs [go_sem, bB_cvT]
theorem bB_ren (is : List Nat) (bs : List Bool) : renL is (bB bs) = bB bs := by
  induction bs with
  | nil => rfl
  | cons b r ih => show _ :: _ = _ :: _; rw [show r.map AV.bool = bB r from rfl, ih]; rfl
def setR (p : List UInt8) (i : Nat) (v : AV) (G : List AObj) : Prop := match setB p i with
  | some eg => v = .tup [.agg (bB (rB 127 eg.2)), .bool true] ∧ G = [.box 157 [.str p, .int .i64 eg.1]]
  | none => v = .tup [.agg (bB (rB 127 noF)), .bool false] ∧ ∃ m : Nat, G = [.box 157 [.str p, .int .i64 m]]
structure SS where
  i : Nat
  f : Nat → Bool
theorem hid1 : ∀ j, j < 1 → ([0, 1, 2, 4] : List Nat)[j]? = some j := fun j hj => by rw [Nat.lt_one_iff.1 hj]; rfl
set_option maxRecDepth 20000 in
set_option maxHeartbeats 4000000 in
theorem set_c (p : List UInt8) (i : Nat) (hp : ∀ c ∈ p, c.toNat ≤ 126) (hl : p.length ≤ 1000) (hi : i ≤ p.length) : ACallsR Tryz.prog 167 [.ptr 0 0] [.box 157 [.str p, .int .i64 i]] (setR p i) := by
  have hz : zB127 = bB (rB 127 noF) := zB127_eq
  have t1 : ∀ f, (bB (rB 127 f)).take 127 = bB (rB 127 f) := fun f => bB_take _ 127 (by simp)
  have t2 : ∀ f, (bB (rB 127 f)).drop 127 = [] := fun f => List.drop_eq_nil_of_le (by rw [bB_len]; simp)
  have cb : ∀ k f, closedL k (bB (rB 127 f)) = true := fun k f => bB_closed k _
  refine acalls_EA (setR p i) 0 c167_ok ?_
  unfold c167
  rw [hz]
  refine awp_go ?_
  simp +decide -dsimp -implicitDefEqProofs [go_sem]
  refine awp_go ?_
  simp +decide -dsimp -implicitDefEqProofs [go_sem]
  have hP := HasPrefix_c (p.drop i) [33] (by decide)
  rw [pre_drop] at hP
  refine awp_go ?_
  simp +decide -dsimp -implicitDefEqProofs [go_sem]
  refine ⟨by omega, ?_⟩
  refine callDE_pure hP rfl rfl ?_
  simp +decide -dsimp -implicitDefEqProofs [go_sem]
  have hbeg : begA p i ≤ p.length := by unfold begA; split <;> simp_all [hasC]; omega
  refine awp_cut ⟨tmps 92 [(0, .ptr 0 0), (2, .ptr 1 0), (3, .bool false), (4, .ptr 2 0), (5, .bool (hasC p i 33))], [.box 157 [.str p, .int .i64 (begA p i)], .box 208 (bB (rB 127 noF)), .box 208 (bB (rB 127 noF))]⟩ (awp_of ?_) ?_
  · have w1 : IntKind.i64.wrap ((i : Int) + 1) = i + 1 := w64 (by omega) (by omega)
    unfold begA
    cases hasC p i 33 with
    | true =>
      simp +decide -dsimp -implicitDefEqProofs [go_sem, w1]
      refine cut_of (by simp) ?_
      simp +decide -dsimp -implicitDefEqProofs [go_sem, bB_cvT]
    | false =>
      simp +decide -dsimp -implicitDefEqProofs [go_sem]
      refine cut_of (by simp) ?_
      simp +decide -dsimp -implicitDefEqProofs [go_sem, bB_cvT]
  have hfail : (hasC p (begA p i) 93 = true ∨ setA p (begA p i) noF = none) → ∀ m : Nat, setR p i (.tup [.agg (bB (rB 127 noF)), .bool false]) [.box 157 [.str p, .int .i64 m]] := fun h m => by
    have : setB p i = none := by
      unfold setB
      rcases h with h | h
      · rw [if_pos h]
      · rw [h]; simp
    unfold setR
    rw [this]
    exact ⟨rfl, m, rfl⟩
  have hset : ∀ e f, hasC p (begA p i) 93 = false → setA p (begA p i) noF = some (e, f) → setB p i = some (e + 1, if hasC p i 33 = true then notF f else f) := fun e f h1 h2 => by
    unfold setB; rw [h1, h2]; simp
  generalize begA p i = j at *
  generalize hasC p i 33 = nt at *
  refine awp_cutX (S := SS) (fun s => ⟨tmps 92 [(0, .ptr 0 0), (2, .ptr 1 0), (4, .ptr 2 0), (5, .bool nt)], [.box 157 [.str p, .int .i64 s.i], .box 208 (bB (rB 127 noF)), .box 208 (bB (rB 127 s.f))]⟩) (fun s => hasC p j 93 = false ∧ setA p j noF = some (s.i, s.f)) (awp_of ?_) ?_
  · simp +decide -dsimp -implicitDefEqProofs [go_sem]
    refine loop_ofA (S := SS) (fun s => ⟨tmps 92 [(0, .ptr 0 0), (2, .ptr 1 0), (3, .bool false), (4, .ptr 2 0), (5, .bool nt), (6, .int .i64 j)], [.box 157 [.str p, .int .i64 s.i], .box 208 (bB (rB 127 noF)), .box 208 (bB (rB 127 s.f))]⟩) (fun s => p.length - s.i) (fun s => j ≤ s.i ∧ s.i ≤ p.length ∧ setA p j noF = setA p s.i s.f ∧ (j = s.i ∨ hasC p j 93 = false)) ⟨j, noF⟩ ⟨Nat.le_refl _, hbeg, rfl, .inl rfl⟩ (cut_of (by simp) ?_) ?_
    · simp +decide -dsimp -implicitDefEqProofs [go_sem, bB_cvT]
    rintro ⟨q, f⟩ ⟨h1, h2, h3, h4⟩
    simp only at h1 h2 h3 h4
    have hP := HasPrefix_c (p.drop q) [93] (by decide)
    rw [pre_drop] at hP
    by_cases hx : hasC p q 93 = true ∧ ¬ j = q
    · obtain ⟨hc, hj⟩ := hx
      have hq2 : ¬ (q : Int) = j := by omega
      have hA : setA p q f = some (q, f) := by
        unfold hasC at hc
        simp only [decide_eq_true_eq] at hc
        rw [setA, dif_pos hc.1, if_pos hc.2]
      rw [hc] at hP
      refine awp_of ?_
      simp +decide -dsimp -implicitDefEqProofs [go_sem, hq2]
      refine ⟨by omega, ?_⟩
      refine callDE_pure hP rfl rfl ?_
      simp +decide -dsimp -implicitDefEqProofs [go_sem, hq2]
      refine cutX_of ⟨q, f⟩ ⟨h4.resolve_left hj, by rw [h3, hA]⟩ (cut_of (by simp) ?_)
      simp +decide -dsimp -implicitDefEqProofs [go_sem, bB_cvT]
    refine awp_cut ⟨tmps 92 [(0, .ptr 0 0), (2, .ptr 1 0), (3, .bool false), (4, .ptr 2 0), (5, .bool nt), (6, .int .i64 j)], [.box 157 [.str p, .int .i64 q], .box 208 (bB (rB 127 noF)), .box 208 (bB (rB 127 f))]⟩ (awp_of ?_) ?_
    · by_cases hj : j = q
      · have hq2 : (q : Int) = j := by omega
        simp +decide -dsimp -implicitDefEqProofs [go_sem, hq2]
        refine cut_of (by simp) ?_
        simp +decide -dsimp -implicitDefEqProofs [go_sem, bB_cvT]
      · have hq2 : ¬ (q : Int) = j := by omega
        have hc : hasC p q 93 = false := by
          cases h : hasC p q 93 with
          | false => rfl
          | true => exact absurd ⟨h, hj⟩ hx
        rw [hc] at hP
        simp +decide -dsimp -implicitDefEqProofs [go_sem, hq2]
        refine ⟨by omega, ?_⟩
        refine callDE_pure hP rfl rfl ?_
        simp +decide -dsimp -implicitDefEqProofs [go_sem, hq2]
        refine cut_of (by simp) ?_
        simp +decide -dsimp -implicitDefEqProofs [go_sem, bB_cvT]
    refine awp_of ?_
    cases hc : hasC p q 93 with
    | true =>
      have hj : j = q := Classical.byContradiction fun h => hx ⟨hc, h⟩
      subst hj
      rw [hc] at hP
      simp +decide -dsimp -implicitDefEqProofs [go_sem]
      refine ⟨by omega, ?_⟩
      refine callDE_pure hP rfl rfl ?_
      simp +decide -dsimp -implicitDefEqProofs [go_sem]
      refine end_of _ _ (hfail (.inl hc) j) rfl ?_
      simp +decide -dsimp -implicitDefEqProofs [go_sem, t1, bB_cvT]
    | false =>
      rw [hc] at hP
      have hj93 : hasC p j 93 = false := by
        rcases h4 with h4 | h4
        · rw [h4]; exact hc
        · exact h4
      by_cases hq : q < p.length
      · have hne : ¬ pc p q = 93 := fun h => by
          unfold hasC at hc
          simp [hq, h] at hc
        have cm := member_c p q f hp hl hq
        have hk := memA_k p q
        by_cases hr : (memA p q).2.1 ≤ (memA p q).2.2
        · have hA : setA p q f = setA p (q + (memA p q).1) (addF f (memA p q).2.1 (memA p q).2.2) := by
            rw [setA, dif_pos hq, if_neg hne, if_pos hr]
          rw [decide_eq_true hr, if_pos hr] at cm
          generalize (memA p q).1 = k at *
          generalize addF f (memA p q).2.1 (memA p q).2.2 = f' at *
          simp +decide -dsimp -implicitDefEqProofs [go_sem]
          refine ⟨by omega, ?_⟩
          refine callDE_pure hP rfl rfl ?_
          simp +decide -dsimp -implicitDefEqProofs [go_sem]
          refine callDE_frame [0, 2] cm rfl rfl (by simp) (by simp +decide -dsimp -implicitDefEqProofs [go_sem]) (by simp +decide -dsimp -implicitDefEqProofs [go_sem, bB_ren]) ?_
          simp +decide -dsimp -implicitDefEqProofs [go_sem, bB_ren]
          refine next_of ⟨q + k, f'⟩ ⟨by show j ≤ q + k; omega, hk.2 hq, by rw [h3, hA], .inr hj93⟩ (by show p.length - (q + k) < p.length - q; omega) (cut_of (by simp) ?_)
          simp +decide -dsimp -implicitDefEqProofs [go_sem, bB_cvT]
        · have hA : setA p q f = none := by
            rw [setA, dif_pos hq, if_neg hne, if_neg hr]
          rw [decide_eq_false hr, if_neg hr] at cm
          have hfl := hfail (.inr (h3.trans hA)) (q + (memA p q).1)
          generalize (memA p q).1 = k at *
          simp +decide -dsimp -implicitDefEqProofs [go_sem]
          refine ⟨by omega, ?_⟩
          refine callDE_pure hP rfl rfl ?_
          simp +decide -dsimp -implicitDefEqProofs [go_sem]
          refine callDE_frame [0, 2] cm rfl rfl (by simp) (by simp +decide -dsimp -implicitDefEqProofs [go_sem]) (by simp +decide -dsimp -implicitDefEqProofs [go_sem, bB_ren]) ?_
          simp +decide -dsimp -implicitDefEqProofs [go_sem, bB_ren]
          refine end_of _ _ hfl rfl ?_
          simp +decide -dsimp -implicitDefEqProofs [go_sem, t1, bB_cvT]
      · have e : q = p.length := by omega
        subst e
        have hA : setA p p.length f = none := by rw [setA, dif_neg (by omega)]
        have hfl := hfail (.inr (h3.trans hA)) p.length
        have cm := member0_c p f
        rw [List.drop_length] at hP
        simp +decide -dsimp -implicitDefEqProofs [go_sem]
        refine callDE_pure hP rfl rfl ?_
        simp +decide -dsimp -implicitDefEqProofs [go_sem]
        refine callDE_frame [0, 2] cm rfl rfl (by simp) (by simp +decide -dsimp -implicitDefEqProofs [go_sem]) (by simp +decide -dsimp -implicitDefEqProofs [go_sem, bB_ren]) ?_
        simp +decide -dsimp -implicitDefEqProofs [go_sem, bB_ren]
        refine end_of _ _ hfl rfl ?_
        simp +decide -dsimp -implicitDefEqProofs [go_sem, t1, bB_cvT]
  rintro ⟨e, f⟩ ⟨h1, h2⟩
  simp only at h1 h2 ⊢
  have he := setA_le _ _ _ (Nat.le_refl _) h2
  have hs := hset e f h1 h2
  have w1 : IntKind.i64.wrap ((e : Int) + 1) = e + 1 := w64 (by omega) (by omega)
  refine awp_go ?_
  simp +decide -dsimp -implicitDefEqProofs [go_sem, w1]
  have hfe : ∀ f : Nat → Bool, notU f 32 = f := fun f => by funext t; unfold notU; rw [if_neg (by omega)]
  refine awp_cut ⟨tmps 92 [(2, .ptr 1 0), (4, .ptr 2 0)], [.box 157 [.str p, .int .i64 ((e + 1 : Nat) : Int)], .box 208 (bB (rB 127 noF)), .box 208 (bB (rB 127 (if nt = true then notF f else f)))]⟩ (awp_of ?_) ?_
  · cases nt with
    | false =>
      simp +decide -dsimp -implicitDefEqProofs [go_sem]
      refine cut_of (by simp) ?_
      simp +decide -dsimp -implicitDefEqProofs [go_sem, bB_cvT]
    | true =>
      simp +decide -dsimp -implicitDefEqProofs [go_sem]
      refine callE_pure every_c rfl (aggB_closed _ _) ?_
      simp +decide -dsimp -implicitDefEqProofs [go_sem, t2, bB_len]
      refine loop_of (S := Nat) (fun b => ⟨tmps 92 [(2, .ptr 1 0), (4, .ptr 2 0), (7, .int .i64 b), (8, .ptr 3 0)], [.box 157 [.str p, .int .i64 ((e + 1 : Nat) : Int)], .box 208 (bB (rB 127 noF)), .box 208 (bB (rB 127 (notU f b))), .box 208 (bB (rB 127 allF))]⟩) (fun b => 127 - b) (fun b => 32 ≤ b ∧ b ≤ 127) 32 (by simp) (cut_of (by simp) ?_) ?_
      · rw [hfe]
        simp +decide -dsimp -implicitDefEqProofs [go_sem, bB_cvT]
      intro b ⟨hb1, hb2⟩
      by_cases h : b < 127
      · have w : IntKind.i64.wrap ((b : Int) + 1) = b + 1 := w64 (by omega) (by omega)
        have h' : (b : Int) ≤ 126 := by omega
        have h126 : b ≤ 126 := by omega
        have l1 : (rB 127 allF)[b]'(by simpa using h) = true := by rw [rB_at]; unfold allF; simp; omega
        have l2 : (rB 127 (notU f b))[b]'(by simpa using h) = f b := by rw [rB_at]; unfold notU; rw [if_neg (by omega)]
        have ee := bB_put (n := 127) (i := b) (f := notU f b) (b := !f b) h
        have e2 : (fun j => if j = b then !f b else notU f b j) = notU f (b + 1) := by
          funext j
          unfold notU
          by_cases hj : j = b
          · subst hj; rw [if_pos rfl, if_pos ⟨hb1, by omega⟩]
          · rw [if_neg hj]
            by_cases h3 : 32 ≤ j ∧ j < b
            · rw [if_pos h3, if_pos ⟨h3.1, by omega⟩]
            · rw [if_neg h3, if_neg (by omega)]
        rw [e2] at ee
        simp +decide -dsimp -implicitDefEqProofs [go_sem, h, h', h126, w, bB_len, ldK_bB, l1, l2, ee, t1, t2]
        refine next_of (b + 1) ⟨by omega, by omega⟩ (by show 127 - (b + 1) < 127 - b; omega) (Wk.ren [0, 1, 2, 4] (by decide) rfl (by decide) hid1 (fun x m s l hx h => by rw [Nat.lt_one_iff.1 hx] at h; cases h) (by simp +decide -dsimp -implicitDefEqProofs [go_sem, bB_ren]) (by simp +decide [rnT, ren, tmps, putT]))
      · have hb : b = 127 := by omega
        subst hb
        have hn : rB 127 (notU f 127) = rB 127 (notF f) := rB_congr fun t ht => by
          unfold notU notF
          by_cases h3 : 32 ≤ t
          · rw [if_pos ⟨h3, ht⟩, if_pos h3]
          · rw [if_neg (fun h => h3 h.1), if_neg h3]
        rw [hn]
        simp +decide -dsimp -implicitDefEqProofs [go_sem]
        refine cut_of (by simp) ?_
        simp +decide -dsimp -implicitDefEqProofs [go_sem, bB_cvT]
  refine awp_of ?_
  simp +decide -dsimp -implicitDefEqProofs [go_sem, t1, t2, bB_len]
  refine end_of _ [.box 157 [.str p, .int .i64 ((e + 1 : Nat) : Int)]] (by unfold setR; rw [hs]; exact ⟨rfl, rfl⟩) rfl ?_
  simp +decide -dsimp -implicitDefEqProofs [go_sem, t1, bB_cvT, bB_len]
end Go.Ab
namespace Go.Ab
open Go Go.Proofs
structure El where
  lit : Nat
  star : Bool
  set : Nat → Bool
def elRow (e : El) : List AV := .int .u8 e.lit :: .bool e.star :: bB (rB 127 e.set)
def altRow (l : List El) : List AV := [.imm (l.map elRow)]
theorem elRow_len (e : El) : (elRow e).length = 129 := by simp [elRow, bB_len]
theorem elRow_cl (k : Nat) (e : El) : closedL k (elRow e) = true := by simp [elRow, closedL, closed, bB_closed]
theorem elRow_ren (is : List Nat) (e : El) : renL is (elRow e) = elRow e := by simp [elRow, renL, ren, bB_ren]
theorem elRows_cl (k : Nat) (l : List El) : closedLL k (l.map elRow) = true := closedLL_map fun x _ => elRow_cl k x
theorem altRow_cl (k : Nat) (l : List El) : closedL k (altRow l) = true := by simp [altRow, closedL, closed, elRows_cl]
theorem altRows_cl (k : Nat) (l : List (List El)) : closedLL k (l.map altRow) = true := closedLL_map fun x _ => altRow_cl k x
theorem elRows_ren (is : List Nat) : ∀ l : List El, renLL is (l.map elRow) = l.map elRow
  | [] => rfl
  | x :: l => by rw [List.map_cons, renLL, elRow_ren, elRows_ren is l]
theorem altRows_ren (is : List Nat) : ∀ l : List (List El), renLL is (l.map altRow) = l.map altRow
  | [] => rfl
  | x :: l => by rw [List.map_cons, renLL, altRows_ren is l]; simp [altRow, renL, ren, elRows_ren]
def litF (b t : Nat) : Bool := decide (t = b)
def elA (p : List UInt8) (q : Nat) : Option (El × Nat) :=
  if (pc p q).toNat = 42 then some (⟨0, true, allF⟩, q + 1)
  else if (pc p q).toNat = 63 then some (⟨0, false, allF⟩, q + 1)
  else if (pc p q).toNat = 91 then (setB p (q + 1)).map fun eg => (⟨0, false, eg.2⟩, eg.1)
  else some (⟨(pc p q).toNat, false, litF (pc p q).toNat⟩, q + 1)
theorem elA_lt {p : List UInt8} {q : Nat} {x : El} {q' : Nat} (hq : q < p.length) (h : elA p q = some (x, q')) : q < q' ∧ q' ≤ p.length := by
  unfold elA at h
  split at h
  · cases h; omega
  split at h
  · cases h; omega
  split at h
  · cases hs : setB p (q + 1) with
    | none => rw [hs] at h; cases h
    | some eg =>
      rw [hs] at h
      cases h
      have := setB_le hs
      omega
  · cases h; omega
def altA (p : List UInt8) (q : Nat) (acc : List (List El)) (cur : List El) : Option (List (List El)) :=
  if _h : q < p.length then
    if (pc p q).toNat = 124 then altA p (q + 1) (acc ++ [cur]) []
    else match _he : elA p q with
      | none => none
      | some xq => altA p xq.2 acc (cur ++ [xq.1])
  else some (acc ++ [cur])
termination_by p.length - q
decreasing_by
  · omega
  · have := elA_lt _h (x := xq.1) (q' := xq.2) _he
    omega
theorem altA_end {p : List UInt8} {acc : List (List El)} {cur : List El} : altA p p.length acc cur = some (acc ++ [cur]) := by
  rw [altA, dif_neg (by omega)]
theorem altA_bar {p : List UInt8} {q : Nat} {acc : List (List El)} {cur : List El} (h : q < p.length) (hb : (pc p q).toNat = 124) : altA p q acc cur = altA p (q + 1) (acc ++ [cur]) [] := by
  rw [altA, dif_pos h, if_pos hb]
theorem altA_el {p : List UInt8} {q : Nat} {acc : List (List El)} {cur : List El} {x : El} {q' : Nat} (h : q < p.length) (hb : ¬ (pc p q).toNat = 124) (he : elA p q = some (x, q')) : altA p q acc cur = altA p q' acc (cur ++ [x]) := by
  rw [altA, dif_pos h, if_neg hb]
  split
  · rename_i h2; rw [he] at h2; cases h2
  · rename_i xq h2; rw [he] at h2; cases h2; rfl
theorem altA_no {p : List UInt8} {q : Nat} {acc : List (List El)} {cur : List El} (h : q < p.length) (hb : ¬ (pc p q).toNat = 124) (he : elA p q = none) : altA p q acc cur = none := by
  rw [altA, dif_pos h, if_neg hb]
  split
  · rfl
  · rename_i xq h2; rw [he] at h2; cases h2
def altR (p : List UInt8) (v : AV) (G : List AObj) : Prop := match altA p 0 [] [] with
  | some L => v = .tup [.imm (L.map altRow), .bool true] ∧ ∃ m : Nat, G = [.box 157 [.str p, .int .i64 m]]
  | none => v = .tup [.nils, .bool false] ∧ ∃ m : Nat, G = [.box 157 [.str p, .int .i64 m]]
end Go.Ab
namespace Go.Ab
open Go Go.Proofs
structure SA where
  q : Nat
  acc : List (List El)
  cur : List El
def curV (o : Nat) : List El → AV
  | [] => .nils
  | _x :: l => .own o (l.length + 1)
def curO : List El → List AObj
  | [] => []
  | x :: l => [.reg 210 129 ((x :: l).map elRow)]
def altH (p : List UInt8) (s : SA) : List AObj := .box 157 [.str p, .int .i64 s.q] :: .reg 160 1 (s.acc.map altRow ++ [[curV 2 s.cur]]) :: curO s.cur
theorem cur_conv {H : List AObj} {k0 : Nat} {cur : List El} (hk : k0 ≤ 2) (hH : ∀ x l, cur = x :: l → H[2]? = some (.reg 210 129 ((x :: l).map elRow))) : Conv H k0 [] (curV 2 cur) (.imm (cur.map elRow)) := by
  cases cur with
  | nil => exact .nils
  | cons x l => exact .frz 2 _ 210 129 _ _ hk (by simp) (hH x l rfl) (by simp) (ConvLL_closed (elRows_cl _ _))
theorem rows_conv {H : List AObj} {k0 : Nat} {acc : List (List El)} {cur : List El} (hk : k0 ≤ 2) (hH : ∀ x l, cur = x :: l → H[2]? = some (.reg 210 129 ((x :: l).map elRow))) : ConvLL H k0 [] (acc.map altRow ++ [[curV 2 cur]]) ((acc ++ [cur]).map altRow) := by
  rw [List.map_append, List.map_singleton]
  exact ConvLL_append (ConvLL_one (cur_conv hk hH)) (ConvLL_closed (altRows_cl _ _))
theorem hid2 : ∀ j, j < 1 → ([0, 1, 3] : List Nat)[j]? = some j := fun j hj => by rw [Nat.lt_one_iff.1 hj]; rfl
theorem bar_conv {H : List AObj} {k0 : Nat} {acc : List (List El)} {cur : List El} (hk : k0 ≤ 2) (hH : ∀ x l, cur = x :: l → H[2]? = some (.reg 210 129 ((x :: l).map elRow))) : ConvLL H k0 [] (acc.map altRow ++ [[curV 2 cur], [.nils]]) ((acc ++ [cur]).map altRow ++ [[.nils]]) := by
  have := ConvLL_append (ConvLL_closed rfl : ConvLL H k0 [] [[.nils]] [[.nils]]) (rows_conv (acc := acc) hk hH)
  rwa [List.append_assoc] at this
set_option maxRecDepth 20000 in
set_option maxHeartbeats 8000000 in
theorem alternatives_c (p : List UInt8) (hp : ∀ c ∈ p, c.toNat ≤ 126) (hl : p.length ≤ 1000) : ACallsR Tryz.prog 117 [.ptr 0 0] [.box 157 [.str p, .int .i64 0]] (altR p) := by
  have hz : zB127 = bB (rB 127 noF) := zB127_eq
  have hno : ∀ m : Nat, altA p 0 [] [] = none → altR p (.tup [.nils, .bool false]) [.box 157 [.str p, .int .i64 m]] := fun m h => by unfold altR; rw [h]; exact ⟨rfl, m, rfl⟩
  have hyes : ∀ (m : Nat) L, altA p 0 [] [] = some L → altR p (.tup [.imm (L.map altRow), .bool true]) [.box 157 [.str p, .int .i64 m]] := fun m L h => by unfold altR; rw [h]; exact ⟨rfl, m, rfl⟩
  refine acalls_EA (altR p) 0 c117_ok ?_
  unfold c117
  rw [show zE = elRow ⟨0, false, noF⟩ by unfold zE elRow; rw [hz]; rfl]
  refine awp_go ?_
  simp +decide -dsimp -implicitDefEqProofs [go_sem]
  refine awp_go ?_
  simp +decide -dsimp -implicitDefEqProofs [go_sem]
  refine awp_cutX (S := List (List El) × Nat) (fun s => ⟨tmps 81 [(4, .imm (s.1.map altRow))], [.box 157 [.str p, .int .i64 s.2]]⟩) (fun s => altA p 0 [] [] = some s.1) (awp_of ?_) ?_
  · simp +decide -dsimp -implicitDefEqProofs [go_sem]
    refine loop_ofA (S := SA) (fun s => ⟨tmps 81 [(0, .ptr 0 0), (4, .own 1 (s.acc.length + 1))], altH p s⟩) (fun s => p.length - s.q) (fun s => s.q ≤ p.length ∧ s.acc.length ≤ s.q ∧ s.cur.length ≤ s.q ∧ altA p 0 [] [] = altA p s.q s.acc s.cur) ⟨0, [], []⟩ ⟨by simp, by simp, by simp, rfl⟩ (cut_of (by simp [altH]) ?_) ?_
    · simp +decide -dsimp -implicitDefEqProofs [go_sem, altH, curV, curO]
    rintro ⟨q, acc, cur⟩ ⟨h1, h2, h2b, h3⟩
    simp only at h1 h2 h2b h3
    by_cases hq : q < p.length
    · have pq := pc_at hq
      have wq : IntKind.i64.wrap ((q : Int) + 1) = q + 1 := w64 (by omega) (by omega)
      have t1 : ∀ f, (bB (rB 127 f)).take 127 = bB (rB 127 f) := fun f => bB_take _ 127 (by simp)
      have t2 : ∀ f, (bB (rB 127 f)).drop 127 = [] := fun f => List.drop_eq_nil_of_le (by rw [bB_len]; simp)
      have cb : ∀ k f, closedL k (bB (rB 127 f)) = true := fun k f => bB_closed k _
      have cvx : ∀ (H : List AObj) m (e : El), cvT H m (elRow e) (elRow e) := fun H m e => cvT_self (elRow_cl m e)
      have tk : ∀ (b : Nat) (x y : AV) (l : List AV), (x :: y :: l).take (2 + b) = x :: y :: l.take b := fun b x y l => by rw [Nat.add_comm]; rfl
      have dk : ∀ (b : Nat) (x y : AV) (l : List AV), (x :: y :: l).drop (2 + b + 1) = l.drop (b + 1) := fun b x y l => by rw [show 2 + b + 1 = (b + 1) + 2 by omega]; rfl
      unfold elRow at *
      cases cur with
      | nil =>
        show awp Tryz.prog 1 _ _ ⟨tmps 81 [(0, .ptr 0 0), (4, .own 1 (acc.length + 1))], [.box 157 [.str p, .int .i64 q], .reg 160 1 (acc.map altRow ++ [[.nils]])]⟩
        have r1 : (acc.map altRow ++ [[(.nils : AV)]])[acc.length]? = some [(.nils : AV)] := by rw [List.getElem?_append_right (by simp)]; simp
        have r2 : ∀ v : AV, (acc.map altRow ++ [[(.nils : AV)]]).set acc.length [v] = acc.map altRow ++ [[v]] := fun v => by rw [List.set_append_right _ _ (by simp)]; simp
        refine awp_cut ⟨tmps 81 [(0, .ptr 0 0), (4, .own 1 (acc.length + 1))], [.box 157 [.str p, .int .i64 q], .reg 160 1 (acc.map altRow ++ [[.nils]])]⟩ (awp_of ?_) ?_
        · simp +decide -dsimp -implicitDefEqProofs [go_sem, hq]
          refine cut_of (by simp) ?_
          simp +decide -dsimp -implicitDefEqProofs [go_sem, altRows_cl]
        refine awp_block ?_
        refine awp_go ?_
        simp +decide -dsimp -implicitDefEqProofs [go_sem, pq]
        refine awp_go ?_
        simp +decide -dsimp -implicitDefEqProofs [go_sem, wq]
        refine awp_go ?_
        simp +decide -dsimp -implicitDefEqProofs [go_sem, t2, bB_len]
        by_cases hb : (pc p q).toNat = 124
        · rw [altA_bar hq hb] at h3
          have hb' : ((pc p q).toNat : Int) = 124 := by omega
          refine awp_of ?_
          simp +decide -dsimp -implicitDefEqProofs [go_sem, hb', maxLen]
          refine ⟨⟨by omega, by omega⟩, next_of ⟨q + 1, acc ++ [[]], []⟩ ⟨by show q + 1 ≤ p.length; omega, by simp; omega, by simp, h3⟩ (by show p.length - (q + 1) < p.length - q; omega) ?_⟩
          have e1 : (acc ++ [[]]).length = acc.length + 1 := by simp
          show Wk 1 _ ⟨tmps 81 [(0, .ptr 0 0), (4, .own 1 ((acc ++ [[]]).length + 1))], [.box 157 [.str p, .int .i64 ((q + 1 : Nat) : Int)], .reg 160 1 ((acc ++ [[]]).map altRow ++ [[.nils]])]⟩
          rw [e1]
          refine Wk.cut1 0 (.ptr 0 0) (.ptr 0 0) [(4, .own 1 (acc.length + 1 + 1))] (by simp) rfl (.same _ (by simp [closed])) ?_ (ConvH_of (by simp) fun o x' y' hx hy => ?_)
          · simp +decide -dsimp -implicitDefEqProofs [go_sem]
          · cases o with
            | zero => cases hx; cases hy; exact ⟨rfl, ConvL_closed rfl⟩
            | succ o => cases o with
              | zero => cases hx; cases hy; exact ⟨rfl, rfl, bar_conv (cur := []) (by simp) fun x'' l' e => by cases e⟩
              | succ o => simp at hy
        have hb' : ¬ ((pc p q).toNat : Int) = 124 := by omega
        cases he : elA p q with
        | none =>
          rw [altA_no hq hb he] at h3
          unfold elA at he
          split at he
          · cases he
          rename_i n42
          split at he
          · cases he
          rename_i n63
          split at he
          rotate_left
          · cases he
          rename_i n91
          have hs : setB p (q + 1) = none := by
            cases h : setB p (q + 1) with
            | none => rfl
            | some eg => rw [h] at he; cases he
          have c := set_c p (q + 1) hp hl (by omega)
          have i42 : ¬ ((pc p q).toNat : Int) = 42 := by omega
          have i63 : ¬ ((pc p q).toNat : Int) = 63 := by omega
          have i91 : ((pc p q).toNat : Int) = 91 := by omega
          refine awp_of ?_
          simp +decide -dsimp -implicitDefEqProofs [go_sem, i91]
          refine callE_frameR [0] c rfl (fun v G h => by unfold setR at h; rw [hs] at h; obtain ⟨_, m, rfl⟩ := h; rfl) (by simp) (by simp +decide -dsimp -implicitDefEqProofs [go_sem]) (by simp +decide -dsimp -implicitDefEqProofs [go_sem]) ?_
          intro v G hR
          unfold setR at hR
          rw [hs] at hR
          obtain ⟨rfl, m, rfl⟩ := hR
          simp +decide -dsimp -implicitDefEqProofs [go_sem, bB_len, bB_ren, hz]
          refine end_of _ _ (hno m (h3)) rfl ?_
          simp +decide -dsimp -implicitDefEqProofs [go_sem]
        | some xq =>
          obtain ⟨x, q'⟩ := xq
          have hlt := elA_lt hq he
          rw [altA_el hq hb he] at h3
          refine awp_cut ⟨tmps 81 [(0, .ptr 0 0), (4, .own 1 (acc.length + 1)), (6, .ptr 2 0)], [.box 157 [.str p, .int .i64 q'], .reg 160 1 (acc.map altRow ++ [[.nils]]), .box 210 (elRow x)]⟩ ?_ ?_
          · unfold elA at he
            by_cases n42 : (pc p q).toNat = 42
            · rw [if_pos n42] at he
              cases he
              have i42 : ((pc p q).toNat : Int) = 42 := by omega
              refine awp_of ?_
              simp +decide -dsimp -implicitDefEqProofs [go_sem, i42]
              refine callE_pure every_c rfl (aggB_closed _ _) ?_
              simp +decide -dsimp -implicitDefEqProofs [go_sem, t2, bB_len]
              refine cut_of (by simp) ?_
              simp +decide -dsimp -implicitDefEqProofs [go_sem, elRow, altRows_cl, bB_cvT]
            have i42 : ¬ ((pc p q).toNat : Int) = 42 := by omega
            rw [if_neg n42] at he
            by_cases n63 : (pc p q).toNat = 63
            · rw [if_pos n63] at he
              cases he
              have i63 : ((pc p q).toNat : Int) = 63 := by omega
              refine awp_of ?_
              simp +decide -dsimp -implicitDefEqProofs [go_sem, i63]
              refine callE_pure every_c rfl (aggB_closed _ _) ?_
              simp +decide -dsimp -implicitDefEqProofs [go_sem, t2, bB_len]
              refine cut_of (by simp) ?_
              simp +decide -dsimp -implicitDefEqProofs [go_sem, elRow, altRows_cl, bB_cvT]
            have i63 : ¬ ((pc p q).toNat : Int) = 63 := by omega
            rw [if_neg n63] at he
            by_cases n91 : (pc p q).toNat = 91
            · rw [if_pos n91] at he
              have i91 : ((pc p q).toNat : Int) = 91 := by omega
              have c := set_c p (q + 1) hp hl (by omega)
              obtain ⟨eg, hs, hx⟩ : ∃ eg, setB p (q + 1) = some eg ∧ (⟨0, false, eg.2⟩, eg.1) = (x, q') := by
                cases h : setB p (q + 1) with
                | none => rw [h] at he; cases he
                | some eg => rw [h] at he; exact ⟨eg, rfl, Option.some.inj he⟩
              cases hx
              refine awp_of ?_
              simp +decide -dsimp -implicitDefEqProofs [go_sem, i91]
              refine callE_frameR [0] c rfl (fun v G h => by unfold setR at h; rw [hs] at h; obtain ⟨_, rfl⟩ := h; rfl) (by simp) (by simp +decide -dsimp -implicitDefEqProofs [go_sem]) (by simp +decide -dsimp -implicitDefEqProofs [go_sem]) ?_
              intro v G hR
              unfold setR at hR
              rw [hs] at hR
              obtain ⟨rfl, rfl⟩ := hR
              simp +decide -dsimp -implicitDefEqProofs [go_sem, bB_len, bB_ren, hz, t1, t2]
              refine cut_of (by simp) ?_
              simp +decide -dsimp -implicitDefEqProofs [go_sem, elRow, altRows_cl, bB_cvT]
            · rw [if_neg n91] at he
              have i91 : ¬ ((pc p q).toNat : Int) = 91 := by omega
              cases he
              have h126 : (pc p q).toNat ≤ 126 := pc_le hp
              have ee := bB_put (n := 127) (i := (pc p q).toNat) (f := noF) (b := true) (by omega)
              have e2 : (fun j => if j = (pc p q).toNat then true else noF j) = litF (pc p q).toNat := by funext j; unfold litF noF; by_cases hj : j = (pc p q).toNat <;> simp [hj]
              rw [e2] at ee
              refine awp_of ?_
              simp +decide -dsimp -implicitDefEqProofs [go_sem, hb', i42, i63, i91, bB_len, tk, dk, ee]
              refine ⟨by omega, by omega, cutE_of (by simp) ?_⟩
              simp +decide -dsimp -implicitDefEqProofs [go_sem, elRow, altRows_cl, bB_cvT]
          refine awp_of ?_
          have wl : IntKind.i64.wrap (acc.length : Int) = acc.length := w64 (by omega) (by omega)
          have e129 : (elRow x).take 129 = elRow x := List.take_of_length_le (by rw [elRow_len]; omega)
          simp +decide -dsimp -implicitDefEqProofs [go_sem, wl, r2, e129, elRow_len, maxLen]
          refine next_of ⟨q', acc, [x]⟩ ⟨hlt.2, by show acc.length ≤ q'; omega, by show 1 ≤ q'; omega, h3⟩ (by show p.length - q' < p.length - q; omega) (Wk.ren [0, 1, 3] (by decide) rfl (by decide) hid2 (fun x' m s l hx h => by rw [Nat.lt_one_iff.1 hx] at h; cases h) ?_ ?_)
          · simp +decide -dsimp -implicitDefEqProofs [go_sem, altH, curV, curO, altRows_ren, elRow_ren, renLL]
          · simp +decide [rnT, ren]
      | cons y l =>
        show awp Tryz.prog 1 _ _ ⟨tmps 81 [(0, .ptr 0 0), (4, .own 1 (acc.length + 1))], [.box 157 [.str p, .int .i64 q], .reg 160 1 (acc.map altRow ++ [[.own 2 (l.length + 1)]]), .reg 210 129 ((y :: l).map elRow)]⟩
        have r1 : (acc.map altRow ++ [[(.own 2 (l.length + 1) : AV)]])[acc.length]? = some [(.own 2 (l.length + 1) : AV)] := by rw [List.getElem?_append_right (by simp)]; simp
        have r2 : ∀ v : AV, (acc.map altRow ++ [[(.own 2 (l.length + 1) : AV)]]).set acc.length [v] = acc.map altRow ++ [[v]] := fun v => by rw [List.set_append_right _ _ (by simp)]; simp
        refine awp_cut ⟨tmps 81 [(0, .ptr 0 0), (4, .own 1 (acc.length + 1))], [.box 157 [.str p, .int .i64 q], .reg 160 1 (acc.map altRow ++ [[.own 2 (l.length + 1)]]), .reg 210 129 ((y :: l).map elRow)]⟩ (awp_of ?_) ?_
        · simp +decide -dsimp -implicitDefEqProofs [go_sem, hq]
          refine cut_of (by simp) ?_
          simp +decide -dsimp -implicitDefEqProofs [go_sem, altRows_cl, elRow_cl]
        refine awp_block ?_
        refine awp_go ?_
        simp +decide -dsimp -implicitDefEqProofs [go_sem, pq]
        refine awp_go ?_
        simp +decide -dsimp -implicitDefEqProofs [go_sem, wq]
        refine awp_go ?_
        simp +decide -dsimp -implicitDefEqProofs [go_sem, t2, bB_len]
        by_cases hb : (pc p q).toNat = 124
        · rw [altA_bar hq hb] at h3
          have hb' : ((pc p q).toNat : Int) = 124 := by omega
          refine awp_of ?_
          simp +decide -dsimp -implicitDefEqProofs [go_sem, hb', maxLen]
          refine ⟨⟨by omega, by omega⟩, next_of ⟨q + 1, acc ++ [y :: l], []⟩ ⟨by show q + 1 ≤ p.length; omega, by simp; omega, by simp, h3⟩ (by show p.length - (q + 1) < p.length - q; omega) ?_⟩
          have e1 : (acc ++ [y :: l]).length = acc.length + 1 := by simp
          show Wk 1 _ ⟨tmps 81 [(0, .ptr 0 0), (4, .own 1 ((acc ++ [y :: l]).length + 1))], [.box 157 [.str p, .int .i64 ((q + 1 : Nat) : Int)], .reg 160 1 ((acc ++ [y :: l]).map altRow ++ [[.nils]])]⟩
          rw [e1]
          refine Wk.cut1 0 (.ptr 0 0) (.ptr 0 0) [(4, .own 1 (acc.length + 1 + 1))] (by simp) rfl (.same _ (by simp [closed])) ?_ (ConvH_of (by simp) fun o x' y' hx hy => ?_)
          · simp +decide -dsimp -implicitDefEqProofs [go_sem]
          · cases o with
            | zero => cases hx; cases hy; exact ⟨rfl, ConvL_closed rfl⟩
            | succ o => cases o with
              | zero => cases hx; cases hy; exact ⟨rfl, rfl, bar_conv (cur := y :: l) (by simp) fun x'' l' e => by cases e; rfl⟩
              | succ o => simp at hy
        have hyl : l.length + 1 ≤ q := by simpa using h2b
        have hb' : ¬ ((pc p q).toNat : Int) = 124 := by omega
        cases he : elA p q with
        | none =>
          rw [altA_no hq hb he] at h3
          unfold elA at he
          split at he
          · cases he
          rename_i n42
          split at he
          · cases he
          rename_i n63
          split at he
          rotate_left
          · cases he
          rename_i n91
          have hs : setB p (q + 1) = none := by
            cases h : setB p (q + 1) with
            | none => rfl
            | some eg => rw [h] at he; cases he
          have c := set_c p (q + 1) hp hl (by omega)
          have i42 : ¬ ((pc p q).toNat : Int) = 42 := by omega
          have i63 : ¬ ((pc p q).toNat : Int) = 63 := by omega
          have i91 : ((pc p q).toNat : Int) = 91 := by omega
          refine awp_of ?_
          simp +decide -dsimp -implicitDefEqProofs [go_sem, i91]
          refine callE_frameR [0] c rfl (fun v G h => by unfold setR at h; rw [hs] at h; obtain ⟨_, m, rfl⟩ := h; rfl) (by simp) (by simp +decide -dsimp -implicitDefEqProofs [go_sem]) (by simp +decide -dsimp -implicitDefEqProofs [go_sem]) ?_
          intro v G hR
          unfold setR at hR
          rw [hs] at hR
          obtain ⟨rfl, m, rfl⟩ := hR
          simp +decide -dsimp -implicitDefEqProofs [go_sem, bB_len, bB_ren, hz]
          refine end_of _ _ (hno m (h3)) rfl ?_
          simp +decide -dsimp -implicitDefEqProofs [go_sem]
        | some xq =>
          obtain ⟨x, q'⟩ := xq
          have hlt := elA_lt hq he
          rw [altA_el hq hb he] at h3
          refine awp_cut ⟨tmps 81 [(0, .ptr 0 0), (4, .own 1 (acc.length + 1)), (6, .ptr 3 0)], [.box 157 [.str p, .int .i64 q'], .reg 160 1 (acc.map altRow ++ [[.own 2 (l.length + 1)]]), .reg 210 129 ((y :: l).map elRow), .box 210 (elRow x)]⟩ ?_ ?_
          · unfold elA at he
            by_cases n42 : (pc p q).toNat = 42
            · rw [if_pos n42] at he
              cases he
              have i42 : ((pc p q).toNat : Int) = 42 := by omega
              refine awp_of ?_
              simp +decide -dsimp -implicitDefEqProofs [go_sem, i42]
              refine callE_pure every_c rfl (aggB_closed _ _) ?_
              simp +decide -dsimp -implicitDefEqProofs [go_sem, t2, bB_len]
              refine cut_of (by simp) ?_
              simp +decide -dsimp -implicitDefEqProofs [go_sem, elRow, altRows_cl, bB_cvT, cb]
            have i42 : ¬ ((pc p q).toNat : Int) = 42 := by omega
            rw [if_neg n42] at he
            by_cases n63 : (pc p q).toNat = 63
            · rw [if_pos n63] at he
              cases he
              have i63 : ((pc p q).toNat : Int) = 63 := by omega
              refine awp_of ?_
              simp +decide -dsimp -implicitDefEqProofs [go_sem, i63]
              refine callE_pure every_c rfl (aggB_closed _ _) ?_
              simp +decide -dsimp -implicitDefEqProofs [go_sem, t2, bB_len]
              refine cut_of (by simp) ?_
              simp +decide -dsimp -implicitDefEqProofs [go_sem, elRow, altRows_cl, bB_cvT, cb]
            have i63 : ¬ ((pc p q).toNat : Int) = 63 := by omega
            rw [if_neg n63] at he
            by_cases n91 : (pc p q).toNat = 91
            · rw [if_pos n91] at he
              have i91 : ((pc p q).toNat : Int) = 91 := by omega
              have c := set_c p (q + 1) hp hl (by omega)
              obtain ⟨eg, hs, hx⟩ : ∃ eg, setB p (q + 1) = some eg ∧ (⟨0, false, eg.2⟩, eg.1) = (x, q') := by
                cases h : setB p (q + 1) with
                | none => rw [h] at he; cases he
                | some eg => rw [h] at he; exact ⟨eg, rfl, Option.some.inj he⟩
              cases hx
              refine awp_of ?_
              simp +decide -dsimp -implicitDefEqProofs [go_sem, i91]
              refine callE_frameR [0] c rfl (fun v G h => by unfold setR at h; rw [hs] at h; obtain ⟨_, rfl⟩ := h; rfl) (by simp) (by simp +decide -dsimp -implicitDefEqProofs [go_sem]) (by simp +decide -dsimp -implicitDefEqProofs [go_sem]) ?_
              intro v G hR
              unfold setR at hR
              rw [hs] at hR
              obtain ⟨rfl, rfl⟩ := hR
              simp +decide -dsimp -implicitDefEqProofs [go_sem, bB_len, bB_ren, hz, t1, t2]
              refine cut_of (by simp) ?_
              simp +decide -dsimp -implicitDefEqProofs [go_sem, elRow, altRows_cl, bB_cvT, cb]
            · rw [if_neg n91] at he
              have i91 : ¬ ((pc p q).toNat : Int) = 91 := by omega
              cases he
              have h126 : (pc p q).toNat ≤ 126 := pc_le hp
              have ee := bB_put (n := 127) (i := (pc p q).toNat) (f := noF) (b := true) (by omega)
              have e2 : (fun j => if j = (pc p q).toNat then true else noF j) = litF (pc p q).toNat := by funext j; unfold litF noF; by_cases hj : j = (pc p q).toNat <;> simp [hj]
              rw [e2] at ee
              refine awp_of ?_
              simp +decide -dsimp -implicitDefEqProofs [go_sem, hb', i42, i63, i91, bB_len, tk, dk, ee]
              refine ⟨by omega, by omega, cutE_of (by simp) ?_⟩
              simp +decide -dsimp -implicitDefEqProofs [go_sem, elRow, altRows_cl, bB_cvT, cb]
          refine awp_of ?_
          have wl : IntKind.i64.wrap (acc.length : Int) = acc.length := w64 (by omega) (by omega)
          have e129 : (elRow x).take 129 = elRow x := List.take_of_length_le (by rw [elRow_len]; omega)
          simp +decide -dsimp -implicitDefEqProofs [go_sem, wl, r2, e129, elRow_len, maxLen]
          refine ⟨⟨by omega, by omega⟩, next_of ⟨q', acc, y :: (l ++ [x])⟩ ⟨hlt.2, by show acc.length ≤ q'; omega, by simp at h2b ⊢; omega, by rw [h3]; rfl⟩ (by show p.length - q' < p.length - q; omega) (cut_of (by simp [altH, curO]) ?_)⟩
          simp +decide -dsimp -implicitDefEqProofs [go_sem, altH, curV, curO, altRows_cl, elRow_cl]
    · have e : q = p.length := by omega
      subst e
      rw [altA_end] at h3
      refine awp_of ?_
      unfold altH
      simp +decide -dsimp -implicitDefEqProofs [go_sem]
      refine cutX_of (acc ++ [cur], p.length) h3 (Wk.cut1 4 (.own 1 (acc.length + 1)) _ [] (by simp) rfl (.frz 1 _ 160 1 _ _ (by simp) (by simp) rfl (by simp) (rows_conv (by simp) fun x l e => by subst e; rfl)) ?_ (ConvH_of (by simp) fun o x y hx hy => ?_))
      · simp +decide -dsimp -implicitDefEqProofs [go_sem]
      · cases o with
        | zero => simp at hx hy; subst hx hy; exact ⟨rfl, ConvL_closed rfl⟩
        | succ o => simp at hy
  rintro ⟨L, m⟩ h
  simp only at h ⊢
  refine awp_of ?_
  simp +decide -dsimp -implicitDefEqProofs [go_sem]
  refine end_of _ [.box 157 [.str p, .int .i64 m]] (hyes m L h) rfl ?_
  simp +decide -dsimp -implicitDefEqProofs [go_sem, altRows_cl]
end Go.Ab
namespace Go.Ab
open Go Go.Proofs
def parseL (p : List UInt8) : Option (List (List El)) := if textB p = true then altA p 0 [] [] else none
def globE (p : List UInt8) : Int := match parseL p with
  | some _ => 0
  | none => if p.length > 256 then 21 else 20
def parseV (p : List UInt8) : AV := match parseL p with
  | some L => .imm (L.map altRow)
  | none => .nils
theorem parseV_cl (k : Nat) (p : List UInt8) : closed k (parseV p) = true := by
  unfold parseV; split
  · simp [closed, altRows_cl]
  · rfl
theorem text_at {p : List UInt8} (h : textB p = true) : (∀ c ∈ p, 32 ≤ c.toNat ∧ c.toNat ≤ 126) ∧ p.length ≤ 256 := by
  unfold textB printB at h
  simp only [Bool.and_eq_true, decide_eq_true_eq, List.all_eq_true] at h
  exact ⟨fun c hc => by simpa using h.1 c hc, h.2⟩
set_option maxRecDepth 20000 in
theorem parse_c (p : List UInt8) (hl : p.length < 9223372036854775807) : ACalls Tryz.prog 82 [.str p] [] (.tup [parseV p, .int .i64 (globE p)]) [] := by
  have ct := Text_c p hl
  by_cases h : (256 : Int) < p.length
  · have hn : ¬ textB p = true := fun ht => by have := (text_at ht).2; omega
    have e1 : parseL p = none := by unfold parseL; rw [if_neg hn]
    have h' : p.length > 256 := by omega
    refine acalls_F c82_ok rfl ?_
    unfold c82 parseV globE
    rw [e1]
    simp +decide -dsimp -implicitDefEqProofs [go_sem, h, h']
  · have h' : ¬ p.length > 256 := by omega
    by_cases ht : textB p = true
    · rw [ht] at ct
      have c := alternatives_c p (fun c hc => ((text_at ht).1 c hc).2) (by have := (text_at ht).2; omega)
      have e1 : parseL p = altA p 0 [] [] := by unfold parseL; rw [if_pos ht]
      refine acalls_F c82_ok rfl ?_
      unfold c82 parseV globE
      rw [e1]
      simp +decide -dsimp -implicitDefEqProofs [go_sem, h]
      refine callE_pure ct rfl rfl ?_
      simp +decide -dsimp -implicitDefEqProofs [go_sem]
      refine callE_frameR [0] c rfl (fun v G h => by unfold altR at h; split at h <;> obtain ⟨_, m, rfl⟩ := h <;> rfl) (by simp) (by simp +decide -dsimp -implicitDefEqProofs [go_sem]) (by simp +decide -dsimp -implicitDefEqProofs [go_sem]) ?_
      intro v G hR
      unfold altR at hR
      cases hA : altA p 0 [] [] with
      | none =>
        rw [hA] at hR
        obtain ⟨rfl, m, rfl⟩ := hR
        simp +decide -dsimp -implicitDefEqProofs [go_sem, h']
      | some L =>
        rw [hA] at hR
        obtain ⟨rfl, m, rfl⟩ := hR
        simp +decide -dsimp -implicitDefEqProofs [go_sem, altRows_ren, altRows_cl]
    · have e1 : parseL p = none := by unfold parseL; rw [if_neg ht]
      have hf : textB p = false := by simpa using ht
      rw [hf] at ct
      refine acalls_F c82_ok rfl ?_
      unfold c82 parseV globE
      rw [e1]
      simp +decide -dsimp -implicitDefEqProofs [go_sem, h]
      refine callE_pure ct rfl rfl ?_
      simp +decide -dsimp -implicitDefEqProofs [go_sem, h']
theorem Check_c (p : List UInt8) (hl : p.length < 9223372036854775807) : ACalls Tryz.prog 42 [.str p] [] (.int .i64 (globE p)) [] := by
  have c := parse_c p hl
  have hcl := parseV_cl 0 p
  refine acalls_F c42_ok rfl ?_
  unfold c42
  generalize parseV p = v at c hcl
  simp +decide -dsimp -implicitDefEqProofs [go_sem]
  refine callE_pure c rfl (by simp [closed, closedL, hcl]) ?_
  simp +decide -dsimp -implicitDefEqProofs [go_sem]
end Go.Ab
namespace Go.Ab
open Go Go.Proofs
def mtch (l : List El) (s : List UInt8) : Bool := match l with
  | [] => s.isEmpty
  | e :: l => if e.star then mtch l s || (match s with | [] => false | _ :: t => mtch (e :: l) t)
    else match s with | [] => false | c :: t => e.set c.toNat && mtch l t
termination_by (l.length, s.length)
theorem m_nil (s : List UInt8) : mtch [] s = s.isEmpty := by rw [mtch]
theorem m_star {e : El} (h : e.star = true) (l : List El) (s : List UInt8) : mtch (e :: l) s = (mtch l s || (match s with | [] => false | _ :: t => mtch (e :: l) t)) := by
  conv => lhs; rw [mtch.eq_def]
  simp only [h, if_true]
theorem m_one {e : El} (h : e.star = false) (l : List El) (s : List UInt8) : mtch (e :: l) s = (match s with | [] => false | c :: t => e.set c.toNat && mtch l t) := by
  conv => lhs; rw [mtch.eq_def]
  simp only [h, Bool.false_eq_true, if_false]
theorem m_star_ex {e : El} (h : e.star = true) (l : List El) : ∀ s : List UInt8, mtch (e :: l) s = true ↔ ∃ j, j ≤ s.length ∧ mtch l (s.drop j) = true
  | [] => by
    rw [m_star h]
    simp
  | c :: t => by
    rw [m_star h, Bool.or_eq_true]
    show _ ∨ mtch (e :: l) t = true ↔ _
    rw [m_star_ex h l t]
    constructor
    · rintro (h1 | ⟨j, h1, h2⟩)
      · exact ⟨0, by simp, h1⟩
      · exact ⟨j + 1, by simp; omega, h2⟩
    · rintro ⟨j, h1, h2⟩
      cases j with
      | zero => exact .inl h2
      | succ j => exact .inr ⟨j, by simp at h1; omega, h2⟩
theorem m_star_mono {e : El} (h : e.star = true) (l : List El) {s : List UInt8} {a b : Nat} (hab : b ≤ a) (ha : a ≤ s.length) (hm : mtch (e :: l) (s.drop a) = true) : mtch (e :: l) (s.drop b) = true := by
  rw [m_star_ex h] at hm ⊢
  obtain ⟨j, h1, h2⟩ := hm
  rw [List.length_drop] at h1
  refine ⟨a - b + j, by rw [List.length_drop]; omega, ?_⟩
  rw [List.drop_drop] at h2 ⊢
  rwa [show b + (a - b + j) = a + j by omega]
theorem m_seg : ∀ (seg l : List El) (s : List UInt8), (∀ e ∈ seg, e.star = false) → mtch (seg ++ l) s = true → seg.length ≤ s.length ∧ mtch l (s.drop seg.length) = true
  | [], l, s, _, h => ⟨by simp, h⟩
  | e :: seg, l, s, hs, h => by
    rw [List.cons_append, m_one (hs e (by simp))] at h
    cases s with
    | nil => cases h
    | cons c t =>
      simp only [Bool.and_eq_true] at h
      have := m_seg seg l t (fun x hx => hs x (by simp [hx])) h.2
      exact ⟨by simp; omega, this.2⟩
structure MS where
  at' : Nat
  star : Int
  frm : Nat
  i : Nat
structure MOk (l : List El) (s : List UInt8) (x : MS) : Prop where
  ia : x.i ≤ s.length
  aa : x.at' ≤ l.length
  fi : x.frm ≤ x.i
  cs : (x.star = -1 ∧ mtch l s = mtch (l.drop x.at') (s.drop x.i)) ∨
    ∃ k : Nat, x.star = k ∧ ∃ hk : k < l.length, l[k].star = true ∧ k + 1 ≤ x.at' ∧ x.i = x.frm + (x.at' - (k + 1)) ∧ (∀ j, k + 1 ≤ j → j < x.at' → ∀ h : j < l.length, l[j].star = false) ∧
      (mtch l s = true ↔ ∃ j, x.frm ≤ j ∧ j ≤ s.length ∧ mtch (l.drop (k + 1)) (s.drop j) = true) ∧
      mtch (l.drop (k + 1)) (s.drop x.frm) = mtch (l.drop x.at') (s.drop x.i)
variable {l : List El} {s : List UInt8}
theorem MOk.init : MOk l s ⟨0, -1, 0, 0⟩ := ⟨Nat.zero_le _, Nat.zero_le _, Nat.le_refl _, .inl ⟨rfl, rfl⟩⟩
theorem drop_cons {α : Type} {l : List α} {i : Nat} (h : i < l.length) : l.drop i = l[i] :: l.drop (i + 1) := List.drop_eq_getElem_cons h
theorem MOk.star (x : MS) (h : MOk l s x) (ha : x.at' < l.length) (hs : l[x.at'].star = true) : MOk l s ⟨x.at' + 1, x.at', x.i, x.i⟩ := by
  refine ⟨h.ia, by show x.at' + 1 ≤ _; omega, Nat.le_refl _, .inr ⟨x.at', rfl, ha, hs, Nat.le_refl _, by dsimp only; omega, fun j h1 h2 => by have h2' : j < x.at' + 1 := h2; omega, ?_, rfl⟩⟩
  have key : mtch (l.drop x.at') (s.drop x.i) = true ↔ ∃ j, x.i ≤ j ∧ j ≤ s.length ∧ mtch (l.drop (x.at' + 1)) (s.drop j) = true := by
    rw [drop_cons ha, m_star_ex hs]
    constructor
    · rintro ⟨j, h1, h2⟩
      rw [List.drop_drop] at h2
      rw [List.length_drop] at h1
      exact ⟨x.i + j, by omega, by have := h.ia; omega, h2⟩
    · rintro ⟨j, h1, h2, h3⟩
      refine ⟨j - x.i, by rw [List.length_drop]; omega, ?_⟩
      rw [List.drop_drop, show x.i + (j - x.i) = j by omega]
      exact h3
  rcases h.cs with ⟨_, h1⟩ | ⟨k, hk0, hk, h1, h2, h3, h4, h5, h6⟩
  · show mtch l s = true ↔ _
    rw [h1]; exact key
  · show mtch l s = true ↔ _
    rw [← key, h5, ← h6]
    constructor
    · rintro ⟨j, g1, g2, g3⟩
      -- the elements between take as many bytes from j
      have hseg : l.drop (k + 1) = (l.drop (k + 1)).take (x.at' - (k + 1)) ++ l.drop x.at' := by
        conv => lhs; rw [← List.take_append_drop (x.at' - (k + 1)) (l.drop (k + 1))]
        rw [List.drop_drop, Nat.add_sub_of_le h2]
      have hlen : ((l.drop (k + 1)).take (x.at' - (k + 1))).length = x.at' - (k + 1) := by rw [List.length_take, List.length_drop]; omega
      have q1 : ∀ n, n < x.at' - (k + 1) → k + 1 ≤ k + 1 + n ∧ k + 1 + n < x.at' ∧ k + 1 + n < l.length := fun n hn => ⟨Nat.le_add_right _ _, by omega, by omega⟩
      have hns : ∀ e ∈ (l.drop (k + 1)).take (x.at' - (k + 1)), e.star = false := fun e he => by
        obtain ⟨n, hn, rfl⟩ := List.mem_iff_getElem.1 he
        rw [List.getElem_take, List.getElem_drop]
        rw [hlen] at hn
        exact h4 (k + 1 + n) (q1 n hn).1 (q1 n hn).2.1 (q1 n hn).2.2
      rw [hseg] at g3
      obtain ⟨f1, f2⟩ := m_seg _ _ _ hns g3
      rw [hlen] at f1 f2
      rw [List.length_drop] at f1
      rw [h6]
      rw [List.drop_drop, drop_cons ha] at f2
      rw [drop_cons ha]
      exact m_star_mono hs _ (by omega) (by omega) f2
    · intro g
      exact ⟨x.frm, Nat.le_refl _, by have := h.fi; have := h.ia; omega, g⟩
theorem MOk.byte (x : MS) (h : MOk l s x) (ha : x.at' < l.length) (hi : x.i < s.length) (hs : l[x.at'].star = false) (hb : l[x.at'].set s[x.i].toNat = true) : MOk l s ⟨x.at' + 1, x.star, x.frm, x.i + 1⟩ := by
  have e : mtch (l.drop x.at') (s.drop x.i) = mtch (l.drop (x.at' + 1)) (s.drop (x.i + 1)) := by
    rw [drop_cons ha, drop_cons hi, m_one hs]
    simp [hb]
  refine ⟨by show x.i + 1 ≤ _; omega, by show x.at' + 1 ≤ _; omega, by show x.frm ≤ x.i + 1; have := h.fi; omega, ?_⟩
  rcases h.cs with ⟨h0, h1⟩ | ⟨k, hk0, hk, h1, h2, h3, h4, h5, h6⟩
  · exact .inl ⟨h0, h1.trans e⟩
  · refine .inr ⟨k, hk0, hk, h1, Nat.le_succ_of_le h2, by dsimp only; rw [h3, Nat.sub_add_comm h2, Nat.add_assoc], fun j g1 g2 g3 => ?_, h5, h6.trans e⟩
    have g2' : j < x.at' + 1 := g2
    by_cases hj : j = x.at'
    · subst hj; exact hs
    · exact h4 j g1 (Nat.lt_of_le_of_ne (Nat.lt_succ_iff.1 g2') hj) g3
def stuck (l : List El) (s : List UInt8) (x : MS) : Prop := ∀ ha : x.at' < l.length, l[x.at'].star = false ∧ ∀ hi : x.i < s.length, l[x.at'].set s[x.i].toNat = false
theorem stuck_no {x : MS} (hi : x.i < s.length) (h : stuck l s x) : mtch (l.drop x.at') (s.drop x.i) = false := by
  by_cases ha : x.at' < l.length
  · obtain ⟨h1, h2⟩ := h ha
    rw [drop_cons ha, drop_cons hi, m_one h1]
    simp [h2 hi]
  · rw [List.drop_eq_nil_of_le (by omega), drop_cons hi, m_nil]; rfl
theorem MOk.back (x : MS) (h : MOk l s x) (hi : x.i < s.length) (hst : stuck l s x) (k : Nat) (hk : x.star = k) : MOk l s ⟨k + 1, x.star, x.frm + 1, x.frm + 1⟩ := by
  have hno := stuck_no hi hst
  rcases h.cs with ⟨h0, _⟩ | ⟨k', hk0, hk', h1, h2, h3, h4, h5, h6⟩
  · rw [hk] at h0; omega
  have : k' = k := by rw [hk] at hk0; omega
  subst this
  have hfi := h.fi
  refine ⟨by show x.frm + 1 ≤ _; omega, by show k' + 1 ≤ _; omega, Nat.le_refl _, .inr ⟨k', hk0, hk', h1, Nat.le_refl _, by dsimp only; omega, fun j g1 g2 => by have g2' : j < k' + 1 := g2; omega, ?_, rfl⟩⟩
  rw [h5]
  constructor
  · rintro ⟨j, g1, g2, g3⟩
    refine ⟨j, ?_, g2, g3⟩
    show x.frm + 1 ≤ j
    rcases Nat.lt_or_ge x.frm j with g | g
    · omega
    · have : j = x.frm := by omega
      rw [this, h6, hno] at g3
      cases g3
  · rintro ⟨j, g1, g2, g3⟩
    have g1' : x.frm + 1 ≤ j := g1
    exact ⟨j, by omega, g2, g3⟩
theorem MOk.fail (x : MS) (h : MOk l s x) (hi : x.i < s.length) (hst : stuck l s x) (hk : x.star = -1) : mtch l s = false := by
  rcases h.cs with ⟨_, h1⟩ | ⟨k, hk0, _⟩
  · rw [h1, stuck_no hi hst]
  · rw [hk] at hk0; omega
theorem m_end : ∀ l : List El, mtch l [] = l.all (·.star)
  | [] => by rw [m_nil]; rfl
  | e :: l => by
    cases h : e.star with
    | true => rw [m_star h, m_end l]; simp [h]
    | false => rw [m_one h]; simp [h]
theorem MOk.fin (x : MS) (h : MOk l s x) (hi : x.i = s.length) : mtch l s = (l.drop x.at').all (·.star) := by
  have hd : s.drop x.i = [] := List.drop_eq_nil_of_le (by omega)
  rcases h.cs with ⟨_, h1⟩ | ⟨k, hk0, hk, h1, h2, h3, h4, h5, h6⟩
  · rw [h1, hd, m_end]
  · rw [hd, m_end] at h6
    cases ha : (l.drop x.at').all (·.star) with
    | true =>
      rw [ha] at h6
      exact h5.2 ⟨x.frm, Nat.le_refl _, by have := h.fi; omega, h6⟩
    | false =>
      rw [ha] at h6
      cases hm : mtch l s with
      | false => rfl
      | true =>
        obtain ⟨j, g1, g2, g3⟩ := h5.1 hm
        have hseg : l.drop (k + 1) = (l.drop (k + 1)).take (x.at' - (k + 1)) ++ l.drop x.at' := by
          conv => lhs; rw [← List.take_append_drop (x.at' - (k + 1)) (l.drop (k + 1))]
          rw [List.drop_drop, Nat.add_sub_of_le h2]
        have haa := h.aa
        have hlen : ((l.drop (k + 1)).take (x.at' - (k + 1))).length = x.at' - (k + 1) := by rw [List.length_take, List.length_drop]; omega
        have q1 : ∀ n, n < x.at' - (k + 1) → k + 1 ≤ k + 1 + n ∧ k + 1 + n < x.at' ∧ k + 1 + n < l.length := fun n hn => ⟨Nat.le_add_right _ _, by omega, by omega⟩
        have hns : ∀ e ∈ (l.drop (k + 1)).take (x.at' - (k + 1)), e.star = false := fun e he => by
          obtain ⟨n, hn, rfl⟩ := List.mem_iff_getElem.1 he
          rw [List.getElem_take, List.getElem_drop]
          rw [hlen] at hn
          exact h4 (k + 1 + n) (q1 n hn).1 (q1 n hn).2.1 (q1 n hn).2.2
        have g4 := g3
        rw [hseg] at g4
        obtain ⟨f1, f2⟩ := m_seg _ _ _ hns g4
        rw [hlen, List.length_drop] at f1
        have : j = x.frm := by omega
        rw [this, h6] at g3
        cases g3
end Go.Ab
namespace Go.Ab
open Go Go.Proofs
def mMeas (L S : Nat) (x : MS) : Nat := (L - (x.star + 1).toNat) * ((S + 1) * (S + 1)) + (S - x.frm) * (S + 1) + (S - x.i)
theorem lex3 {S a b c a' b' c' : Nat} (hb : b' ≤ S) (hc : c' ≤ S) (h : a' < a) : a' * ((S + 1) * (S + 1)) + b' * (S + 1) + c' < a * ((S + 1) * (S + 1)) + b * (S + 1) + c := by
  have h1 : b' * (S + 1) ≤ S * (S + 1) := Nat.mul_le_mul_right _ hb
  have h2 : (a' + 1) * ((S + 1) * (S + 1)) ≤ a * ((S + 1) * (S + 1)) := Nat.mul_le_mul_right _ h
  rw [Nat.add_mul, Nat.one_mul] at h2
  have h3 : (S + 1) * (S + 1) = S * (S + 1) + (S + 1) := by rw [Nat.add_mul, Nat.one_mul]
  generalize (S + 1) * (S + 1) = K at *
  generalize a' * K = A' at *
  generalize a * K = A at *
  generalize b' * (S + 1) = B' at *
  generalize b * (S + 1) = B at *
  generalize S * (S + 1) = D at *
  omega
theorem lex2 {S b c b' c' : Nat} (hc : c' ≤ S) (h : b' < b) : b' * (S + 1) + c' < b * (S + 1) + c := by
  have h2 : (b' + 1) * (S + 1) ≤ b * (S + 1) := Nat.mul_le_mul_right _ h
  rw [Nat.add_mul, Nat.one_mul] at h2
  omega
set_option maxRecDepth 20000 in
set_option maxHeartbeats 8000000 in
theorem matches_c (l : List El) (s : List UInt8) (hl : l.length ≤ 1000) (hs : s.length ≤ 1000000) (hb : ∀ c ∈ s, c.toNat ≤ 126) : ACalls Tryz.prog 118 [.imm (l.map elRow), .str s] [] (.bool (mtch l s)) [] := by
  refine acalls_A c118_ok rfl ?_
  unfold c118
  refine awp_go ?_
  simp +decide -dsimp -implicitDefEqProofs [go_sem]
  refine awp_go ?_
  simp +decide -dsimp -implicitDefEqProofs [go_sem]
  refine awp_cutX (S := MS) (fun x => ⟨tmps 74 [(0, .imm (l.map elRow)), (5, .int .i64 x.at')], []⟩) (fun x => MOk l s x ∧ x.i = s.length) (awp_of ?_) ?_
  · simp +decide -dsimp -implicitDefEqProofs [go_sem]
    refine loop_ofA (S := MS) (fun x => ⟨tmps 74 [(0, .imm (l.map elRow)), (1, .str s), (5, .int .i64 x.at'), (6, .int .i64 x.star), (7, .int .i64 x.frm), (8, .int .i64 x.i)], []⟩) (mMeas l.length s.length) (fun x => MOk l s x) ⟨0, -1, 0, 0⟩ .init (cut_of (by simp) ?_) ?_
    · simp +decide -dsimp -implicitDefEqProofs [go_sem, elRows_cl]
    intro x hx
    have hia := hx.ia
    have haa := hx.aa
    have hfi := hx.fi
    have hst : x.star = -1 ∨ ∃ k : Nat, x.star = k ∧ k + 1 ≤ x.at' := by
      rcases hx.cs with ⟨h, _⟩ | ⟨k, h, _, _, h2, _⟩
      · exact .inl h
      · exact .inr ⟨k, h, h2⟩
    by_cases hi : x.i < s.length
    · have hi' : (x.i : Int) < s.length := by omega
      have si : s[x.i]? = some s[x.i] := List.getElem?_eq_getElem hi
      have hc126 : s[x.i].toNat ≤ 126 := hb _ (List.getElem_mem hi)
      have hc127 : s[x.i].toNat < 127 := by omega
      have wa : IntKind.i64.wrap ((x.at' : Int) + 1) = x.at' + 1 := w64 (by omega) (by omega)
      have wi : IntKind.i64.wrap ((x.i : Int) + 1) = x.i + 1 := w64 (by omega) (by omega)
      have wf : IntKind.i64.wrap ((x.frm : Int) + 1) = x.frm + 1 := w64 (by omega) (by omega)
      by_cases ha : x.at' < l.length
      · have ha' : (x.at' : Int) < l.length := by omega
        cases hsr : l[x.at'].star with
        | true =>
          have la : elRow l[x.at'] = .int .u8 l[x.at'].lit :: .bool true :: bB (rB 127 l[x.at'].set) := by unfold elRow; rw [hsr]
          refine awp_of ?_
          simp +decide -dsimp -implicitDefEqProofs [go_sem, hi', ha', ha, la, wa, bB_len]
          refine next_of (⟨x.at' + 1, x.at', x.i, x.i⟩ : MS) (MOk.star x hx ha hsr) (lex3 (by dsimp only; omega) (by dsimp only; omega) ?_) (cut_of (by simp) ?_)
          · dsimp only
            rcases hst with h | ⟨k, h, h2⟩ <;> omega
          · simp +decide -dsimp -implicitDefEqProofs [go_sem, elRows_cl]
        | false =>
          have la : elRow l[x.at'] = .int .u8 l[x.at'].lit :: .bool false :: bB (rB 127 l[x.at'].set) := by unfold elRow; rw [hsr]
          have lset : (rB 127 l[x.at'].set)[s[x.i].toNat]'(by rw [rB_len]; omega) = l[x.at'].set s[x.i].toNat := by rw [rB_at]
          cases hbs : l[x.at'].set s[x.i].toNat with
          | true =>
            rw [hbs] at lset
            refine awp_of ?_
            simp +decide -dsimp -implicitDefEqProofs [go_sem, hi', hi, ha', ha, la, wa, wi, hc127, bB_len, ldK_bB, lset]
            refine next_of (⟨x.at' + 1, x.star, x.frm, x.i + 1⟩ : MS) (MOk.byte x hx ha hi hsr hbs) (by unfold mMeas; dsimp only; omega) (cut_of (by simp) ?_)
            simp +decide -dsimp -implicitDefEqProofs [go_sem, elRows_cl]
          | false =>
            rw [hbs] at lset
            have hstuck : stuck l s x := fun _ => ⟨hsr, fun _ => hbs⟩
            rcases hst with h0 | ⟨k, h0, h2⟩
            · have hno := MOk.fail x hx hi hstuck h0
              rw [hno]
              refine awp_of ?_
              rw [h0]
              simp +decide -dsimp -implicitDefEqProofs [go_sem, hi', hi, ha', ha, la, wa, wi, hc127, bB_len, ldK_bB, lset]
            · have wk : IntKind.i64.wrap ((k : Int) + 1) = k + 1 := w64 (by omega) (by omega)
              have hbk := MOk.back x hx hi hstuck k h0
              rw [h0] at hbk ⊢
              refine awp_of ?_
              simp +decide -dsimp -implicitDefEqProofs [go_sem, hi', hi, ha', ha, la, wa, wi, wk, wf, hc127, bB_len, ldK_bB, lset]
              refine next_of (⟨k + 1, k, x.frm + 1, x.frm + 1⟩ : MS) hbk (by unfold mMeas; dsimp only; rw [h0, Nat.add_assoc, Nat.add_assoc]; exact Nat.add_lt_add_left (lex2 (by omega) (by omega)) _) (cut_of (by simp) ?_)
              simp +decide -dsimp -implicitDefEqProofs [go_sem, elRows_cl]
      · have ha' : ¬ (x.at' : Int) < l.length := by omega
        have hstuck : stuck l s x := fun h => absurd h ha
        rcases hst with h0 | ⟨k, h0, h2⟩
        · have hno := MOk.fail x hx hi hstuck h0
          rw [hno]
          refine awp_of ?_
          rw [h0]
          simp +decide -dsimp -implicitDefEqProofs [go_sem, hi', ha']
        · have wk : IntKind.i64.wrap ((k : Int) + 1) = k + 1 := w64 (by omega) (by omega)
          have hbk := MOk.back x hx hi hstuck k h0
          rw [h0] at hbk ⊢
          refine awp_of ?_
          simp +decide -dsimp -implicitDefEqProofs [go_sem, hi', ha', wk, wf]
          refine next_of (⟨k + 1, k, x.frm + 1, x.frm + 1⟩ : MS) hbk (by unfold mMeas; dsimp only; rw [h0, Nat.add_assoc, Nat.add_assoc]; exact Nat.add_lt_add_left (lex2 (by omega) (by omega)) _) (cut_of (by simp) ?_)
          simp +decide -dsimp -implicitDefEqProofs [go_sem, elRows_cl]
    · have hi' : ¬ (x.i : Int) < s.length := by omega
      refine awp_of ?_
      simp +decide -dsimp -implicitDefEqProofs [go_sem, hi']
      refine cutX_of x ⟨hx, by omega⟩ (cut_of (by simp) ?_)
      simp +decide -dsimp -implicitDefEqProofs [go_sem, elRows_cl]
  intro x ⟨hx, hi⟩
  have hfin := MOk.fin x hx hi
  have haa := hx.aa
  refine awp_cutX (S := Nat) (fun a => ⟨tmps 74 [(0, .imm (l.map elRow)), (5, .int .i64 a)], []⟩) (fun a => a ≤ l.length ∧ mtch l s = (l.drop a).all (·.star) ∧ ∀ h : a < l.length, l[a].star = false) (awp_of ?_) ?_
  · simp +decide -dsimp -implicitDefEqProofs [go_sem]
    refine loop_of (S := Nat) (fun a => ⟨tmps 74 [(0, .imm (l.map elRow)), (5, .int .i64 a)], []⟩) (fun a => l.length - a) (fun a => a ≤ l.length ∧ mtch l s = (l.drop a).all (·.star)) x.at' ⟨haa, hfin⟩ (cut_of (by simp) ?_) ?_
    · simp +decide -dsimp -implicitDefEqProofs [go_sem, elRows_cl]
    intro a ⟨h1, h2⟩
    by_cases ha : a < l.length
    · have ha' : (a : Int) < l.length := by omega
      have wa : IntKind.i64.wrap ((a : Int) + 1) = a + 1 := w64 (by omega) (by omega)
      cases hsr : l[a].star with
      | true =>
        have la : elRow l[a] = .int .u8 l[a].lit :: .bool true :: bB (rB 127 l[a].set) := by unfold elRow; rw [hsr]
        simp +decide -dsimp -implicitDefEqProofs [go_sem, ha', ha, la, wa, bB_len]
        refine next_of (a + 1) ⟨ha, by rw [h2, drop_cons ha, List.all_cons, hsr, Bool.true_and]⟩ (by show l.length - (a + 1) < l.length - a; omega) (cut_of (by simp) ?_)
        simp +decide -dsimp -implicitDefEqProofs [go_sem, elRows_cl]
      | false =>
        have la : elRow l[a] = .int .u8 l[a].lit :: .bool false :: bB (rB 127 l[a].set) := by unfold elRow; rw [hsr]
        simp +decide -dsimp -implicitDefEqProofs [go_sem, ha', ha, la, bB_len]
        refine cutX_of a ⟨h1, h2, fun _ => hsr⟩ (cut_of (by simp) ?_)
        simp +decide -dsimp -implicitDefEqProofs [go_sem, elRows_cl]
    · have ha' : ¬ (a : Int) < l.length := by omega
      simp +decide -dsimp -implicitDefEqProofs [go_sem, ha']
      refine cutX_of a ⟨h1, h2, fun h => absurd h ha⟩ (cut_of (by simp) ?_)
      simp +decide -dsimp -implicitDefEqProofs [go_sem, elRows_cl]
  intro a ⟨h1, h2, h3⟩
  have e : mtch l s = decide (a = l.length) := by
    rw [h2]
    by_cases ha : a < l.length
    · rw [drop_cons ha, List.all_cons, h3 ha, Bool.false_and, decide_eq_false (by omega)]
    · rw [List.drop_eq_nil_of_le (by omega), decide_eq_true (by omega)]; rfl
  rw [e]
  refine awp_of ?_
  by_cases ha : a = l.length
  · simp +decide -dsimp -implicitDefEqProofs [go_sem, ha]
  · have ha' : ¬ (a : Int) = l.length := by omega
    simp +decide -dsimp -implicitDefEqProofs [go_sem, ha, ha']
end Go.Ab
namespace Go.Ab
open Go Go.Proofs
theorem altA_small {p : List UInt8} {N : Nat} : ∀ (n q : Nat) (acc : List (List El)) (cur : List El) (L : List (List El)), p.length - q ≤ n → altA p q acc cur = some L → (∀ a ∈ acc, a.length ≤ N) → cur.length + (p.length - q) ≤ N →
    (∀ a ∈ L, a.length ≤ N) ∧ L.length ≤ acc.length + 1 + (p.length - q) ∧ L ≠ []
  | n, q, acc, cur, L, hn, h, ha, hc => by
    by_cases hq : q < p.length
    · cases n with
      | zero => omega
      | succ n =>
        by_cases hb : (pc p q).toNat = 124
        · rw [altA_bar hq hb] at h
          obtain ⟨h1, h2, h3⟩ := altA_small n (q + 1) _ _ L (by omega) h (fun a hm => by
            rcases List.mem_append.1 hm with hm | hm
            · exact ha a hm
            · rw [List.mem_singleton.1 hm]; omega) (by simp; omega)
          exact ⟨h1, by simp at h2; omega, h3⟩
        · cases he : elA p q with
          | none => rw [altA_no hq hb he] at h; cases h
          | some xq =>
            obtain ⟨x, q'⟩ := xq
            have hlt := elA_lt hq he
            rw [altA_el hq hb he] at h
            obtain ⟨h1, h2, h3⟩ := altA_small n q' _ _ L (by omega) h ha (by simp; omega)
            exact ⟨h1, by omega, h3⟩
    · rw [altA, dif_neg hq] at h
      cases h
      refine ⟨fun a hm => ?_, by simp, by simp⟩
      rcases List.mem_append.1 hm with hm | hm
      · exact ha a hm
      · rw [List.mem_singleton.1 hm]; omega
theorem parseL_small {p : List UInt8} {L : List (List El)} (h : parseL p = some L) : (∀ a ∈ L, a.length ≤ 256) ∧ L.length ≤ 257 := by
  unfold parseL at h
  split at h
  · rename_i ht
    have hl := (text_at ht).2
    obtain ⟨h1, h2, _⟩ := altA_small (N := 256) _ 0 [] [] L (Nat.le_refl _) h (by simp) (by simp; omega)
    exact ⟨h1, by simp at h2; omega⟩
  · cases h
def matchB (p s : List UInt8) : Bool := match parseL p with
  | none => false
  | some L => printB s && L.any fun l => mtch l s
theorem print_at {s : List UInt8} (h : printB s = true) : ∀ c ∈ s, c.toNat ≤ 126 := fun c hc => by
  unfold printB at h
  have := List.all_eq_true.1 h c hc
  simp at this; exact this.2
theorem print_step {s : List UInt8} {i : Nat} (h : i < s.length) : printB (s.take (i + 1)) = (printB (s.take i) && (decide (32 ≤ s[i].toNat) && decide (s[i].toNat ≤ 126))) := by
  unfold printB
  rw [List.take_succ_eq_append_getElem h, List.all_append, List.all_cons, List.all_nil, Bool.and_true]
set_option maxRecDepth 20000 in
set_option maxHeartbeats 4000000 in
theorem Match_c (p s : List UInt8) (hl : p.length < 9223372036854775807) (hs : s.length ≤ 1000000) : ACalls Tryz.prog 84 [.str p, .str s] [] (.bool (matchB p s)) [] := by
  have c := parse_c p hl
  refine acalls_A c84_ok rfl ?_
  unfold c84
  refine awp_go ?_
  simp +decide -dsimp -implicitDefEqProofs [go_sem]
  have hcl := parseV_cl 0 p
  unfold matchB
  cases hL : parseL p with
  | none =>
    have e1 : parseV p = .nils := by unfold parseV; rw [hL]
    have e2 : ¬ globE p = 0 := by unfold globE; rw [hL]; dsimp only; split <;> omega
    rw [e1] at c
    refine awp_of ?_
    simp +decide -dsimp -implicitDefEqProofs [go_sem]
    refine callE_pure c rfl rfl ?_
    simp +decide -dsimp -implicitDefEqProofs [go_sem, e2]
  | some L =>
    have e1 : parseV p = .imm (L.map altRow) := by unfold parseV; rw [hL]
    have e2 : globE p = 0 := by unfold globE; rw [hL]
    obtain ⟨hs1, hs2⟩ := parseL_small hL
    rw [e1, e2] at c
    refine awp_go ?_
    simp +decide -dsimp -implicitDefEqProofs [go_sem]
    refine callE_pure c rfl (by simp [closed, closedL, altRows_cl]) ?_
    simp +decide -dsimp -implicitDefEqProofs [go_sem]
    refine awp_go ?_
    simp +decide -dsimp -implicitDefEqProofs [go_sem]
    by_cases hp : printB s = true
    · refine awp_cut ⟨tmps 43 [(1, .str s), (5, .imm (L.map altRow))], []⟩ (awp_of ?_) ?_
      · simp +decide -dsimp -implicitDefEqProofs [go_sem]
        refine loop_of (S := Nat) (fun i => ⟨tmps 43 [(1, .str s), (5, .imm (L.map altRow)), (18, .int .i64 s.length), (19, .int .i64 i)], []⟩) (fun i => s.length - i) (fun i => i ≤ s.length) 0 (by simp) (cut_of (by simp) ?_) ?_
        · simp +decide -dsimp -implicitDefEqProofs [go_sem, altRows_cl]
        intro i hi
        by_cases h : i < s.length
        · have w : IntKind.i64.wrap ((i : Int) + 1) = i + 1 := w64 (by omega) (by omega)
          have hc : 32 ≤ s[i].toNat ∧ s[i].toNat ≤ 126 := by
            have := List.all_eq_true.1 hp s[i] (List.getElem_mem h)
            simpa using this
          have hc1 : ¬ (s[i].toNat : Int) < 32 := by omega
          have hc2 : ¬ (126 : Int) < (s[i].toNat : Int) := by omega
          simp +decide -dsimp -implicitDefEqProofs [go_sem, h, w, hc1, hc2]
          refine next_of (i + 1) (by show i + 1 ≤ s.length; omega) (by show s.length - (i + 1) < s.length - i; omega) (cut_of (by simp) ?_)
          simp +decide -dsimp -implicitDefEqProofs [go_sem, altRows_cl]
        · simp +decide -dsimp -implicitDefEqProofs [go_sem, h]
          refine cut_of (by simp) ?_
          simp +decide -dsimp -implicitDefEqProofs [go_sem, altRows_cl]
      rw [hp, Bool.true_and]
      refine awp_of ?_
      simp +decide -dsimp -implicitDefEqProofs [go_sem]
      refine loop_of (S := Nat) (fun i => ⟨tmps 43 [(1, .str s), (33, .imm (L.map altRow)), (34, .int .i64 L.length), (35, .int .i64 i)], []⟩) (fun i => L.length - i) (fun i => i ≤ L.length ∧ (L.take i).any (fun l => mtch l s) = false) 0 (by simp) (cut_of (by simp) ?_) ?_
      · simp +decide -dsimp -implicitDefEqProofs [go_sem, altRows_cl]
      intro i ⟨hi, hi2⟩
      by_cases h : i < L.length
      · have w : IntKind.i64.wrap ((i : Int) + 1) = i + 1 := w64 (by omega) (by omega)
        have cm := matches_c L[i] s (by have := hs1 _ (List.getElem_mem h); omega) hs (print_at hp)
        have ha : altRow L[i] = [.imm (L[i].map elRow)] := rfl
        simp +decide -dsimp -implicitDefEqProofs [go_sem, h, ha]
        refine callE_pure cm (by simp [closed, closedL, elRows_cl]) rfl ?_
        cases hm : mtch L[i] s with
        | true =>
          have e : (L.any fun l => mtch l s) = true := List.any_eq_true.2 ⟨_, List.getElem_mem h, hm⟩
          rw [e]
          simp +decide -dsimp -implicitDefEqProofs [go_sem]
        | false =>
          simp +decide -dsimp -implicitDefEqProofs [go_sem, w]
          refine next_of (i + 1) ⟨h, by rw [List.take_succ_eq_append_getElem h, List.any_append, hi2]; simp [hm]⟩ (by show L.length - (i + 1) < L.length - i; omega) (cut_of (by simp) ?_)
          simp +decide -dsimp -implicitDefEqProofs [go_sem, altRows_cl]
      · have e : i = L.length := by omega
        rw [e, List.take_length] at hi2
        rw [hi2]
        simp +decide -dsimp -implicitDefEqProofs [go_sem, h]
    · have hp' : printB s = false := by simpa using hp
      rw [hp', Bool.false_and]
      refine awp_of ?_
      simp +decide -dsimp -implicitDefEqProofs [go_sem]
      refine loop_of (S := Nat) (fun i => ⟨tmps 43 [(1, .str s), (5, .imm (L.map altRow)), (18, .int .i64 s.length), (19, .int .i64 i)], []⟩) (fun i => s.length - i) (fun i => i ≤ s.length ∧ printB (s.take i) = true) 0 ⟨by simp, rfl⟩ (cut_of (by simp) ?_) ?_
      · simp +decide -dsimp -implicitDefEqProofs [go_sem, altRows_cl]
      intro i ⟨hi, hi2⟩
      by_cases h : i < s.length
      · have w : IntKind.i64.wrap ((i : Int) + 1) = i + 1 := w64 (by omega) (by omega)
        have st := print_step h
        rw [hi2, Bool.true_and] at st
        by_cases hc1 : (s[i].toNat : Int) < 32
        · simp +decide -dsimp -implicitDefEqProofs [go_sem, h, hc1]
        · by_cases hc2 : (126 : Int) < (s[i].toNat : Int)
          · simp +decide -dsimp -implicitDefEqProofs [go_sem, h, hc1, hc2]
          · simp +decide -dsimp -implicitDefEqProofs [go_sem, h, w, hc1, hc2]
            refine next_of (i + 1) ⟨h, by rw [st, decide_eq_true (by omega), decide_eq_true (by omega)]; rfl⟩ (by show s.length - (i + 1) < s.length - i; omega) (cut_of (by simp) ?_)
            simp +decide -dsimp -implicitDefEqProofs [go_sem, altRows_cl]
      · have e : i = s.length := by omega
        rw [e, List.take_length, hp'] at hi2
        cases hi2
end Go.Ab
namespace Go.Ab
open Go Go.Proofs
def c12 : AFn := ⟨(sq [(ox 0 (.mov (.v .nilp)))] (sq [(ox 1 .mkmap), (ox 2 .mkmap), (ox 3 (.build [.nilm, .nilm, (.int .i64 0)] [(0, (1, (.t 1))), (1, (1, (.t 2)))])), (ox 4 (.box 82 (.t 3))), (mv 0 4)] .ret)), 5, [(.tmp 0)]⟩
theorem c12_ok : compileF Tryz.prog [] 12 = some c12 := by kernel_rfl
def c13 : AFn := ⟨(sq [(ox 5 (.box 27 (.t 2))), (ox 6 (.mov (iv 0)))] (sq [(mv 10 0), (ox 11 (.nilchk (.t 10))), (ox 12 (fa 1 11)), (ox 13 (ld 12)), (mv 14 1), (ox 15 (.lookup .str .nilp true (.t 13) (.t 14))), (mv 9 15), (ox 16 (xt 9 0)), (ox 17 (xt 9 1)), (mv 7 16), (mv 8 17)] (.seq (.block 0 (sq [(mv 19 1), (ox 20 (fc 41 [(.t 19)])), (ox 21 (.un .not (.t 20))), (mv 18 21)] (cd 18 (sq [(ox 6 (.mov (iv 300)))] .ret) (sq [(ox 23 (fa 0 5)), (ox 24 (ld 23)), (ox 25 (fc 42 [(.t 24)])), (ox 26 (b1 .neq 25 0)), (mv 27 26), (of 28 (fa 1 5) 27), (of 29 (ld 28) 27), (of 30 (.bin .neq (.t 29) (.v (.str []))) 27), (of 31 (.mov (.t 30)) 27), (ot 32 (fa 1 5) 31), (ot 33 (ld 32) 31), (ot 34 (fc 42 [(.t 33)]) 31), (ot 35 (b1 .neq 34 0) 31), (of 36 (.pick (.t 31) (.t 35) (.v (.bool false))) 27), (ox 37 (.pick (.t 27) (.v (.bool true)) (.t 36))), (mv 22 37)] (cd 22 (sq [(ox 6 (.mov (iv 301)))] .ret) (sq [(mv 39 8), (mv 38 39)] (cd 38 (sq [(ox 6 (.mov (iv 302)))] .ret) (sq [(mv 41 0), (ox 42 (.nilchk (.t 41))), (ox 43 (fa 1 42)), (ox 44 (ld 43)), (ox 45 (.len .mp (.t 44))), (ox 46 (b1 .geq 45 16)), (mv 40 46)] (cd 40 (sq [(ox 6 (.mov (iv 303)))] .ret) .skip))))))))) (.seq (.draw [(mv 47 0), (ox 48 (.nilchk (.t 47))), (ox 49 (fa 1 48)), (ox 50 (ld 49)), (mv 51 1), (ox 52 (.load (some 2) (.t 5))), (ox 53 (fc 43 [(.t 52)])), (ox 54 (.build [.nilf, .nilm, .nils, (.bool false)] [(0, (1, (.t 53))), (3, (1, (.v (.bool true))))])), (ox 55 (.box 89 (.t 54))), (on (.mapset .str (.t 50) (.t 51) (.t 55)))] [0, 1, 3, 7, 0, 0, 32, 96, 224, 511]) (sq [(ox 6 (.mov (iv 0)))] .ret))))), 56, [(.tmp 6)]⟩
theorem c13_ok : compileF Tryz.prog [] 13 = some c13 := by kernel_rfl
def c19 : AFn := ⟨(sq [(ox 4 (.mov (iv 0)))] (.seq (sq [(mv 8 0), (ox 9 (.nilchk (.t 8))), (ox 10 (fa 1 9)), (ox 11 (ld 10)), (mv 12 1), (ox 13 (.lookup .str .nilp true (.t 11) (.t 12))), (mv 7 13), (ox 14 (xt 7 0)), (ox 15 (xt 7 1)), (mv 5 14), (mv 6 15)] (sq [(mv 16 6), (ox 17 (.un .not (.t 16)))] (cd 17 (sq [(ox 4 (.mov (iv 300)))] .ret) .skip))) (sq [(mv 18 0), (ox 19 (.nilchk (.t 18))), (ox 20 (fa 1 19)), (ox 21 (ld 20)), (mv 22 1), (on (.mdel .str (.t 21) (.t 22)))] (sq [(ox 4 (.mov (iv 0)))] .ret)))), 23, [(.tmp 4)]⟩
theorem c19_ok : compileF Tryz.prog [] 19 = some c19 := by kernel_rfl
def c43 : AFn := ⟨(sq [(ox 1 (.box 27 (.t 0))), (ox 2 (.mov (.v .nilf)))] (sq [(ox 3 (.mkfn (.func 83) [] [(.t 1)])), (mv 2 3)] .ret)), 4, [(.tmp 2)]⟩
theorem c43_ok : compileF Tryz.prog [] 43 = some c43 := by kernel_rfl
def c47 : AFn := ⟨(sq [(ox 2 (.mov (.v (.str [])))), (ox 3 (mb false))] (sq [(mv 9 0), (ox 10 (fc 91 [(.t 9)])), (mv 8 10), (ox 11 (xt 8 0)), (ox 12 (xt 8 1)), (mv 4 11), (mv 5 12)] (.seq (sq [(mv 13 4), (ox 14 (.len .sl (.t 13))), (ox 15 (b1 .lss 14 2))] (cd 15 (sq [(ox 2 (.mov (.v (.str [])))), (ox 3 (mb false))] .ret) .skip)) (sq [(mv 17 4), (mv 18 4), (ox 19 (.len .sl (.t 18))), (ox 20 (b1 .sub 19 1)), (ox 21 (.slice .sl 1 (.t 17) none (some (.t 20)))), (ox 22 (fc 92 [(.t 21)])), (mv 16 22), (ox 23 (xt 16 0)), (ox 24 (xt 16 1)), (mv 6 23), (mv 7 24)] (sq [(mv 25 6), (mv 26 7), (ox 27 (b1 .eql 26 0)), (mv 2 25), (mv 3 27)] .ret))))), 28, [(.tmp 2), (.tmp 3)]⟩
theorem c47_ok : compileF Tryz.prog [] 47 = some c47 := by kernel_rfl
def c48 : AFn := ⟨(sq [(ox 3 (.box 39 (.t 1)))] (.seq (sq [(mv 4 0), (ox 5 (.nilchk (.t 4))), (ox 6 (fa 3 5)), (ox 7 (ld 6))] (cd 7 .ret .skip)) (.seq (.draw [(mv 8 0), (ox 9 (.nilchk (.t 8))), (ox 10 (fa 1 9)), (ox 11 (ld 10)), (ox 12 (fa 2 3)), (ox 13 (fa 0 12)), (ox 14 (ld 13)), (ox 15 (fa 1 3)), (ox 16 (ld 15)), (ox 17 (b1 .eql 16 1)), (on (.mapset .str (.t 11) (.t 14) (.t 17)))] [0, 1, 3, 7, 0, 16, 48, 0, 128, 384, 1023]) (.seq (.draw [(mv 18 0), (mv 19 0), (ox 20 (.nilchk (.t 19))), (ox 21 (fa 2 20)), (ox 22 (ld 21)), (ox 23 (.load (some 14) (.t 3))), (ox 24 (.bslice 39 14 false [(.t 23)])), (ox 25 (.append 39 14 224 (.t 22) (.t 24))), (ox 26 (.nilchk (.t 18))), (ox 27 (fa 2 26)), (on (.store none (.t 27) (.t 25)))] [0, 0, 2, 6, 14, 0, 32, 126, 255, 511, 1023]) (sq [(mv 28 0), (ox 29 (.nilchk (.t 28))), (ox 30 (fa 2 29)), (ox 31 (ld 30)), (ox 32 (.len .sl (.t 31))), (ox 33 (b1 .gtr 32 64))] (cd 33 (.ops [(mv 34 0), (mv 35 0), (ox 36 (.nilchk (.t 34))), (ox 37 (fa 2 36)), (on (.store none (.t 37) (.v .nils))), (ox 38 (.nilchk (.t 35))), (ox 39 (fa 3 38)), (on (.store none (.t 39) (.v (.bool true))))]) .skip)))))), 40, []⟩
theorem c48_ok : compileF Tryz.prog [] 48 = some c48 := by kernel_rfl
def c83 : AFn := ⟨(sq [(ox 2 (.box 36 (.t 0))), (ox 3 (mb false))] (.seq (.seq (.draw [(ox 4 (fa 0 1)), (ox 5 (ld 4)), (ox 6 (.load (some 12) (.t 2))), (ox 7 (fc 85 [(.t 6), (.v (.str [83, 85, 66, 83, 89, 83, 84, 69, 77]))])), (ox 8 (fc 84 [(.t 5), (.t 7)])), (ox 9 (.un .not (.t 8)))] [0, 1, 0, 4, 15, 31]) (cd 9 (sq [(ox 3 (mb false))] .ret) .skip)) (sq [(ox 10 (fa 1 1)), (ox 11 (ld 10)), (ox 12 (.bin .eql (.t 11) (.v (.str [])))), (mv 13 12), (of 14 (fa 3 2) 13), (of 15 (ld 14) 13), (of 16 (.mkfn (.func 87) [] [(.t 1)]) 13), (of 17 (fc 86 [(.t 15), (.t 16)]) 13), (ox 18 (.pick (.t 13) (.v (.bool true)) (.t 17))), (mv 3 18)] .ret))), 19, [(.tmp 3)]⟩
theorem c83_ok : compileF Tryz.prog [] 83 = some c83 := by kernel_rfl
def c87 : AFn := ⟨(sq [(ox 3 (mb false))] (sq [(ox 4 (fa 1 1)), (ox 5 (ld 4)), (mv 6 0), (ox 7 (fc 84 [(.t 5), (.t 6)])), (mv 3 7)] .ret)), 8, [(.tmp 3)]⟩
theorem c87_ok : compileF Tryz.prog [] 87 = some c87 := by kernel_rfl
def c92 : AFn := ⟨(sq [(ox 2 (.mov (.v (.str [])))), (ox 3 (.mov (iv 0)))] (.seq (sq [(mv 4 0), (ox 5 (.len .sl (.t 4))), (ox 6 (b1 .eql 5 0)), (mv 7 6), (of 8 (.mov (.t 0)) 7), (of 9 (fc 132 [(.t 8), (.v (.fn (.func 41) [] []))]) 7), (of 10 (.un .not (.t 9)) 7), (ox 11 (.pick (.t 7) (.v (.bool true)) (.t 10)))] (cd 11 (sq [(ox 2 (.mov (.v (.str [])))), (ox 3 (.mov (iv 10)))] .ret) .skip)) (sq [(mv 12 0), (ox 13 (fc 133 [(.t 12), (.v (.str [47]))])), (ox 14 (.bin .add (.v (.str [47])) (.t 13))), (mv 2 14), (ox 3 (.mov (iv 0)))] .ret))), 15, [(.tmp 2), (.tmp 3)]⟩
theorem c92_ok : compileF Tryz.prog [] 92 = some c92 := by kernel_rfl
def c98 : AFn := ⟨(sq [(ox 4 (mb false)), (ox 5 (.mov (iv 0)))] (sq [(mv 11 0), (ox 12 (fc 91 [(.t 11)])), (mv 10 12), (ox 13 (xt 10 0)), (ox 14 (xt 10 1)), (mv 6 13), (mv 7 14)] (sq [(mv 16 1), (ox 17 (fc 91 [(.t 16)])), (mv 15 17), (ox 18 (xt 15 0)), (ox 19 (xt 15 1)), (mv 8 18), (mv 9 19)] (.seq (sq [(mv 20 7), (ox 21 (b1 .neq 20 0)), (mv 22 21), (of 23 (.mov (.t 9)) 22), (of 24 (b1 .neq 23 0) 22), (ox 25 (.pick (.t 22) (.v (.bool true)) (.t 24)))] (cd 25 (sq [(ox 4 (mb false)), (ox 5 (.mov (iv 10)))] .ret) .skip)) (sq [(mv 26 8), (ox 27 (.len .sl (.t 26))), (mv 28 6), (ox 29 (.len .sl (.t 28))), (ox 30 (b2 .gtr 27 29)), (mv 31 30), (ot 32 (.mov (.t 8)) 31), (ot 33 (.mov (.t 6)) 31), (ot 34 (.len .sl (.t 33)) 31), (ot 35 (.slice .sl 1 (.t 32) none (some (.t 34))) 31), (ot 36 (.mov (.t 6)) 31), (ot 37 (fc 137 [(.t 35), (.t 36)]) 31), (ox 38 (.pick (.t 31) (.t 37) (.v (.bool false)))), (mv 4 38), (ox 5 (.mov (iv 0)))] .ret))))), 39, [(.tmp 4), (.tmp 5)]⟩
theorem c98_ok : compileF Tryz.prog [] 98 = some c98 := by kernel_rfl
def c59 : AFn := ⟨(sq [(ox 4 (mb false))] (sq [(mv 8 0), (mv 9 1), (ox 10 (fc 98 [(.t 8), (.t 9)])), (mv 7 10), (ox 11 (xt 7 0)), (ox 12 (xt 7 1)), (mv 5 11), (mv 6 12)] (sq [(mv 13 5), (mv 14 13), (ot 15 (.mov (.t 6)) 14), (ot 16 (b1 .eql 15 0) 14), (ox 17 (.pick (.t 14) (.t 16) (.v (.bool false)))), (mv 4 17)] .ret))), 18, [(.tmp 4)]⟩
theorem c59_ok : compileF Tryz.prog [] 59 = some c59 := by kernel_rfl
def c54 : AFn := ⟨(sq [(ox 4 (.mov (iv 0)))] (sq [(mv 8 0), (mv 9 1), (ox 10 (fc 95 [(.t 8), (.t 9)])), (mv 7 10), (ox 11 (xt 7 0)), (ox 12 (xt 7 1)), (mv 5 11), (mv 6 12)] (sq [(mv 13 5), (mv 4 13)] .ret))), 14, [(.tmp 4)]⟩
theorem c54_ok : compileF Tryz.prog [] 54 = some c54 := by kernel_rfl
end Go.Ab
namespace Go.Ab
open Go Go.Proofs
structure Flt where
  sub : List UInt8
  tag : List UInt8
  deriving DecidableEq
def fltRow (f : Flt) : List AV := [.str f.sub, .str f.tag]
def wantsV (f : Flt) : AV := .fn (.func 83) [] [.iptr (fltRow f)]
def getP (l : List (List UInt8 × List UInt8)) (k : List UInt8) : List UInt8 := match l.find? (fun p => decide (p.1 = k)) with
  | some p => p.2
  | none => []
def subsysT : List UInt8 := [83, 85, 66, 83, 89, 83, 84, 69, 77]
def wantB (f : Flt) (r : Rcd) : Bool := matchB f.sub (getP r.props subsysT) && (decide (f.tag = []) || r.tags.any (matchB f.tag))
theorem wants_c (f : Flt) : ACalls Tryz.prog 43 [.agg (fltRow f)] [] (wantsV f) [] := by
  refine acalls_W1 c43_ok ?_
  unfold c43 fltRow
  simp +decide -dsimp -implicitDefEqProofs [go_sem]
  refine endW_of (tmps 4 [(2, wantsV f)]) [] (Wk.cut1 2 (.fn (.func 83) [] [.ptr 0 0]) (wantsV f) [] (by simp) rfl ?_ ?_ (ConvH_of (by simp) fun o x y hx hy => by simp at hy)) ?_
  · exact .fn _ _ _ _ _ .nil (.cons _ _ _ _ (.fbx 0 0 27 _ _ (by simp) (by simp) rfl (ConvL_closed rfl)) .nil)
  · simp +decide -dsimp -implicitDefEqProofs [go_sem]
  · simp +decide -dsimp -implicitDefEqProofs [go_sem, packR]
theorem tagIs_c (f : Flt) (s : List UInt8) (hl : f.tag.length < 9223372036854775807) (hs : s.length ≤ 1000000) : ACalls Tryz.prog 87 [.str s, .iptr (fltRow f)] [] (.bool (matchB f.tag s)) [] := by
  have c := Match_c f.tag s hl hs
  refine acalls_F c87_ok rfl ?_
  unfold c87 fltRow
  simp +decide -dsimp -implicitDefEqProofs [go_sem]
  refine callE_pure c rfl rfl ?_
  simp +decide -dsimp -implicitDefEqProofs [go_sem]
theorem find_take {α : Type} {q : α → Bool} {l : List α} {i : Nat} (h : i < l.length) (hn : ∀ x ∈ l.take i, q x = false) (hq : q l[i] = true) : l.find? q = some l[i] := by
  have e : l = l.take i ++ l[i] :: l.drop (i + 1) := by rw [← List.drop_eq_getElem_cons h, List.take_append_drop]
  conv => lhs; rw [e]
  rw [List.find?_append, List.find?_eq_none.2 (fun x hx => by rw [hn x hx]; decide), List.find?_cons, hq]; rfl
set_option maxRecDepth 20000 in
theorem recGet_c (r : Rcd) (k : List UInt8) (hl : r.props.length < 1000000) : ACalls Tryz.prog 85 [.agg (rRow r), .str k] [] (.str (getP r.props k)) [] := by
  have hcl := fun k => closedLL_aRows k r.props
  refine acalls_F c85_ok rfl ?_
  unfold c85 rRow
  simp +decide -dsimp -implicitDefEqProofs [go_sem]
  refine loop_of (S := Nat) (fun i => ⟨tmps 21 [(1, .str k), (8, .imm (r.props.map aRow)), (9, .int .i64 r.props.length), (10, .int .i64 i)], []⟩) (fun i => r.props.length - i) (fun i => i ≤ r.props.length ∧ ∀ x ∈ r.props.take i, decide (x.1 = k) = false) 0 (by simp) (cut_of (by simp) ?_) ?_
  · simp +decide -dsimp -implicitDefEqProofs [go_sem, hcl]
  intro i ⟨hi, hi2⟩
  by_cases h : i < r.props.length
  · have w : IntKind.i64.wrap ((i : Int) + 1) = i + 1 := w64 (by omega) (by omega)
    have ha : aRow r.props[i] = [.str r.props[i].1, .str r.props[i].2] := rfl
    by_cases hk : r.props[i].1 = k
    · have e : getP r.props k = r.props[i].2 := by unfold getP; rw [find_take h hi2 (by simp [hk])]
      rw [e]
      simp +decide -dsimp -implicitDefEqProofs [go_sem, h, ha, hk]
    · simp +decide -dsimp -implicitDefEqProofs [go_sem, h, ha, hk, w]
      refine next_of (i + 1) ⟨h, fun x hx => ?_⟩ (by show r.props.length - (i + 1) < r.props.length - i; omega) (cut_of (by simp) ?_)
      · rw [List.take_succ_eq_append_getElem h] at hx
        rcases List.mem_append.1 hx with hx | hx
        · exact hi2 x hx
        · rw [List.mem_singleton.1 hx]; simp [hk]
      · simp +decide -dsimp -implicitDefEqProofs [go_sem, hcl]
  · have e : i = r.props.length := by omega
    rw [e, List.take_length] at hi2
    have e2 : getP r.props k = [] := by unfold getP; rw [List.find?_eq_none.2 (fun x hx => by rw [hi2 x hx]; decide)]
    rw [e2]
    simp +decide -dsimp -implicitDefEqProofs [go_sem, h]
structure Ask (r : Rcd) : Prop where
  props : r.props.length < 1000000
  vals : ∀ p ∈ r.props, p.2.length ≤ 1000000
  tags : r.tags.length < 1000000
  tag : ∀ s ∈ r.tags, s.length ≤ 1000000
theorem getP_len {l : List (List UInt8 × List UInt8)} {k : List UInt8} {B : Nat} (h : ∀ p ∈ l, p.2.length ≤ B) : (getP l k).length ≤ B := by
  unfold getP
  split
  · rename_i p hp; exact h p (List.mem_of_find?_eq_some hp)
  · exact Nat.zero_le _
theorem wantsR_c (f : Flt) (r : Rcd) (h1 : f.sub.length < 9223372036854775807) (h2 : f.tag.length < 9223372036854775807) (hr : Ask r) : ACalls Tryz.prog 83 [.agg (rRow r), .iptr (fltRow f)] [] (.bool (wantB f r)) [] := by
  have cg := recGet_c r subsysT hr.props
  have cm := Match_c f.sub (getP r.props subsysT) h1 (getP_len hr.vals)
  have cc := ContainsFunc_c r.tags 87 [.iptr (fltRow f)] [] (matchB f.tag) (by have := hr.tags; omega) (by simp [closedL, closed, fltRow]) (by simp [selfH, cvH]) (fun x hx => tagIs_c f x h2 (hr.tag x hx))
  have hrc := fun k => rRow_cl k r
  unfold wantB
  refine acalls_F c83_ok rfl ?_
  unfold c83
  unfold fltRow at cc ⊢
  unfold rRow at cg hrc ⊢
  have e0 : subsysT = [83, 85, 66, 83, 89, 83, 84, 69, 77] := rfl
  rw [e0] at cg cm ⊢
  generalize getP r.props [83, 85, 66, 83, 89, 83, 84, 69, 77] = v at cg cm ⊢
  have hs2 := fun k => closedLL_sRows k r.tags
  simp +decide -dsimp -implicitDefEqProofs [go_sem]
  refine callDE_pure cg (by simpa [closedL, closed] using hrc 0) rfl ?_
  simp +decide -dsimp -implicitDefEqProofs [go_sem]
  refine callDE_pure cm rfl rfl ?_
  cases matchB f.sub v with
  | false =>
    simp +decide -dsimp -implicitDefEqProofs [go_sem]
  | true =>
    by_cases ht : f.tag = []
    · rw [decide_eq_true ht]
      simp +decide -dsimp -implicitDefEqProofs [go_sem, ht]
    · rw [decide_eq_false ht]
      simp +decide -dsimp -implicitDefEqProofs [go_sem, ht]
      refine callE_pure cc (by simp [closedL, closed, hs2]) rfl ?_
      simp +decide -dsimp -implicitDefEqProofs [go_sem, ht]
end Go.Ab
namespace Go.Ab
open Go Go.Proofs
set_option maxRecDepth 20000
theorem cloneA_c (l : List (List UInt8 × List UInt8)) (hl : l.length ≤ 100000) : ACalls Tryz.prog 88 [.imm (l.map aRow)] [] (.imm (l.map aRow)) [] := by
  have hcl := fun k => closedLL_aRows k l
  cases l with
  | nil =>
    refine ACalls.emp rfl fun a cp => ?_
    refine acalls_F c88_ok rfl ?_
    unfold c88
    cases a with
    | none => simp +decide -dsimp -implicitDefEqProofs [go_sem]
    | some a => simp +decide -dsimp -implicitDefEqProofs [go_sem]
  | cons x l =>
    simp only [List.length_cons] at hl
    refine acalls_F c88_ok rfl ?_
    unfold c88
    simp +decide -dsimp -implicitDefEqProofs [go_sem, maxLen, aRow]
    exact ⟨fun _ _ _ _ h => by subst h; rfl, by omega, by omega⟩
theorem cloneS_c (l : List (List UInt8)) (hl : l.length ≤ 100000) : ACalls Tryz.prog 89 [.imm (l.map sRow)] [] (.imm (l.map sRow)) [] := by
  have hcl := fun k => closedLL_sRows k l
  cases l with
  | nil =>
    refine ACalls.emp rfl fun a cp => ?_
    refine acalls_F c89_ok rfl ?_
    unfold c89
    cases a with
    | none => simp +decide -dsimp -implicitDefEqProofs [go_sem]
    | some a => simp +decide -dsimp -implicitDefEqProofs [go_sem]
  | cons x l =>
    simp only [List.length_cons] at hl
    refine acalls_F c89_ok rfl ?_
    unfold c89
    simp +decide -dsimp -implicitDefEqProofs [go_sem, maxLen, sRow]
    omega
structure Cpy (r : Rcd) : Prop where
  a : r.props.length ≤ 100000
  b : r.tags.length ≤ 100000
  c : r.links.length ≤ 100000
  d : r.run.length ≤ 100000
  e : r.load.length ≤ 100000
set_option maxHeartbeats 4000000 in
theorem ownRecord_c (r : Rcd) (h : Cpy r) : ACalls Tryz.prog 45 [.agg (rRow r)] [] (.agg (rRow r)) [] := by
  have c1 := cloneA_c r.props h.a
  have c2 := cloneS_c r.tags h.b
  have c3 := cloneS_c r.links h.c
  have c4 := cloneS_c r.run h.d
  have c5 := cloneS_c r.load h.e
  have k1 := fun k => closedLL_aRows k r.props
  have k2 := fun k => closedLL_sRows k r.tags
  have k3 := fun k => closedLL_sRows k r.links
  have k4 := fun k => closedLL_sRows k r.run
  have k5 := fun k => closedLL_sRows k r.load
  refine acalls_F c45_ok rfl ?_
  unfold c45 rRow
  generalize r.props.map aRow = A at *
  generalize r.tags.map sRow = B at *
  generalize r.links.map sRow = C at *
  generalize r.run.map sRow = D at *
  generalize r.load.map sRow = E at *
  simp +decide -dsimp -implicitDefEqProofs [go_sem]
  refine callDE_pure c1 (by simp [closedL, closed, k1]) (by simp [closed, k1]) ?_
  simp +decide -dsimp -implicitDefEqProofs [go_sem]
  refine callDE_pure c2 (by simp [closedL, closed, k2]) (by simp [closed, k2]) ?_
  simp +decide -dsimp -implicitDefEqProofs [go_sem]
  refine callDE_pure c3 (by simp [closedL, closed, k3]) (by simp [closed, k3]) ?_
  simp +decide -dsimp -implicitDefEqProofs [go_sem]
  refine callDE_pure c4 (by simp [closedL, closed, k4]) (by simp [closed, k4]) ?_
  simp +decide -dsimp -implicitDefEqProofs [go_sem]
  refine callDE_pure c5 (by simp [closedL, closed, k5]) (by simp [closed, k5]) ?_
  simp +decide -dsimp -implicitDefEqProofs [go_sem, k1, k2, k3, k4, k5]
theorem join_lib : ∀ l : List (List UInt8), l ≠ [] → 47 :: Lib.join l [47] = joinP l
  | [], h => absurd rfl h
  | [x], _ => by simp [Lib.join, joinP, List.intercalate]
  | x :: y :: r, _ => by
    have ih := join_lib (y :: r) (by simp)
    show _ = 47 :: (x ++ joinP (y :: r))
    rw [← ih]
    simp [Lib.join, List.intercalate]
theorem joinP_length (l : List (List UInt8)) {B : Nat} (h : ∀ x ∈ l, x.length ≤ B) : (joinP l).length ≤ l.length * (B + 1) := by
  induction l with
  | nil => simp [joinP]
  | cons x l ih =>
    have h1 := h x (by simp)
    have h2 := ih fun y hy => h y (by simp [hy])
    simp only [joinP, List.length_cons, List.length_append, Nat.add_mul, Nat.one_mul]
    omega
theorem joinS_c (l : List (List UInt8)) (hl : l ≠ []) (hn : l.length ≤ 1000000) (hB : ∀ x ∈ l, x.length ≤ 1000000) : ACalls Tryz.prog 133 [.imm (l.map sRow), .str [47]] [] (.str (Lib.join l [47])) [] := by
  refine ⟨by kernel_rfl, fun c vs hH hr hv => ?_⟩
  simp only [Vals, Val, List.length_map] at hv
  obtain ⟨v, vs', rfl, hv, v2, vs2, rfl, rfl, rfl⟩ := hv
  rcases hv with ⟨b, off, cap, sz, rfl, hF, hc, hR⟩ | ⟨h0, _⟩
  · have hsz : sz = 1 := by
      cases l with
      | nil => exact absurd rfl hl
      | cons x l => simp only [List.map_cons, RowsAt] at hR; rw [← hR.1]; rfl
    subst hsz
    have e1 : (l.map fun s : List UInt8 => (⟨s.toArray⟩ : ByteArray)).map (·.data.toList) = l := by
      rw [List.map_map]
      exact (List.map_congr_left fun x _ => rfl).trans (List.map_id l)
    have hj : (Lib.join l [47]).length ≤ 140737488355328 := by
      have h1 := congrArg List.length (join_lib l hl)
      have h2 := joinP_length l hB
      have h3 : l.length * (1000000 + 1) ≤ 1000000 * (1000000 + 1) := Nat.mul_le_mul_right _ hn
      simp only [List.length_cons] at h1
      omega
    have h := Tryz.strings_Join b off cap (l.map fun s : List UInt8 => (⟨s.toArray⟩ : ByteArray)) ⟨#[47]⟩ c.w (fun j x hx => by
      rw [List.getElem?_map] at hx
      cases hy : l[j]? with
      | none => rw [hy] at hx; cases hx
      | some s =>
        rw [hy] at hx
        cases hx
        have := (RowsAt_iff.1 hR j (sRow s) (by rw [List.getElem?_map, hy]; rfl)).2
        simp only [sRow, Cells, Val, and_true, Nat.mul_one] at this
        obtain ⟨v, h1, _, rfl⟩ := this
        exact h1) (hr.lt b hF) (by rw [List.length_map]; omega) (by rw [List.length_map]; exact hc) (by rw [e1]; exact hj)
    rw [List.length_map, e1] at h
    refine Calls.mono h fun e w' hq => ?_
    obtain ⟨rfl, h2⟩ := hq
    obtain ⟨g1, g2⟩ := rel_grow hr (F' := c.F) (w' := w') (fun _ h => h) (fun _ h => .inl h) (fun b hb => h2.block b hb) h2.size h2.os h2.tape h2.output
    exact ⟨_, ⟨c.F, c.μ, c.H, w'⟩, rfl, rfl, hH, g1, g2, by simp only [Val]⟩
  · exact absurd (List.map_eq_nil_iff.1 h0) hl
theorem nJoin_c (l : List (List UInt8)) (hl : l ≠ []) (hn : l.length ≤ 1000000) (hv : ∀ x ∈ l, validB x = true) : ACalls Tryz.prog 92 [.imm (l.map sRow)] [] (.tup [.str (joinP l), .int .i64 0]) [] := by
  have hs := fun k => closedLL_sRows k l
  have c1 := joinS_c l hl hn (fun x hx => Nat.le_trans (valid_small (hv x hx)) (by decide))
  have hall : l.all validB = true := List.all_eq_true.2 hv
  have c2 := all_c l 41 [] [] validB (by omega) (fun _ _ => rfl) (by simp [selfH, cvH]) (fun _ => by simp [cvH]) (fun cs h => ⟨⟨rfl, cvT_self h⟩, trivial⟩) (fun x _ => (nValid_c x).pure _ rfl rfl)
  rw [hall] at c2
  have hpos : ¬ (l.length : Int) = 0 := by have := List.length_pos_iff.2 hl; omega
  have hjl := congrArg List.length (join_lib l hl)
  have h2 := joinP_length l fun x hx => valid_small (hv x hx)
  have h3 : l.length * (32 + 1) ≤ 1000000 * (32 + 1) := Nat.mul_le_mul_right _ hn
  simp only [List.length_cons] at hjl
  rw [← join_lib l hl]
  refine acalls_F c92_ok rfl ?_
  unfold c92
  simp +decide -dsimp -implicitDefEqProofs [go_sem, hl]
  refine callE_of c2 ?_
  simp +decide -dsimp -implicitDefEqProofs [go_sem, hl]
  refine callE_pure c1 (by simp [closedL, closed, hs]) rfl ?_
  simp +decide -dsimp -implicitDefEqProofs [go_sem]
  omega
def aboveP (p : List UInt8) : List UInt8 := joinP (compsP p).dropLast
theorem above_c (p : List UInt8) (hp : placeB p = true) : ACalls Tryz.prog 47 [.str p] [] (.tup [.str (if (compsP p).length < 2 then [] else aboveP p), .bool (decide (2 ≤ (compsP p).length))]) [] := by
  obtain ⟨h1, h2⟩ := comps_some hp
  have hl := path_small hp
  have c1 := nSplit_c p (by omega)
  rw [h1] at c1
  simp only at c1
  have hv : ∀ x ∈ compsP p, validB x = true := by
    unfold pathL at h1
    split at h1
    · cases h1
    · split at h1
      · rename_i hq
        rw [← Option.some.inj h1]
        exact List.all_eq_true.1 hq.2
      · cases h1
  generalize hC : compsP p = C at *
  have hs := fun k => closedLL_sRows k C
  unfold aboveP
  rw [hC]
  refine acalls_F c47_ok rfl ?_
  unfold c47
  simp +decide -dsimp -implicitDefEqProofs [go_sem]
  refine callE_pure c1 rfl (by simp [closed, closedL, hs]) ?_
  by_cases h : C.length < 2
  · have h' : (C.length : Int) < 2 := by omega
    have h3 : ¬ 2 ≤ C.length := by omega
    simp +decide -dsimp -implicitDefEqProofs [go_sem, h, h', h3]
  · have h' : ¬ (C.length : Int) < 2 := by omega
    have h3 : 2 ≤ C.length := by omega
    have hd : C.dropLast ≠ [] := fun e => by have := congrArg List.length e; rw [List.length_dropLast] at this; simp at this; omega
    have c2 := nJoin_c C.dropLast hd (by rw [List.length_dropLast]; omega) (fun x hx => hv x (List.dropLast_subset _ hx))
    have hs2 := fun k => closedLL_sRows k C.dropLast
    have w1 : IntKind.i64.wrap ((C.length : Int) - 1) = C.length - 1 := w64 (by omega) (by omega)
    have e1 : ((C.length : Int) - 1).toNat = C.length - 1 := by omega
    have e2 : (C.map sRow).take (C.length - 1) = C.dropLast.map sRow := by rw [List.map_dropLast, List.dropLast_eq_take, List.length_map]
    have hr1 : ∀ r ∈ C.map sRow, r.length = 1 := fun r hr => by obtain ⟨x, _, rfl⟩ := List.mem_map.1 hr; rfl
    simp +decide -dsimp -implicitDefEqProofs [go_sem, h', w1, e1, e2]
    refine ⟨by omega, ?_⟩
    rw [← List.map_dropLast]
    refine callE_pure c2 (by simp only [closedL, closed, hs2, Bool.and_true]) rfl ?_
    simp +decide -dsimp -implicitDefEqProofs [go_sem, h, h3]
end Go.Ab
