/- A layer of abstract values over the model, and what is proved with it: part W1. -/
import Derived.Test.YtgpikicifpjffaaDoorA7
import Derived.Test.YtgpikicifpjffaaDoorC1
namespace Go.Ab
open Go Go.Proofs
def fold (v n : Int) : Int := if n ≤ 1 then 0 else if v.tmod n < 0 then v.tmod n + n else v.tmod n

theorem tmod_bd (v n : Int) (h : 1 < n) : -n < v.tmod n ∧ v.tmod n < n := by
  rw [tmod_eq_if]
  have h1 := Int.emod_nonneg v (b := n) (by omega)
  have h2 := Int.emod_lt_of_pos v (b := n) (by omega)
  have h3 := Int.emod_nonneg (-v) (b := n) (by omega)
  have h4 := Int.emod_lt_of_pos (-v) (b := n) (by omega)
  split <;> omega

theorem Fold_c (v n : Int) (hn : n ≤ 9223372036854775807) : ACalls Tryd.prog 18 [.int .i64 v, .int .i64 n] [] (.int .i64 (fold v n)) [] := by
  refine acalls_F c18_ok rfl ?_
  unfold c18
  simp only [fold]
  by_cases h1 : n ≤ 1
  · simp -dsimp -implicitDefEqProofs [go_sem, h1]
  have hb := tmod_bd v n (by omega)
  by_cases h2 : v.tmod n < 0
  · simp -dsimp -implicitDefEqProofs [go_sem, h1, h2, w64 (n := v.tmod n + n) (by omega) (by omega)]; omega
  · simp -dsimp -implicitDefEqProofs [go_sem, h1, h2]; omega

/-- The tape: its numbers and its place. -/
def tapeO (l : List Int) (at_ : Nat) : AObj := .box [.imm (l.map fun v => [.int .i64 v]), .int .i64 at_]
def tapeV (l : List Int) (at_ : Nat) : Int := if h : at_ < l.length then l[at_] else ((at_ : Int) * 7).tmod 11

set_option maxRecDepth 20000 in
theorem Next_c (l : List Int) (k : Nat) (n : Int) (hk : k < 1000000000) (hn : n ≤ 9223372036854775807) :
    ACalls Tryd.prog 19 [.ptr 0 0, .int .i64 n] [tapeO l k] (.int .i64 (fold (tapeV l k) n)) [tapeO l (k + 1)] := by
  refine acalls_F c19_ok rfl ?_
  unfold c19 tapeO tapeV
  have w1 : IntKind.i64.wrap (↑k * 7) = ↑k * 7 := w64 (by omega) (by omega)
  have w2 : IntKind.i64.wrap (↑k + 1) = ↑k + 1 := w64 (by omega) (by omega)
  by_cases h : k < l.length
  · simp +decide -dsimp -implicitDefEqProofs [go_sem, h, w1, w2]
    refine callE_pure (Fold_c _ _ hn) (by simp [closedL, closed]) rfl ?_
    simp +decide -dsimp -implicitDefEqProofs [go_sem, closedLL_map]
  · simp +decide -dsimp -implicitDefEqProofs [go_sem, h, w1, w2]
    refine callE_pure (Fold_c _ _ hn) (by simp [closedL, closed]) rfl ?_
    simp +decide -dsimp -implicitDefEqProofs [go_sem, closedLL_map]
end Go.Ab
namespace Go.Ab
open Go Go.Proofs
/-- Texts as a slice. -/
def strsV (l : List (List UInt8)) : AV := .imm (l.map fun s => [.str s])

set_option maxRecDepth 20000 in
theorem In_c (l : List (List UInt8)) (x : List UInt8) (hl : l.length < 1000000000) : ACalls Tryd.prog 44 [strsV l, .str x] [] (.bool (decide (x ∈ l))) [] := by
  refine acalls_F c44_ok rfl ?_
  unfold c44 strsV
  simp +decide -dsimp -implicitDefEqProofs [go_sem]
  refine loop_of (S := Nat) (fun i => ⟨tmps 18 [(0, .imm (l.map fun s => [.str s])), (1, .str x), (5, .int .i64 i)], []⟩) (fun i => l.length - i) (fun i => i ≤ l.length ∧ x ∉ l.take i) 0 (by simp) (cut_of (by simp) ?_) ?_
  · simp +decide -dsimp -implicitDefEqProofs [go_sem, closedLL_map]
  intro i hi
  by_cases h : i < l.length
  · have w : IntKind.i64.wrap ((i : Int) + 1) = i + 1 := w64 (by omega) (by omega)
    by_cases hx : l[i] = x
    · simp +decide -dsimp -implicitDefEqProofs [go_sem, h, hx]
      exact hx ▸ List.getElem_mem h
    · simp +decide -dsimp -implicitDefEqProofs [go_sem, h, hx, w]
      refine next_of (i + 1) ⟨by omega, take_succ_not h hx hi.2⟩ (by omega) (cut_of (by simp) ?_)
      simp +decide -dsimp -implicitDefEqProofs [go_sem, closedLL_map]
  · simp +decide -dsimp -implicitDefEqProofs [go_sem, h]
    have e : i = l.length := by omega
    have := hi.2; rwa [e, List.take_length] at this
end Go.Ab
namespace Go.Ab
open Go Go.Proofs
structure Ses where
  id : Int
  user : List UInt8
  seat : List UInt8
  act : Bool
  deriving DecidableEq
def sesR (x : Ses) : List AV := [.int .i64 x.id, .str x.user, .str x.seat, .bool x.act]
@[go_sem] theorem sesR_len (x : Ses) : (sesR x).length = 4 := rfl
@[go_sem] theorem sesR_take (x : Ses) : (sesR x).take 4 = sesR x := rfl
@[go_sem] theorem sesR_closed (k : Nat) (x : Ses) : closedL k (sesR x) = true := by simp [sesR, closedL, closed]
@[go_sem] theorem sesR_ren (is : List Nat) (x : Ses) : renL is (sesR x) = sesR x := by simp [sesR, renL, ren]
@[go_sem] theorem sesR_renLL (is : List Nat) (l : List Ses) : renLL is (l.map sesR) = l.map sesR := by
  induction l with
  | nil => rfl
  | cons x r ih => simp [renLL, ih, sesR_ren]
@[go_sem] theorem sesR_closedLL (k : Nat) (l : List Ses) : closedLL k (l.map sesR) = true := closedLL_map fun x _ => sesR_closed k x
def sesL (l : List Ses) : AV := .imm (l.map sesR)
theorem filter_take {l : List Ses} {p : Ses → Bool} {i : Nat} (h : i < l.length) : (l.take (i + 1)).filter p = (l.take i).filter p ++ (if p l[i] then [l[i]] else []) := by
  rw [List.take_succ_eq_append_getElem h, List.filter_append]; congr 1
  by_cases hp : p l[i] <;> simp [hp]

set_option maxRecDepth 20000 in
theorem filter_c (l : List Ses) (p : Ses → Bool) (f : Nat) (v : AV) (hl : l.length < 1000000000)
    (ho : ren [0] v = v) (hc : ∀ m, closed m v = true) (hf : ∀ x : Ses, ACalls Tryd.prog f [.agg (sesR x), .ptr 0 0] [.box [v]] (.bool (p x)) [.box [v]]) :
    ACalls Tryd.prog 36 [sesL l, .fn (.func f) [] [.ptr 0 0]] [.box [v]] (sesL (l.filter p)) [.box [v]] := by
  refine acalls_F c36_ok rfl ?_
  unfold c36 sesL
  simp +decide -dsimp -implicitDefEqProofs [go_sem]
  refine loop_of (S := Nat) (fun i => ⟨tmps 23 [(0, .imm (l.map sesR)), (1, .fn (.func f) [] [.ptr 0 0]), (5, .own 1 ((l.take i).filter p).length), (8, .imm (l.map sesR)), (9, .int .i64 l.length), (10, .int .i64 i)], [.box [v], .reg 33 4 (((l.take i).filter p).map sesR)]⟩) (fun i => l.length - i) (fun i => i ≤ l.length) 0 (by simp) ?_ ?_
  · refine .trans (.nilT 5 33 4 rfl (by simp)) (cut_of (by simp) ?_)
    simp +decide -dsimp -implicitDefEqProofs [go_sem, hc]
  intro i hi
  by_cases h : i < l.length
  · have w : IntKind.i64.wrap ((i : Int) + 1) = i + 1 := w64 (by omega) (by omega)
    have hn : ((l.take i).filter p).length ≤ l.length := Nat.le_trans (List.length_filter_le _ _) (by simp; omega)
    simp +decide -dsimp -implicitDefEqProofs [go_sem, h]
    refine callE_frame [0] (hf l[i]) rfl rfl (by simp) (by simp [go_sem]) (by simp [go_sem, ho]) ?_
    by_cases hp : p l[i]
    · simp +decide -dsimp -implicitDefEqProofs [go_sem, hp, ho, renO, renL, updAt, ren, w, maxLen]
      refine ⟨by omega, ?_⟩
      refine next_of (i + 1) (by omega) (by omega) (cut_of (by simp) ?_)
      simp +decide -dsimp -implicitDefEqProofs [go_sem, hc, filter_take h, hp]
    · simp +decide -dsimp -implicitDefEqProofs [go_sem, hp, ho, renO, renL, updAt, ren, w]
      refine next_of (i + 1) (by omega) (by omega) (cut_of (by simp) ?_)
      simp +decide -dsimp -implicitDefEqProofs [go_sem, hc, filter_take h, hp]
  · simp +decide -dsimp -implicitDefEqProofs [go_sem, hc, h]
    have e : i = l.length := by omega
    simp [e]
end Go.Ab
namespace Go.Ab
open Go Go.Proofs
theorem fits_of {b k : Nat} (h : k ≤ 1000000000) (hb : b ≤ 100) : fits b k := by
  refine ⟨by simp [maxLen]; omega, ?_⟩
  have := Nat.mul_le_mul h hb
  omega
set_option maxRecDepth 20000 in
theorem Clone_c (l : List Ses) (hl : l.length < 1000000000) : ACalls Tryd.prog 43 [sesL l] [] (.own 0 l.length) [.reg 33 4 (l.map sesR)] := by
  by_cases h0 : l = []
  · subst h0
    refine ACalls.emp (by kernel_rfl) fun a cp => ?_
    refine acalls_N c43_ok rfl ?_
    unfold c43
    cases a with
    | none => simp +decide -dsimp -implicitDefEqProofs [go_sem]
    | some a => simp +decide -dsimp -implicitDefEqProofs [go_sem]
  · refine acalls_N c43_ok rfl ?_
    unfold c43 sesL
    simp +decide -dsimp -implicitDefEqProofs [go_sem, h0]
    simp only [maxLen]; omega
end Go.Ab
namespace Go.Ab
open Go Go.Proofs

def idxI (o : Option Nat) : Int := match o with | some i => i | none => -1
@[simp, go_sem] theorem idxI_some (i : Nat) : idxI (some i) = i := rfl
@[simp, go_sem] theorem idxI_none : idxI none = -1 := rfl

theorem of1_c (x : Ses) (s : List UInt8) : ACalls Tryd.prog 50 [.agg (sesR x), .ptr 0 0] [.box [.str s]] (.bool (x.seat == s)) [.box [.str s]] := by
  refine acalls_F c50_ok rfl ?_
  unfold c50 sesR
  simp +decide -dsimp -implicitDefEqProofs [go_sem]
theorem find1_c (x : Ses) (i : Int) : ACalls Tryd.prog 59 [.agg (sesR x), .ptr 0 0] [.box [.int .i64 i]] (.bool (x.id == i)) [.box [.int .i64 i]] := by
  refine acalls_F c59_ok rfl ?_
  unfold c59 sesR
  simp +decide -dsimp -implicitDefEqProofs [go_sem]
theorem Close1_c (x : Ses) (i : Int) : ACalls Tryd.prog 46 [.agg (sesR x), .ptr 0 0] [.box [.int .i64 i]] (.bool (x.id != i)) [.box [.int .i64 i]] := by
  refine acalls_F c46_ok rfl ?_
  unfold c46 sesR
  simp +decide -dsimp -implicitDefEqProofs [go_sem]
theorem active1_c (x : Ses) : ACalls Tryd.prog 52 [.agg (sesR x)] [] (.bool x.act) [] := by
  refine acalls_F c52_ok rfl ?_
  unfold c52 sesR
  simp +decide -dsimp -implicitDefEqProofs [go_sem]
theorem Check1_c (x : Ses) : ACalls Tryd.prog 39 [.agg (sesR x)] [] (.bool x.act) [] := by
  refine acalls_F c39_ok rfl ?_
  unfold c39 sesR
  simp +decide -dsimp -implicitDefEqProofs [go_sem]

/-- Sessions as a value. -/
def ssV (n : Int) (l : List Ses) : AV := .agg [.int .i64 n, sesL l]
def ofS (l : List Ses) (s : List UInt8) : List Ses := l.filter fun x => x.seat == s

theorem of_c (n : Int) (l : List Ses) (s : List UInt8) (hl : l.length < 1000000000) : ACalls Tryd.prog 33 [ssV n l, .str s] [] (sesL (ofS l s)) [] := by
  refine acalls_F c33_ok rfl ?_
  unfold c33 ssV sesL
  simp +decide -dsimp -implicitDefEqProofs [go_sem]
  refine callE_frame [1] (filter_c l _ 50 (.str s) hl rfl (fun _ => rfl) fun x => of1_c x s) rfl rfl (by simp) (by simp [go_sem, sesL]) (by simp [go_sem]) ?_
  simp +decide -dsimp -implicitDefEqProofs [go_sem, sesL, ofS]

set_option maxRecDepth 20000 in
theorem IndexFunc_c (l : List Ses) (p : Ses → Bool) (f : Nat) (hl : l.length < 1000000000) (hf : ∀ x : Ses, ACalls Tryd.prog f [.agg (sesR x)] [] (.bool (p x)) []) :
    ACalls Tryd.prog 51 [sesL l, .fn (.func f) [] []] [] (.int .i64 (idxI (l.findIdx? p))) [] := by
  refine acalls_F c51_ok rfl ?_
  unfold c51 sesL
  simp +decide -dsimp -implicitDefEqProofs [go_sem]
  refine loop_of (S := Nat) (fun i => ⟨tmps 19 [(0, .imm (l.map sesR)), (1, .fn (.func f) [] []), (6, .imm (l.map sesR)), (7, .int .i64 l.length), (8, .int .i64 i)], []⟩) (fun i => l.length - i) (fun i => i ≤ l.length ∧ ∀ x ∈ l.take i, p x = false) 0 (by simp) (cut_of (by simp) ?_) ?_
  · simp +decide -dsimp -implicitDefEqProofs [go_sem]
  intro i hi
  by_cases h : i < l.length
  · have w : IntKind.i64.wrap ((i : Int) + 1) = i + 1 := w64 (by omega) (by omega)
    simp +decide -dsimp -implicitDefEqProofs [go_sem, h]
    refine callE_pure (hf l[i]) (by simp [go_sem, closedL, closed]) rfl ?_
    by_cases hp : p l[i]
    · simp +decide -dsimp -implicitDefEqProofs [go_sem, hp]
      have e : l.findIdx? p = some i := by
        rw [List.findIdx?_eq_some_iff_getElem]
        refine ⟨h, hp, fun j hj => ?_⟩
        have := hi.2 l[j] (by rw [List.mem_take_iff_getElem]; exact ⟨j, by omega, rfl⟩)
        simp [this]
      rw [e]; rfl
    · simp +decide -dsimp -implicitDefEqProofs [go_sem, hp, w]
      refine next_of (i + 1) ⟨by omega, fun x hx => ?_⟩ (by omega) (cut_of (by simp) ?_)
      · rw [List.take_succ_eq_append_getElem h] at hx
        rcases List.mem_append.1 hx with hx | hx
        · exact hi.2 x hx
        · simp at hx; subst hx; simpa using hp
      simp +decide -dsimp -implicitDefEqProofs [go_sem]
  · simp +decide -dsimp -implicitDefEqProofs [go_sem, h]
    have e : l.findIdx? p = none := by
      rw [List.findIdx?_eq_none_iff]
      intro x hx
      refine hi.2 x ?_
      rwa [show i = l.length by omega, List.take_length]
    rw [e]; rfl

theorem active_c (l : List Ses) (hl : l.length < 1000000000) : ACalls Tryd.prog 34 [sesL l] [] (.int .i64 (idxI (l.findIdx? (·.act)))) [] := by
  refine acalls_F c34_ok rfl ?_
  unfold c34
  simp +decide -dsimp -implicitDefEqProofs [go_sem]
  refine callE_pure (IndexFunc_c l _ 52 hl active1_c) (by simp [go_sem, closedL, closed, sesL]) rfl ?_
  simp +decide -dsimp -implicitDefEqProofs [go_sem]

theorem User_c (n : Int) (l : List Ses) (s : List UInt8) (hl : l.length < 1000000000) : ACalls Tryd.prog 27 [ssV n l, .str s] [] (.str (match (ofS l s).find? (·.act) with | some x => x.user | none => [])) [] := by
  have hn : (ofS l s).length < 1000000000 := Nat.lt_of_le_of_lt (List.length_filter_le _ _) hl
  refine acalls_F c27_ok rfl ?_
  unfold c27 ssV
  simp +decide -dsimp -implicitDefEqProofs [go_sem]
  refine callE_pure (of_c n l s hl) (by simp [go_sem, closedL, closed, sesL]) (by simp [go_sem, sesL]) ?_
  simp +decide -dsimp -implicitDefEqProofs [go_sem]
  refine callE_pure (active_c _ hn) (by simp [go_sem, closedL, closed, sesL]) rfl ?_
  cases e : (ofS l s).findIdx? (·.act) with
  | none =>
    have e2 : (ofS l s).find? (·.act) = none := by rw [List.find?_eq_none]; rw [List.findIdx?_eq_none_iff] at e; intro x hx; simp [e x hx]
    simp +decide -dsimp -implicitDefEqProofs [go_sem, e2]
  | some i =>
    rw [List.findIdx?_eq_some_iff_getElem] at e
    obtain ⟨h, h1, h2⟩ := e
    have e2 : (ofS l s).find? (·.act) = some (ofS l s)[i] := by
      rw [List.find?_eq_some_iff_getElem]; exact ⟨h1, i, h, rfl, fun j hj => by simpa using h2 j hj⟩
    have h0 : ¬ ((i : Int) < 0) := by omega
    simp +decide -dsimp -implicitDefEqProofs [go_sem, e2, h0, sesL, h, sesR]

set_option maxRecDepth 20000 in
theorem Index_c (l : List (List UInt8)) (s : List UInt8) (hl : l.length < 1000000000) :
    ACalls Tryd.prog 53 [strsV l, .str s] [] (.int .i64 (idxI (l.findIdx? (s == ·)))) [] := by
  refine acalls_F c53_ok rfl ?_
  unfold c53 strsV
  simp +decide -dsimp -implicitDefEqProofs [go_sem]
  refine loop_of (S := Nat) (fun i => ⟨tmps 19 [(0, .imm (l.map fun s => [.str s])), (1, .str s), (6, .imm (l.map fun s => [.str s])), (7, .int .i64 l.length), (8, .int .i64 i)], []⟩) (fun i => l.length - i) (fun i => i ≤ l.length ∧ ∀ x ∈ l.take i, (s == x) = false) 0 (by simp) (cut_of (by simp) ?_) ?_
  · simp +decide -dsimp -implicitDefEqProofs [go_sem, closedLL_map]
  intro i hi
  by_cases h : i < l.length
  · have w : IntKind.i64.wrap ((i : Int) + 1) = i + 1 := w64 (by omega) (by omega)
    by_cases hp : s = l[i]
    · have e : l.findIdx? (s == ·) = some i := by
        rw [List.findIdx?_eq_some_iff_getElem]
        refine ⟨h, by simpa using hp, fun j hj => ?_⟩
        have := hi.2 l[j] (by rw [List.mem_take_iff_getElem]; exact ⟨j, by omega, rfl⟩)
        simp [this]
      rw [e]
      simp +decide -dsimp -implicitDefEqProofs [go_sem, h, ← hp]
    · simp +decide -dsimp -implicitDefEqProofs [go_sem, h, hp, w]
      refine next_of (i + 1) ⟨by omega, fun x hx => ?_⟩ (by omega) (cut_of (by simp) ?_)
      · rw [List.take_succ_eq_append_getElem h] at hx
        rcases List.mem_append.1 hx with hx | hx
        · exact hi.2 x hx
        · simp at hx; subst hx; simpa using hp
      simp +decide -dsimp -implicitDefEqProofs [go_sem, closedLL_map]
  · simp +decide -dsimp -implicitDefEqProofs [go_sem, h]
    have e : l.findIdx? (s == ·) = none := by
      rw [List.findIdx?_eq_none_iff]
      intro x hx
      refine hi.2 x ?_
      rwa [show i = l.length by omega, List.take_length]
    rw [e]; rfl

theorem strsV_closed (k : Nat) (l : List (List UInt8)) : closed k (strsV l) = true := by simp [strsV, closed, closedL, closedLL_map]
theorem strs_ren (is : List Nat) (l : List (List UInt8)) : renLL is (l.map fun s => [AV.str s]) = l.map fun s => [AV.str s] := by
  induction l with
  | nil => rfl
  | cons x r ih => simp [renLL, ih, renL, ren]
theorem strsV_ren (is : List Nat) (l : List (List UInt8)) : ren is (strsV l) = strsV l := by simp [strsV, ren, strs_ren]

theorem Contains_c (l : List (List UInt8)) (s : List UInt8) (hl : l.length < 1000000000) : ACalls Tryd.prog 38 [strsV l, .str s] [] (.bool (decide (s ∈ l))) [] := by
  refine acalls_F c38_ok rfl ?_
  unfold c38
  simp +decide -dsimp -implicitDefEqProofs [go_sem]
  refine callE_pure (Index_c l s hl) (by simp [go_sem, closedL, strsV_closed]) rfl ?_
  cases e : l.findIdx? (s == ·) with
  | none =>
    rw [List.findIdx?_eq_none_iff] at e
    have : s ∉ l := fun h => by simpa using e s h
    simp +decide -dsimp -implicitDefEqProofs [go_sem, this]
  | some i =>
    rw [List.findIdx?_eq_some_iff_getElem] at e
    obtain ⟨h, h1, _⟩ := e
    have : s ∈ l := by rw [show s = l[i] by simpa using h1]; exact List.getElem_mem h
    simp +decide -dsimp -implicitDefEqProofs [go_sem, this]

theorem Prune1_c (x : Ses) (seats : List (List UInt8)) (hs : seats.length < 1000000000) : ACalls Tryd.prog 37 [.agg (sesR x), .ptr 0 0] [.box [strsV seats]] (.bool (decide (x.seat ∈ seats))) [.box [strsV seats]] := by
  refine acalls_F c37_ok rfl ?_
  unfold c37 sesR
  simp +decide -dsimp -implicitDefEqProofs [go_sem]
  refine callE_pure (Contains_c seats x.seat hs) (by simp [go_sem, closedL, strsV_closed]) rfl ?_
  simp +decide -dsimp -implicitDefEqProofs [go_sem, strsV_closed]

theorem Prune_c (n : Int) (l : List Ses) (seats : List (List UInt8)) (hl : l.length < 1000000000) (hs : seats.length < 1000000000) :
    ACalls Tryd.prog 16 [ssV n l, strsV seats] [] (ssV n (l.filter fun x => decide (x.seat ∈ seats))) [] := by
  refine acalls_F c16_ok rfl ?_
  unfold c16 ssV sesL
  simp +decide -dsimp -implicitDefEqProofs [go_sem]
  refine ⟨rfl, ?_⟩
  change callE _ _ _ [.box [.int .i64 n, .imm (l.map sesR)], .box [strsV seats], .box [.int .i64 0, .nils]] _ _
  refine callE_frame [1] (filter_c l _ 37 (strsV seats) hl (strsV_ren _ _) (fun _ => strsV_closed _ _) fun x => Prune1_c x seats hs) rfl rfl (by simp) (by simp [go_sem, sesL]) (by simp [go_sem, strsV_ren]) ?_
  simp +decide -dsimp -implicitDefEqProofs [go_sem, sesL, strsV_ren]

set_option maxRecDepth 20000 in
theorem IndexFuncB_c (l : List Ses) (p : Ses → Bool) (f : Nat) (v : AV) (hl : l.length < 1000000000) (hr : ren [0] v = v) (hc : ∀ m, closed m v = true) (hf : ∀ x : Ses, ACalls Tryd.prog f [.agg (sesR x), .ptr 0 0] [.box [v]] (.bool (p x)) [.box [v]]) :
    ACalls Tryd.prog 51 [sesL l, .fn (.func f) [] [.ptr 0 0]] [.box [v]] (.int .i64 (idxI (l.findIdx? p))) [.box [v]] := by
  refine acalls_F c51_ok rfl ?_
  unfold c51 sesL
  simp +decide -dsimp -implicitDefEqProofs [go_sem]
  refine loop_of (S := Nat) (fun i => ⟨tmps 19 [(0, .imm (l.map sesR)), (1, .fn (.func f) [] [.ptr 0 0]), (6, .imm (l.map sesR)), (7, .int .i64 l.length), (8, .int .i64 i)], [.box [v]]⟩) (fun i => l.length - i) (fun i => i ≤ l.length ∧ ∀ x ∈ l.take i, p x = false) 0 (by simp) (cut_of (by simp) ?_) ?_
  · simp +decide -dsimp -implicitDefEqProofs [go_sem, hc]
  intro i hi
  by_cases h : i < l.length
  · have w : IntKind.i64.wrap ((i : Int) + 1) = i + 1 := w64 (by omega) (by omega)
    simp +decide -dsimp -implicitDefEqProofs [go_sem, h]
    refine callE_frame [0] (hf l[i]) rfl rfl (by simp) (by simp [go_sem]) (by simp [go_sem, hr]) ?_
    by_cases hp : p l[i]
    · have e : l.findIdx? p = some i := by
        rw [List.findIdx?_eq_some_iff_getElem]
        refine ⟨h, hp, fun j hj => ?_⟩
        have := hi.2 l[j] (by rw [List.mem_take_iff_getElem]; exact ⟨j, by omega, rfl⟩)
        simp [this]
      rw [e]
      simp +decide -dsimp -implicitDefEqProofs [go_sem, hp, hc, hr]
    · simp +decide -dsimp -implicitDefEqProofs [go_sem, hp, w, hr]
      refine next_of (i + 1) ⟨by omega, fun x hx => ?_⟩ (by omega) (cut_of (by simp) ?_)
      · rw [List.take_succ_eq_append_getElem h] at hx
        rcases List.mem_append.1 hx with hx | hx
        · exact hi.2 x hx
        · simp at hx; subst hx; simpa using hp
      simp +decide -dsimp -implicitDefEqProofs [go_sem, hc]
  · simp +decide -dsimp -implicitDefEqProofs [go_sem, h, hc]
    have e : l.findIdx? p = none := by
      rw [List.findIdx?_eq_none_iff]
      intro x hx
      refine hi.2 x ?_
      rwa [show i = l.length by omega, List.take_length]
    rw [e]; rfl

def ses0 : Ses := ⟨0, [], [], false⟩
theorem find_c (n : Int) (l : List Ses) (i : Int) (hl : l.length < 1000000000) : ACalls Tryd.prog 45 [ssV n l, .int .i64 i] [] (match l.find? (·.id == i) with | some x => .tup [.agg (sesR x), .bool true] | none => .tup [.agg (sesR ses0), .bool false]) [] := by
  refine acalls_F c45_ok rfl ?_
  unfold c45 ssV
  simp +decide -dsimp -implicitDefEqProofs [go_sem]
  refine callE_frame [1] (IndexFuncB_c l _ 59 (.int .i64 i) hl rfl (fun _ => rfl) fun x => find1_c x i) rfl rfl (by simp) (by simp [go_sem, sesL]) (by simp [go_sem]) ?_
  cases e : l.findIdx? (·.id == i) with
  | none =>
    have e2 : l.find? (·.id == i) = none := by rw [List.find?_eq_none]; rw [List.findIdx?_eq_none_iff] at e; intro x hx; simp [e x hx]
    rw [e2]
    simp +decide -dsimp -implicitDefEqProofs [go_sem, ses0, sesR]
  | some k =>
    rw [List.findIdx?_eq_some_iff_getElem] at e
    obtain ⟨h, h1, h2⟩ := e
    have e2 : l.find? (·.id == i) = some l[k] := by
      rw [List.find?_eq_some_iff_getElem]; exact ⟨h1, k, h, rfl, fun j hj => by simpa using h2 j hj⟩
    rw [e2]
    have h0 : ¬ ((k : Int) < 0) := by omega
    simp +decide -dsimp -implicitDefEqProofs [go_sem, h0, sesL, h, sesR]
end Go.Ab
namespace Go.Ab
open Go Go.Proofs
def turnS (seat : List UInt8) (id : Int) (x : Ses) : Ses := if x.seat = seat then { x with act := x.id == id } else x
def rowsT (l : List Ses) (seat : List UInt8) (id : Int) (i : Nat) : List (List AV) := (((l.take i).map (turnS seat id)) ++ l.drop i).map sesR
theorem rowsT_len (l : List Ses) (seat : List UInt8) (id : Int) (i : Nat) : (rowsT l seat id i).length = l.length := by
  simp [rowsT]; omega
theorem rowsT_at {l : List Ses} {seat : List UInt8} {id : Int} {i : Nat} (h : i < l.length) : (rowsT l seat id i)[i]? = some (sesR l[i]) := by
  simp [rowsT, List.getElem?_append_right, Nat.min_eq_left (Nat.le_of_lt h), h]
theorem rowsT_set {l : List Ses} {seat : List UInt8} {id : Int} {i : Nat} (h : i < l.length) : (rowsT l seat id i).set i (sesR (turnS seat id l[i])) = rowsT l seat id (i + 1) := by
  have h0 : i - (List.map sesR (List.map (turnS seat id) (List.take i l))).length = 0 := by simp; omega
  unfold rowsT
  rw [List.drop_eq_getElem_cons h, List.take_succ_eq_append_getElem h]
  simp only [List.map_append, List.map_cons, List.map_nil, List.append_assoc, List.cons_append, List.nil_append]
  rw [List.set_append_right _ _ (by simp; omega), h0, List.set_cons_zero]
theorem rowsT_closed (k : Nat) (l : List Ses) (seat : List UInt8) (id : Int) (i : Nat) : closedLL k (rowsT l seat id i) = true := sesR_closedLL k _
theorem rowsT_ren (is : List Nat) (l : List Ses) (seat : List UInt8) (id : Int) (i : Nat) : renLL is (rowsT l seat id i) = rowsT l seat id i := sesR_renLL is _
theorem rowsT_zero (l : List Ses) (seat : List UInt8) (id : Int) : rowsT l seat id 0 = l.map sesR := by simp [rowsT]
theorem rowsT_end (l : List Ses) (seat : List UInt8) (id : Int) : rowsT l seat id l.length = (l.map (turnS seat id)).map sesR := by simp [rowsT]

set_option maxRecDepth 20000 in
theorem turned_c (n : Int) (l : List Ses) (seat : List UInt8) (id : Int) (hl : l.length < 1000000000) : ACalls Tryd.prog 35 [ssV n l, .str seat, .int .i64 id] [] (ssV n (l.map (turnS seat id))) [] := by
  refine acalls_F c35_ok rfl ?_
  unfold c35 ssV
  simp +decide -dsimp -implicitDefEqProofs [go_sem]
  refine callE_new (Clone_c l hl) (by simp [go_sem, closedL, closed, sesL]) (by simp [go_sem, sesL]) (sesR_renLL _ _) ?_
  simp +decide -dsimp -implicitDefEqProofs [go_sem]
  refine loop_of (S := Nat) (fun i => ⟨tmps 36 [(1, .str seat), (2, .int .i64 id), (3, .ptr 0 0), (6, .ptr 1 0), (14, .own 2 l.length), (15, .int .i64 l.length), (16, .int .i64 i)], [.box [.int .i64 n, .own 2 l.length], .box [.int .i64 0, .nils], .reg 33 4 (rowsT l seat id i)]⟩) (fun i => l.length - i) (fun i => i ≤ l.length) 0 (by simp) (cut_of (by simp) ?_) ?_
  · simp +decide -dsimp -implicitDefEqProofs [go_sem, rowsT_zero]
  intro i hi
  by_cases h : i < l.length
  · have w : IntKind.i64.wrap ((i : Int) + 1) = i + 1 := w64 (by omega) (by omega)
    have e0 := rowsT_at (l := l) (seat := seat) (id := id) h
    have e1 := rowsT_len l seat id i
    have e2 := rowsT_set (seat := seat) (id := id) h
    simp only [sesR] at e0
    have e4 : ∀ hh, (rowsT l seat id i)[i]'hh = [.int .i64 l[i].id, .str l[i].user, .str l[i].seat, .bool l[i].act] := fun hh => by
      rw [List.getElem?_eq_getElem hh] at e0; exact Option.some.inj e0
    by_cases hs : l[i].seat = seat
    · simp only [turnS, hs, if_true, sesR] at e2
      simp +decide -dsimp -implicitDefEqProofs [go_sem, h, e4, e1, hs, e2, w]
      refine next_of (i + 1) (by omega) (by omega) (cut_of (by simp) ?_)
      simp +decide -dsimp -implicitDefEqProofs [go_sem, rowsT_closed]
    · simp +decide -dsimp -implicitDefEqProofs [go_sem, h, e4, e1, hs, w]
      refine next_of (i + 1) (by omega) (by omega) (cut_of (by simp) ?_)
      have e3 : rowsT l seat id i = rowsT l seat id (i + 1) := by
        rw [← e2, turnS, if_neg hs]
        refine (List.ext_getElem? fun j => ?_)
        by_cases hj : i = j
        · subst hj; rw [List.getElem?_set_self (by omega), e0]; rfl
        · rw [List.getElem?_set_ne hj]
      simp +decide -dsimp -implicitDefEqProofs [go_sem, rowsT_closed, ← e3]
  · have e : i = l.length := by omega
    subst e
    simp +decide -dsimp -implicitDefEqProofs [go_sem, rowsT_end, sesL]
end Go.Ab
namespace Go.Ab
open Go Go.Proofs
theorem find_some {l : List Ses} {p : Ses → Bool} {x : Ses} (h : l.find? p = some x) : p x = true := List.find?_some h
theorem ssV_closed (k : Nat) (n : Int) (l : List Ses) : closed k (ssV n l) = true := by simp [ssV, sesL, closed, closedL, sesR_closedLL]

def actS (n : Int) (l : List Ses) (i : Int) : AV := match l.find? (·.id == i) with
  | some x => .tup [ssV n (l.map (turnS x.seat i)), .int .i64 0]
  | none => .tup [ssV 0 [], .int .i64 373]
theorem Activate_c (n : Int) (l : List Ses) (i : Int) (hl : l.length < 1000000000) : ACalls Tryd.prog 25 [ssV n l, .int .i64 i] [] (actS n l i) [] := by
  refine acalls_F c25_ok rfl ?_
  unfold c25 actS
  have hf := find_c n l i hl
  cases e : l.find? (·.id == i) with
  | none =>
    simp only [e] at hf
    unfold ssV
    simp +decide -dsimp -implicitDefEqProofs [go_sem]
    refine callE_pure hf (by simp [go_sem, closedL, closed, sesL]) (by simp [go_sem]) ?_
    simp +decide -dsimp -implicitDefEqProofs [go_sem, ses0, sesR]
    simp [sesL]
  | some x =>
    simp only [e] at hf
    unfold ssV
    simp +decide -dsimp -implicitDefEqProofs [go_sem]
    refine callE_pure hf (by simp [go_sem, closedL, closed, sesL]) (by simp [go_sem]) ?_
    simp +decide -dsimp -implicitDefEqProofs [go_sem, sesR]
    refine callE_pure (turned_c n l x.seat i hl) (by simp [go_sem, closedL, closed, sesL]) (by simp [ssV_closed]) ?_
    simp +decide -dsimp -implicitDefEqProofs [go_sem, ssV, -List.map_map]
    simp [sesL, sesR_closedLL, closed, -List.map_map]

theorem sesR_id (y : Ses) (K : AV → Prop) : ldK none (sesR y) K = K (.int .i64 y.id) := rfl
def closeS (n : Int) (l : List Ses) (i : Int) : AV := match l.find? (·.id == i) with
  | some x => (match x.act, ofS (l.filter (·.id != i)) x.seat with
    | true, y :: _ => .tup [ssV n ((l.filter (·.id != i)).map (turnS x.seat y.id)), .int .i64 0]
    | _, _ => .tup [ssV n (l.filter (·.id != i)), .int .i64 0])
  | none => .tup [ssV 0 [], .int .i64 373]
theorem Close_c (n : Int) (l : List Ses) (i : Int) (hl : l.length < 1000000000) : ACalls Tryd.prog 24 [ssV n l, .int .i64 i] [] (closeS n l i) [] := by
  have hl' : (l.filter (·.id != i)).length < 1000000000 := Nat.lt_of_le_of_lt (List.length_filter_le _ _) hl
  refine acalls_F c24_ok rfl ?_
  unfold c24 closeS
  have hf := find_c n l i hl
  cases e : l.find? (·.id == i) with
  | none =>
    simp only [e] at hf
    unfold ssV
    simp +decide -dsimp -implicitDefEqProofs [go_sem]
    refine callE_pure hf (by simp [go_sem, closedL, closed, sesL]) (by simp [go_sem]) ?_
    simp +decide -dsimp -implicitDefEqProofs [go_sem, ses0, sesR]
    simp [sesL]
  | some x =>
    simp only [e] at hf
    unfold ssV
    simp +decide -dsimp -implicitDefEqProofs [go_sem]
    refine callE_pure hf (by simp [go_sem, closedL, closed, sesL]) (by simp [go_sem]) ?_
    simp +decide -dsimp -implicitDefEqProofs [go_sem, sesR]
    refine callE_frame [1] (filter_c l _ 46 (.int .i64 i) hl rfl (fun _ => rfl) fun x => Close1_c x i) rfl rfl (by simp) (by simp [go_sem, sesL]) (by simp [go_sem]) ?_
    simp +decide -dsimp -implicitDefEqProofs [go_sem, sesL]
    refine callE_pure (of_c n _ x.seat hl') (by simp [go_sem, closedL, closed]) (by simp [go_sem, sesL]) ?_
    cases ha : x.act with
    | false =>
      simp +decide -dsimp -implicitDefEqProofs [go_sem, sesL]
    | true =>
      cases hr : ofS (l.filter (·.id != i)) x.seat with
      | nil =>
        simp +decide -dsimp -implicitDefEqProofs [go_sem, sesL]
      | cons y r =>
        simp +decide -dsimp -implicitDefEqProofs [go_sem, sesL, sesR_id]
        refine callDE_pure (turned_c n _ x.seat y.id hl') (by simp [go_sem, closedL, closed]) (by simp [ssV_closed]) ?_
        simp +decide -dsimp -implicitDefEqProofs [go_sem, ssV, -List.map_map]
        simp [sesL, sesR_closedLL, closed, -List.map_map]

def switchS (n : Int) (l : List Ses) (s : List UInt8) : AV := match (ofS l s)[((match (ofS l s).findIdx? (·.act) with | some i => i + 1 | none => 0) % (ofS l s).length)]? with
  | some x => .tup [ssV n (l.map (turnS s x.id)), .int .i64 x.id, .int .i64 0]
  | none => .tup [ssV 0 [], .int .i64 0, .int .i64 373]
theorem Switch_c (n : Int) (l : List Ses) (s : List UInt8) (hl : l.length < 1000000000) : ACalls Tryd.prog 13 [ssV n l, .str s] [] (switchS n l s) [] := by
  have hn : (ofS l s).length < 1000000000 := Nat.lt_of_le_of_lt (List.length_filter_le _ _) hl
  refine acalls_F c13_ok rfl ?_
  unfold c13 switchS ssV
  simp +decide -dsimp -implicitDefEqProofs [go_sem]
  refine callE_pure (of_c n l s hl) (by simp [go_sem, closedL, closed, sesL]) (by simp [go_sem, sesL]) ?_
  cases hr : ofS l s with
  | nil =>
    simp +decide -dsimp -implicitDefEqProofs [go_sem, sesL]
  | cons y r =>
    rw [hr] at hn
    have ha := active_c (y :: r) hn
    have hL0 : ((r.length : Int) + 1 == 0) = false := by simp; omega
    have hL1 : ¬ ((r.length : Int) + 1 = 0) := by omega
    simp +decide -dsimp -implicitDefEqProofs [go_sem, sesL, hL0]
    -- the place of the next
    generalize hk : ((match (y :: r).findIdx? (·.act) with | some i => i + 1 | none => 0) % (y :: r).length) = k
    have hk1 : k < (y :: r).length := by rw [← hk]; exact Nat.mod_lt _ (by simp)
    generalize hz : idxI ((y :: r).findIdx? (·.act)) = z at ha
    generalize hm : (match (y :: r).findIdx? (·.act) with | some i => i + 1 | none => 0) = m at hk
    have hkI : IntKind.i64.wrap (z + 1) = (m : Int) := by
      rw [← hz, ← hm]
      cases e : (y :: r).findIdx? (·.act) with
      | none => exact w64 (by simp) (by simp)
      | some i =>
        have : i < (y :: r).length := (List.findIdx?_eq_some_iff_getElem.1 e).1
        simp only [idxI_some]
        rw [w64 (by omega) (by omega)]; rfl
    refine callE_pure ha (by simp [go_sem, closedL, closed]) rfl ?_
    have hmod : (m : Int).tmod ((r.length : Int) + 1) = (k : Int) := by
      rw [← hk]
      rfl
    have hg : (sesR y :: r.map sesR)[k]? = some (sesR (y :: r)[k]) := by
      have := List.getElem?_map (f := sesR) (l := y :: r) (i := k)
      rw [List.getElem?_eq_getElem hk1] at this; exact this
    have hg2 : (y :: r)[k]? = some (y :: r)[k] := List.getElem?_eq_getElem hk1
    generalize (y :: r)[k] = yk at hg hg2
    rw [hg2]
    simp +decide -dsimp -implicitDefEqProofs [go_sem, hkI, hmod, hL1, hg, sesR_id]
    refine callE_pure (turned_c n l s yk.id hl) (by simp [go_sem, closedL, closed]) (by simp [ssV_closed]) ?_
    simp +decide -dsimp -implicitDefEqProofs [go_sem, ssV, -List.map_map]
    simp [sesL, sesR_closedLL, closed, -List.map_map]
end Go.Ab
namespace Go.Ab
open Go Go.Proofs
def actIn (l : List Ses) (s : List UInt8) : List Ses := l.filter fun x => x.seat == s && x.act
theorem filt_take {l : List Ses} {p : Ses → Bool} {i : Nat} (h : i < l.length) : ((l.take (i + 1)).filter p).length = ((l.take i).filter p).length + (if p l[i] then 1 else 0) := by
  rw [filter_take h]; by_cases hp : p l[i] <;> simp [hp]

set_option maxRecDepth 20000 in
theorem rActive_c (n : Int) (l : List Ses) (s : List UInt8) (hl : l.length < 1000000000) : ACalls Tryd.prog 42 [ssV n l, .str s] [] (.int .i64 (actIn l s).length) [] := by
  refine acalls_F c42_ok rfl ?_
  unfold c42 ssV sesL
  simp +decide -dsimp -implicitDefEqProofs [go_sem]
  refine loop_of (S := Nat) (fun i => ⟨tmps 33 [(1, .str s), (2, .ptr 0 0), (5, .int .i64 (actIn (l.take i) s).length), (6, .int .i64 i)], [.box [.int .i64 n, .imm (l.map sesR)]]⟩) (fun i => l.length - i) (fun i => i ≤ l.length) 0 (by simp) (cut_of (by simp) ?_) ?_
  · simp +decide -dsimp -implicitDefEqProofs [go_sem, actIn]
  intro i hi
  by_cases h : i < l.length
  · have w : IntKind.i64.wrap ((i : Int) + 1) = i + 1 := w64 (by omega) (by omega)
    have hc : (actIn (l.take i) s).length ≤ l.length := Nat.le_trans (List.length_filter_le _ _) (by simp; omega)
    have w2 : IntKind.i64.wrap (((actIn (l.take i) s).length : Int) + 1) = (actIn (l.take i) s).length + 1 := w64 (by omega) (by omega)
    have hf := filt_take (p := fun x : Ses => x.seat == s && x.act) h
    by_cases hs : l[i].seat = s
    · by_cases ha : l[i].act
      · simp +decide -dsimp -implicitDefEqProofs [go_sem, h, hs, ha, w, w2, sesR]
        refine next_of (i + 1) (by omega) (by omega) (cut_of (by simp) ?_)
        have e : (actIn (l.take (i + 1)) s).length = (actIn (l.take i) s).length + 1 := by rw [actIn, hf]; simp [actIn, hs, ha]
        simp +decide -dsimp -implicitDefEqProofs [go_sem, e]
      · simp +decide -dsimp -implicitDefEqProofs [go_sem, h, hs, ha, w, sesR]
        refine next_of (i + 1) (by omega) (by omega) (cut_of (by simp) ?_)
        have e : (actIn (l.take (i + 1)) s).length = (actIn (l.take i) s).length := by rw [actIn, hf]; simp [actIn, hs, ha]
        simp +decide -dsimp -implicitDefEqProofs [go_sem, e]
    · simp +decide -dsimp -implicitDefEqProofs [go_sem, h, hs, w, sesR]
      refine next_of (i + 1) (by omega) (by omega) (cut_of (by simp) ?_)
      have e : (actIn (l.take (i + 1)) s).length = (actIn (l.take i) s).length := by rw [actIn, hf]; simp [actIn, hs]
      simp +decide -dsimp -implicitDefEqProofs [go_sem, e]
  · have e : i = l.length := by omega
    subst e
    simp +decide -dsimp -implicitDefEqProofs [go_sem]

theorem find_prefix_none {l : List Ses} {p : Ses → Bool} {i : Nat} (h : i < l.length) (hn : ∀ x ∈ l.take i, p x = false) (hp : p l[i] = true) : l.find? p = some l[i] := by
  rw [List.find?_eq_some_iff_getElem]
  exact ⟨hp, i, h, rfl, fun j hj => by have := hn l[j] (by rw [List.mem_take_iff_getElem]; exact ⟨j, by omega, rfl⟩); simp [this]⟩
theorem take_succ_none {l : List Ses} {p : Ses → Bool} {i : Nat} (h : i < l.length) (hn : ∀ x ∈ l.take i, p x = false) (hp : p l[i] = false) : ∀ x ∈ l.take (i + 1), p x = false := fun x hx => by
  rw [List.take_succ_eq_append_getElem h] at hx
  rcases List.mem_append.1 hx with hx | hx
  · exact hn x hx
  · simp at hx; subst hx; exact hp
theorem find_all_none {l : List Ses} {p : Ses → Bool} {i : Nat} (hi : i ≤ l.length) (h : ¬ i < l.length) (hn : ∀ x ∈ l.take i, p x = false) : l.find? p = none := by
  rw [show i = l.length by omega, List.take_length] at hn
  rw [List.find?_eq_none]; intro x hx; simp [hn x hx]

set_option maxRecDepth 20000 in
theorem rFind_c (n : Int) (l : List Ses) (i : Int) (hl : l.length < 1000000000) : ACalls Tryd.prog 47 [ssV n l, .int .i64 i] [] (match l.find? (·.id == i) with | some x => .tup [.agg (sesR x), .bool true] | none => .tup [.agg (sesR ses0), .bool false]) [] := by
  refine acalls_F c47_ok rfl ?_
  unfold c47 ssV sesL
  simp +decide -dsimp -implicitDefEqProofs [go_sem]
  refine loop_of (S := Nat) (fun k => ⟨tmps 28 [(1, .int .i64 i), (2, .ptr 0 0), (4, .ptr 1 0), (6, .int .i64 k)], [.box [.int .i64 n, .imm (l.map sesR)], .box [.int .i64 0, .str [], .str [], .bool false]]⟩) (fun k => l.length - k) (fun k => k ≤ l.length ∧ ∀ x ∈ l.take k, (x.id == i) = false) 0 (by simp) (cut_of (by simp) ?_) ?_
  · simp +decide -dsimp -implicitDefEqProofs [go_sem]
  intro k hi
  by_cases h : k < l.length
  · have w : IntKind.i64.wrap ((k : Int) + 1) = k + 1 := w64 (by omega) (by omega)
    by_cases hs : l[k].id = i
    · rw [find_prefix_none h hi.2 (by simpa using hs)]
      simp +decide -dsimp -implicitDefEqProofs [go_sem, h, hs, sesR]
    · have hi2 := hi.2
      simp +decide -dsimp -implicitDefEqProofs [go_sem, h, hs, w, sesR]
      refine next_of (k + 1) ⟨by omega, take_succ_none h hi2 (by simpa using hs)⟩ (by omega) (cut_of (by simp) ?_)
      simp +decide -dsimp -implicitDefEqProofs [go_sem]
  · rw [find_all_none hi.1 h hi.2]
    simp +decide -dsimp -implicitDefEqProofs [go_sem, h, ses0, sesR]

def leastS (l : List Ses) (s : List UInt8) (a : Int) : Int := match l.find? (fun x => x.seat == s && decide (x.id > a)) with | some x => x.id | none => 0
set_option maxRecDepth 20000 in
theorem rLeast_c (n : Int) (l : List Ses) (s : List UInt8) (a : Int) (hl : l.length < 1000000000) : ACalls Tryd.prog 49 [ssV n l, .str s, .int .i64 a] [] (.int .i64 (leastS l s a)) [] := by
  refine acalls_F c49_ok rfl ?_
  unfold c49 ssV sesL leastS
  simp +decide -dsimp -implicitDefEqProofs [go_sem]
  refine loop_of (S := Nat) (fun k => ⟨tmps 39 [(1, .str s), (2, .int .i64 a), (3, .ptr 0 0), (7, .int .i64 k)], [.box [.int .i64 n, .imm (l.map sesR)]]⟩) (fun k => l.length - k) (fun k => k ≤ l.length ∧ ∀ x ∈ l.take k, (x.seat == s && decide (x.id > a)) = false) 0 (by simp) (cut_of (by simp) ?_) ?_
  · simp +decide -dsimp -implicitDefEqProofs [go_sem]
  intro k hi
  by_cases h : k < l.length
  · have w : IntKind.i64.wrap ((k : Int) + 1) = k + 1 := w64 (by omega) (by omega)
    by_cases hs : l[k].seat = s
    · by_cases ha : l[k].id > a
      · rw [find_prefix_none (p := fun x => x.seat == s && decide (x.id > a)) h hi.2 (by simp [hs]; omega)]
        simp +decide -dsimp -implicitDefEqProofs [go_sem, h, hs, ha, sesR]
      · have hi2 := take_succ_none (p := fun x => x.seat == s && decide (x.id > a)) h hi.2 (by simp [hs]; omega)
        simp +decide -dsimp -implicitDefEqProofs [go_sem, h, hs, ha, w, sesR]
        refine next_of (k + 1) ⟨by omega, hi2⟩ (by omega) (cut_of (by simp) ?_)
        simp +decide -dsimp -implicitDefEqProofs [go_sem]
    · have hi2 := take_succ_none (p := fun x => x.seat == s && decide (x.id > a)) h hi.2 (by simp [hs])
      simp +decide -dsimp -implicitDefEqProofs [go_sem, h, hs, w, sesR]
      refine next_of (k + 1) ⟨by omega, hi2⟩ (by omega) (cut_of (by simp) ?_)
      simp +decide -dsimp -implicitDefEqProofs [go_sem]
  · rw [find_all_none (p := fun x => x.seat == s && decide (x.id > a)) hi.1 h hi.2]
    simp +decide -dsimp -implicitDefEqProofs [go_sem, h]
end Go.Ab
namespace Go.Ab
open Go Go.Proofs
def rowsU (l : List Ses) (f : Ses → Ses) (i : Nat) : List (List AV) := ((l.take i).map f).map sesR
theorem rowsU_len {l : List Ses} {f : Ses → Ses} {i : Nat} (h : i ≤ l.length) : (rowsU l f i).length = i := by simp [rowsU]; omega
theorem rowsU_succ {l : List Ses} {f : Ses → Ses} {i : Nat} (h : i < l.length) : rowsU l f i ++ [sesR (f l[i])] = rowsU l f (i + 1) := by
  unfold rowsU; rw [List.take_succ_eq_append_getElem h]; simp only [List.map_append, List.map_cons, List.map_nil]
theorem rowsU_end (l : List Ses) (f : Ses → Ses) : rowsU l f l.length = (l.map f).map sesR := by simp [rowsU]
theorem rowsU_closed (k : Nat) (l : List Ses) (f : Ses → Ses) (i : Nat) : closedLL k (rowsU l f i) = true := sesR_closedLL k _

set_option maxRecDepth 20000 in
theorem rOnly_c (n : Int) (l : List Ses) (seat : List UInt8) (id : Int) (hl : l.length < 1000000000) : ACalls Tryd.prog 48 [ssV n l, .str seat, .int .i64 id] [] (ssV n (l.map (turnS seat id))) [] := by
  refine acalls_F c48_ok rfl ?_
  unfold c48 ssV sesL
  simp +decide -dsimp -implicitDefEqProofs [go_sem]
  refine loop_of (S := Nat) (fun i => ⟨tmps 41 [(1, .str seat), (2, .int .i64 id), (3, .ptr 0 0), (6, .ptr 1 0), (7, .ptr 2 0), (8, .int .i64 i)], [.box [.int .i64 n, .imm (l.map sesR)], .box [.int .i64 0, .nils], .box [.int .i64 n, .own 3 i], .reg 33 4 (rowsU l (turnS seat id) i)]⟩) (fun i => l.length - i) (fun i => i ≤ l.length) 0 (by simp) ?_ ?_
  · refine .trans (.nilB 2 1 33 4 rfl rfl (by simp)) (cut_of (by simp) ?_)
    simp +decide -dsimp -implicitDefEqProofs [go_sem, rowsU]
  intro i hi
  have e1 : (rowsU l (turnS seat id) i).length = i := rowsU_len hi
  by_cases h : i < l.length
  · have w : IntKind.i64.wrap ((i : Int) + 1) = i + 1 := w64 (by omega) (by omega)
    have e2 := rowsU_succ (f := turnS seat id) h
    have fit : i ≤ 9223372036854775806 ∧ (i + 1) * 48 ≤ 140737488355328 := by omega
    by_cases hs : l[i].seat = seat
    · simp only [turnS, hs, if_true, sesR] at e2
      simp +decide -dsimp -implicitDefEqProofs [go_sem, h, e1, hs, w, sesR, maxLen, fit]
      rw [e2]
      refine next_of (i + 1) (by omega) (by omega) (cut_of (by simp) ?_)
      simp +decide -dsimp -implicitDefEqProofs [go_sem, rowsU_closed]
      try simp [← sesR, sesR_closedLL, Function.comp_def]
    · simp only [turnS, hs, if_false, sesR] at e2
      simp +decide -dsimp -implicitDefEqProofs [go_sem, h, e1, hs, w, sesR, maxLen, fit]
      rw [e2]
      refine next_of (i + 1) (by omega) (by omega) (cut_of (by simp) ?_)
      simp +decide -dsimp -implicitDefEqProofs [go_sem, rowsU_closed]
      try simp [← sesR, sesR_closedLL, Function.comp_def]
  · have e : i = l.length := by omega
    subst e
    have e3 := rowsU_end l (turnS seat id)
    simp +decide -dsimp -implicitDefEqProofs [go_sem, e3, -List.map_map]
    simp

theorem rActivate_c (n : Int) (l : List Ses) (i : Int) (hl : l.length < 1000000000) : ACalls Tryd.prog 29 [ssV n l, .int .i64 i] [] (actS n l i) [] := by
  refine acalls_F c29_ok rfl ?_
  unfold c29 actS
  have hf := rFind_c n l i hl
  cases e : l.find? (·.id == i) with
  | none =>
    simp only [e] at hf
    unfold ssV
    simp +decide -dsimp -implicitDefEqProofs [go_sem]
    refine callE_pure hf (by simp [go_sem, closedL, closed, sesL]) (by simp [go_sem]) ?_
    simp +decide -dsimp -implicitDefEqProofs [go_sem, ses0, sesR]
    simp [sesL]
  | some x =>
    simp only [e] at hf
    unfold ssV
    simp +decide -dsimp -implicitDefEqProofs [go_sem]
    refine callE_pure hf (by simp [go_sem, closedL, closed, sesL]) (by simp [go_sem]) ?_
    simp +decide -dsimp -implicitDefEqProofs [go_sem, sesR]
    refine callE_pure (rOnly_c n l x.seat i hl) (by simp [go_sem, closedL, closed, sesL]) (by simp [ssV_closed]) ?_
    simp +decide -dsimp -implicitDefEqProofs [go_sem, ssV, -List.map_map]
    simp [sesL, sesR_closedLL, closed, -List.map_map]

def rowsF (l : List Ses) (p : Ses → Bool) (i : Nat) : List (List AV) := ((l.take i).filter p).map sesR
theorem rowsF_le {l : List Ses} {p : Ses → Bool} {i : Nat} (h : i ≤ l.length) : (rowsF l p i).length ≤ l.length := by
  simp only [rowsF, List.length_map]; exact Nat.le_trans (List.length_filter_le _ _) (by simp; omega)
theorem rowsF_yes {l : List Ses} {p : Ses → Bool} {i : Nat} (h : i < l.length) (hp : p l[i] = true) : rowsF l p i ++ [sesR l[i]] = rowsF l p (i + 1) := by
  unfold rowsF; rw [filter_take h]; simp only [hp, if_true, List.map_append, List.map_cons, List.map_nil]
theorem rowsF_no {l : List Ses} {p : Ses → Bool} {i : Nat} (h : i < l.length) (hp : p l[i] = false) : rowsF l p (i + 1) = rowsF l p i := by
  unfold rowsF; rw [filter_take h]; simp [hp]
theorem rowsF_end (l : List Ses) (p : Ses → Bool) : rowsF l p l.length = (l.filter p).map sesR := by simp [rowsF]
theorem rowsF_closed (k : Nat) (l : List Ses) (p : Ses → Bool) (i : Nat) : closedLL k (rowsF l p i) = true := sesR_closedLL k _

set_option maxRecDepth 20000 in
theorem rPrune_c (n : Int) (l : List Ses) (seats : List (List UInt8)) (hl : l.length < 1000000000) (hs : seats.length < 1000000000) :
    ACalls Tryd.prog 31 [ssV n l, strsV seats] [] (ssV n (l.filter fun x => decide (x.seat ∈ seats))) [] := by
  refine acalls_F c31_ok rfl ?_
  unfold c31 ssV sesL
  simp +decide -dsimp -implicitDefEqProofs [go_sem]
  refine loop_of (S := Nat) (fun i => ⟨tmps 36 [(1, strsV seats), (2, .ptr 0 0), (4, .ptr 1 0), (5, .ptr 2 0), (6, .int .i64 i)], [.box [.int .i64 n, .imm (l.map sesR)], .box [.int .i64 0, .nils], .box [.int .i64 n, .own 3 (rowsF l (fun x => decide (x.seat ∈ seats)) i).length], .reg 33 4 (rowsF l (fun x => decide (x.seat ∈ seats)) i)]⟩) (fun i => l.length - i) (fun i => i ≤ l.length) 0 (by simp) ?_ ?_
  · refine .trans (.nilB 2 1 33 4 rfl rfl (by simp)) (cut_of (by simp) ?_)
    simp +decide -dsimp -implicitDefEqProofs [go_sem, rowsF, strsV_closed]
  intro i hi
  have hle := rowsF_le (p := fun x => decide (x.seat ∈ seats)) hi
  by_cases h : i < l.length
  · have w : IntKind.i64.wrap ((i : Int) + 1) = i + 1 := w64 (by omega) (by omega)
    by_cases hm : l[i].seat ∈ seats
    · have e2 := rowsF_yes (p := fun x => decide (x.seat ∈ seats)) h (by simpa using hm)
      generalize hL : (rowsF l (fun x => decide (x.seat ∈ seats)) i).length = L at hle
      have fit : L ≤ 9223372036854775806 ∧ (L + 1) * 48 ≤ 140737488355328 := by omega
      simp only [sesR] at e2
      simp +decide -dsimp -implicitDefEqProofs [go_sem, h, sesR]
      refine callE_pure (In_c seats l[i].seat hs) (by simp [go_sem, closedL, closed, strsV_closed]) rfl ?_
      simp +decide -dsimp -implicitDefEqProofs [go_sem, h, w, sesR, maxLen, fit, hm, hL]
      have e4 : (rowsF l (fun x => decide (x.seat ∈ seats)) (i + 1)).length = L + 1 := by rw [← e2]; simp [hL]
      rw [e2]
      refine next_of (i + 1) (by omega) (by omega) (cut_of (by simp) ?_)
      simp +decide -dsimp -implicitDefEqProofs [go_sem, rowsF_closed, e4, strsV_closed]
      try simp [sesR, closedLL_map, closedL, closed]
    · have e2 := rowsF_no (p := fun x => decide (x.seat ∈ seats)) h (by simpa using hm)
      simp +decide -dsimp -implicitDefEqProofs [go_sem, h, sesR]
      refine callE_pure (In_c seats l[i].seat hs) (by simp [go_sem, closedL, closed, strsV_closed]) rfl ?_
      simp +decide -dsimp -implicitDefEqProofs [go_sem, w, hm]
      refine next_of (i + 1) (by omega) (by omega) (cut_of (by simp) ?_)
      simp +decide -dsimp -implicitDefEqProofs [go_sem, rowsF_closed, e2, strsV_closed]
      try simp [sesR, closedLL_map, closedL, closed]
  · have e : i = l.length := by omega
    subst e
    have e3 := rowsF_end l (fun x => decide (x.seat ∈ seats))
    simp +decide -dsimp -implicitDefEqProofs [go_sem, e3]
    try simp

def rCloseRows (i : Int) : Ses → Bool := fun x => x.id != i
set_option maxRecDepth 20000 in
theorem rClose_c (n : Int) (l : List Ses) (i : Int) (hl : l.length < 1000000000) : ACalls Tryd.prog 28 [ssV n l, .int .i64 i] [] (match l.find? (·.id == i) with
    | some x => .tup [ssV n (if x.act then (l.filter (rCloseRows i)).map (turnS x.seat (leastS (l.filter (rCloseRows i)) x.seat 0)) else l.filter (rCloseRows i)), .int .i64 0]
    | none => .tup [ssV 0 [], .int .i64 373]) [] := by
  have hl' : (l.filter (rCloseRows i)).length < 1000000000 := Nat.lt_of_le_of_lt (List.length_filter_le _ _) hl
  refine acalls_F c28_ok rfl ?_
  unfold c28
  have hf := rFind_c n l i hl
  cases e : l.find? (·.id == i) with
  | none =>
    simp only [e] at hf
    unfold ssV
    simp +decide -dsimp -implicitDefEqProofs [go_sem]
    refine callE_pure hf (by simp [go_sem, closedL, closed, sesL]) (by simp [go_sem]) ?_
    simp +decide -dsimp -implicitDefEqProofs [go_sem, ses0, sesR]
    simp [sesL]
  | some x =>
    simp only [e] at hf
    unfold ssV
    simp +decide -dsimp -implicitDefEqProofs [go_sem]
    refine callE_pure hf (by simp [go_sem, closedL, closed, sesL]) (by simp [go_sem]) ?_
    simp +decide -dsimp -implicitDefEqProofs [go_sem, sesR]
    refine loop_ofW (S := Nat) (fun k => ⟨tmps 58 [(1, .int .i64 i), (2, .ptr 0 0), (4, .ptr 1 0), (5, .int .i64 0), (6, .ptr 2 0), (8, .ptr 3 0), (9, .int .i64 k)], [.box [.int .i64 n, .imm (l.map sesR)], .box [.int .i64 0, .nils], .box (sesR x), .box [.int .i64 n, .own 4 (rowsF l (rCloseRows i) k).length], .reg 33 4 (rowsF l (rCloseRows i) k)]⟩) (fun k => l.length - k) (fun k => k ≤ l.length) 0 (by simp) ?_ ?_
    · refine .trans (.nilB 3 1 33 4 rfl rfl (by simp)) (cut_of (by simp) ?_)
      simp +decide -dsimp -implicitDefEqProofs [go_sem, rowsF, sesR, sesL]
    intro k hi
    have hle := rowsF_le (p := rCloseRows i) hi
    by_cases h : k < l.length
    · have w : IntKind.i64.wrap ((k : Int) + 1) = k + 1 := w64 (by omega) (by omega)
      by_cases hm : l[k].id = i
      · have e2 := rowsF_no (p := rCloseRows i) h (by simp [rCloseRows, hm])
        simp +decide -dsimp -implicitDefEqProofs [go_sem, h, w, sesR, hm]
        refine next_of (k + 1) (by omega) (by omega) (cut_of (by simp) ?_)
        simp +decide -dsimp -implicitDefEqProofs [go_sem, rowsF_closed, e2, sesR]
        try simp [sesR, closedLL_map, closedL, closed]
      · have e2 := rowsF_yes (p := rCloseRows i) h (by simp [rCloseRows, hm])
        generalize hL : (rowsF l (rCloseRows i) k).length = L at hle
        have fit : L ≤ 9223372036854775806 ∧ (L + 1) * 48 ≤ 140737488355328 := by omega
        simp only [sesR] at e2
        simp +decide -dsimp -implicitDefEqProofs [go_sem, h, w, sesR, maxLen, fit, hm, hL]
        have e4 : (rowsF l (rCloseRows i) (k + 1)).length = L + 1 := by rw [← e2]; simp [hL]
        rw [e2]
        refine next_of (k + 1) (by omega) (by omega) (cut_of (by simp) ?_)
        simp +decide -dsimp -implicitDefEqProofs [go_sem, rowsF_closed, e4, sesR]
        try simp [sesR, closedLL_map, closedL, closed]
    · have e : k = l.length := by omega
      subst e
      have e3 := rowsF_end l (rCloseRows i)
      simp +decide -dsimp -implicitDefEqProofs [go_sem, e3, sesR]
      refine wk_of ⟨tmps 58 [(1, .int .i64 i), (2, .ptr 0 0), (4, .ptr 1 0), (5, .int .i64 0), (6, .ptr 2 0), (8, .ptr 3 0)], [.box [.int .i64 n, .imm (l.map sesR)], .box [.int .i64 0, .nils], .box (sesR x), .box [.int .i64 n, .imm ((l.filter (rCloseRows i)).map sesR)]]⟩ (cut_of (by simp) ?_) ?_
      · simp +decide -dsimp -implicitDefEqProofs [go_sem, sesR]
        try simp [sesR, closedLL_map, closedL, closed]
      cases ha : x.act with
      | false =>
        simp +decide -dsimp -implicitDefEqProofs [go_sem, ha, sesR, sesL]
        try simp [sesR, closedLL_map, closedL, closed]
      | true =>
        simp +decide -dsimp -implicitDefEqProofs [go_sem, ha, sesR]
        refine callDE_pure (rLeast_c n _ x.seat 0 hl') (by simp [closedL, closed, sesR_closedLL]) rfl ?_
        simp +decide -dsimp -implicitDefEqProofs [go_sem]
        refine callDE_pure (rOnly_c n _ x.seat _ hl') (by simp [closedL, closed, sesR_closedLL]) (by simp [ssV_closed]) ?_
        simp +decide -dsimp -implicitDefEqProofs [go_sem, sesR, ssV, sesL]
end Go.Ab
namespace Go.Ab
open Go Go.Proofs
def actP (s : List UInt8) : Ses → Bool := fun x => x.seat == s && x.act
set_option maxRecDepth 20000 in
theorem rUser_c (n : Int) (l : List Ses) (s : List UInt8) (hl : l.length < 1000000000) : ACalls Tryd.prog 32 [ssV n l, .str s] [] (.str (match l.find? (actP s) with | some x => x.user | none => [])) [] := by
  refine acalls_F c32_ok rfl ?_
  unfold c32 ssV sesL
  simp +decide -dsimp -implicitDefEqProofs [go_sem]
  refine loop_of (S := Nat) (fun k => ⟨tmps 35 [(1, .str s), (2, .ptr 0 0), (5, .int .i64 k)], [.box [.int .i64 n, .imm (l.map sesR)]]⟩) (fun k => l.length - k) (fun k => k ≤ l.length ∧ ∀ x ∈ l.take k, actP s x = false) 0 (by simp) (cut_of (by simp) ?_) ?_
  · simp +decide -dsimp -implicitDefEqProofs [go_sem]
  intro k hi
  by_cases h : k < l.length
  · have w : IntKind.i64.wrap ((k : Int) + 1) = k + 1 := w64 (by omega) (by omega)
    by_cases hs : l[k].seat = s
    · by_cases ha : l[k].act
      · rw [find_prefix_none (p := actP s) h hi.2 (by simp [actP, hs, ha])]
        simp +decide -dsimp -implicitDefEqProofs [go_sem, h, hs, ha, sesR]
      · have hi2 := take_succ_none (p := actP s) h hi.2 (by simp [actP, hs, ha])
        simp +decide -dsimp -implicitDefEqProofs [go_sem, h, hs, ha, w, sesR]
        refine next_of (k + 1) ⟨by omega, hi2⟩ (by omega) (cut_of (by simp) ?_)
        simp +decide -dsimp -implicitDefEqProofs [go_sem]
    · have hi2 := take_succ_none (p := actP s) h hi.2 (by simp [actP, hs])
      simp +decide -dsimp -implicitDefEqProofs [go_sem, h, hs, w, sesR]
      refine next_of (k + 1) ⟨by omega, hi2⟩ (by omega) (cut_of (by simp) ?_)
      simp +decide -dsimp -implicitDefEqProofs [go_sem]
  · rw [find_all_none (p := actP s) hi.1 h hi.2]
    simp +decide -dsimp -implicitDefEqProofs [go_sem, h]

/-- The ID of the last active session of a seat, or 0. -/
def nowS (l : List Ses) (s : List UInt8) : Int := match (l.filter (actP s)).getLast? with | some x => x.id | none => 0
theorem nowS_step {l : List Ses} {s : List UInt8} {i : Nat} (h : i < l.length) : nowS (l.take (i + 1)) s = if actP s l[i] then l[i].id else nowS (l.take i) s := by
  unfold nowS; rw [filter_take h]
  by_cases hp : actP s l[i] <;> simp [hp]
def rSwitchS (n : Int) (l : List Ses) (s : List UInt8) : AV :=
  if nowS l s = 0 then .tup [ssV 0 [], .int .i64 0, .int .i64 373]
  else if leastS l s (nowS l s) = 0 then .tup [ssV n (l.map (turnS s (leastS l s 0))), .int .i64 (leastS l s 0), .int .i64 0]
  else .tup [ssV n (l.map (turnS s (leastS l s (nowS l s)))), .int .i64 (leastS l s (nowS l s)), .int .i64 0]
set_option maxRecDepth 20000 in
theorem rSwitch_c (n : Int) (l : List Ses) (s : List UInt8) (hl : l.length < 1000000000) : ACalls Tryd.prog 30 [ssV n l, .str s] [] (rSwitchS n l s) [] := by
  refine acalls_F c30_ok rfl ?_
  unfold c30 ssV sesL rSwitchS
  simp +decide -dsimp -implicitDefEqProofs [go_sem]
  refine loop_of (S := Nat) (fun k => ⟨tmps 56 [(1, .str s), (2, .ptr 0 0), (4, .ptr 1 0), (5, .int .i64 0), (6, .int .i64 0), (7, .int .i64 (nowS (l.take k) s)), (8, .int .i64 k)], [.box [.int .i64 n, .imm (l.map sesR)], .box [.int .i64 0, .nils]]⟩) (fun k => l.length - k) (fun k => k ≤ l.length) 0 (by simp) (cut_of (by simp) ?_) ?_
  · simp +decide -dsimp -implicitDefEqProofs [go_sem]
    try simp [nowS]
  intro k hi
  have hst := nowS_step (l := l) (s := s) (i := k)
  by_cases h : k < l.length
  · have w : IntKind.i64.wrap ((k : Int) + 1) = k + 1 := w64 (by omega) (by omega)
    replace hst := hst h
    by_cases hs : l[k].seat = s
    · by_cases ha : l[k].act
      · rw [if_pos (by simp [actP, hs, ha])] at hst
        simp +decide -dsimp -implicitDefEqProofs [go_sem, h, hs, ha, sesR, w]
        refine next_of (k + 1) (by omega) (by omega) (cut_of (by simp) ?_)
        simp +decide -dsimp -implicitDefEqProofs [go_sem, hst]
      · rw [if_neg (by simp [actP, hs, ha])] at hst
        simp +decide -dsimp -implicitDefEqProofs [go_sem, h, hs, ha, w, sesR]
        refine next_of (k + 1) (by omega) (by omega) (cut_of (by simp) ?_)
        simp +decide -dsimp -implicitDefEqProofs [go_sem, hst]
    · rw [if_neg (by simp [actP, hs])] at hst
      simp +decide -dsimp -implicitDefEqProofs [go_sem, h, hs, w, sesR]
      refine next_of (k + 1) (by omega) (by omega) (cut_of (by simp) ?_)
      simp +decide -dsimp -implicitDefEqProofs [go_sem, hst]
  · have e : k = l.length := by omega
    subst e
    generalize hn : nowS l s = z
    have hn2 : nowS (l.take l.length) s = z := by rw [List.take_length, hn]
    by_cases h0 : z = 0
    · simp +decide -dsimp -implicitDefEqProofs [go_sem, hn, h0, sesL, ssV]
    · simp +decide -dsimp -implicitDefEqProofs [go_sem, hn, h0]
      refine callE_pure (rLeast_c n l s z hl) (by simp [closedL, closed, sesR_closedLL]) rfl ?_
      have fin : ∀ w : Int, closedL 0 [ssV n l, .str s, .int .i64 w] = true := fun w => by simp [closedL, ssV_closed, closed]
      by_cases hz : leastS l s z = 0
      · simp +decide -dsimp -implicitDefEqProofs [go_sem, hz]
        refine callE_pure (rLeast_c n l s 0 hl) (fin 0) rfl ?_
        simp +decide -dsimp -implicitDefEqProofs [go_sem]
        refine callE_pure (rOnly_c n l s _ hl) (fin _) (by simp [ssV_closed]) ?_
        simp +decide -dsimp -implicitDefEqProofs [go_sem, ssV, sesL, h0, hz, -List.map_map]
        try simp [sesR_closedLL, closed, -List.map_map]
      · have hz2 : (leastS l s z == 0) = false := by simpa using hz
        simp +decide -dsimp -implicitDefEqProofs [go_sem, hz2]
        refine callE_pure (rOnly_c n l s _ hl) (fin _) (by simp [ssV_closed]) ?_
        simp +decide -dsimp -implicitDefEqProofs [go_sem, ssV, sesL, h0, hz, -List.map_map]
        try simp [sesR_closedLL, closed, -List.map_map]
end Go.Ab
namespace Go.Ab
open Go Go.Proofs
set_option maxRecDepth 20000 in
theorem Same_c (n m : Int) (l r : List Ses) (hl : l.length < 1000000000) (hr : r.length < 1000000000) : ACalls Tryd.prog 14 [ssV n l, ssV m r] [] (.bool (decide (n = m ∧ l = r))) [] := by
  refine acalls_F c14_ok rfl ?_
  unfold c14 ssV sesL
  by_cases hn : n = m
  · by_cases hlen : l.length = r.length
    · have hlenI : ((l.length : Int) != (r.length : Int)) = false := by simp [hlen]
      simp +decide -dsimp -implicitDefEqProofs [go_sem, hn, hlen]
      refine loop_of (S := Nat) (fun i => ⟨tmps 38 [(2, .ptr 0 0), (3, .ptr 1 0), (5, .int .i64 i)], [.box [.int .i64 m, .imm (l.map sesR)], .box [.int .i64 m, .imm (r.map sesR)]]⟩) (fun i => l.length - i) (fun i => i ≤ l.length ∧ l.take i = r.take i) 0 (by simp) (cut_of (by simp) ?_) ?_
      · simp +decide -dsimp -implicitDefEqProofs [go_sem]
      intro i hi
      by_cases h : i < l.length
      · have h' : i < r.length := by omega
        have w : IntKind.i64.wrap ((i : Int) + 1) = i + 1 := w64 (by omega) (by omega)
        by_cases he : l[i] = r[i]
        · simp +decide -dsimp -implicitDefEqProofs [go_sem, h, h', he, sesR, w]
          refine next_of (i + 1) ⟨by omega, by rw [List.take_succ_eq_append_getElem h, List.take_succ_eq_append_getElem h', hi.2, he]⟩ (by omega) (cut_of (by simp) ?_)
          simp +decide -dsimp -implicitDefEqProofs [go_sem]
          try simp [sesR, closedLL_map, closedL, closed]
        · simp +decide -dsimp -implicitDefEqProofs [go_sem, h, h', sesR, w]
          have hne : ¬l[i].id = r[i].id ∨ ¬l[i].user = r[i].user ∨ ¬l[i].seat = r[i].seat ∨ ¬l[i].act = r[i].act := by
            apply Classical.byContradiction
            intro hc
            simp only [not_or, Classical.not_not] at hc
            obtain ⟨c1, c2, c3, c4⟩ := hc
            apply he
            cases hL : l[i]; cases hR : r[i]
            rw [hL, hR] at c1 c2 c3 c4
            simp_all
          rw [if_pos hne]
          intro e; apply he; simp [e]
      · have e1 := hi.2
        rw [show i = l.length by omega, List.take_length, hlen, List.take_length] at e1
        subst e1
        simp +decide -dsimp -implicitDefEqProofs [go_sem, h]
    · have : l ≠ r := fun e => hlen (by rw [e])
      simp +decide -dsimp -implicitDefEqProofs [go_sem, hn, this]
      intro h; exact absurd (Int.ofNat.inj h) hlen
  · simp +decide -dsimp -implicitDefEqProofs [go_sem, hn]
end Go.Ab
