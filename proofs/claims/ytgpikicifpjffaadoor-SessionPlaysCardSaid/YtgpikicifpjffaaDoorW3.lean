/- A layer of abstract values over the model, and what is proved with it: part W3. -/
import Derived.Test.YtgpikicifpjffaaDoorW2
import Derived.Test.YtgpikicifpjffaaDoorW1
namespace Go.Ab
open Go Go.Proofs
theorem fold_bd (v : Int) (n : Int) (h : 1 ≤ n) : 0 ≤ fold v n ∧ fold v n < n := by
  unfold fold
  by_cases h1 : n ≤ 1
  · rw [if_pos h1]; omega
  have := tmod_bd v n (by omega)
  rw [if_neg h1]; split <;> omega
def oneS (ss : List (List UInt8)) (v : Int) : List UInt8 := (ss[(fold v ss.length).toNat]?).getD []
theorem oneS_mem {ss : List (List UInt8)} (v : Int) (h : ss ≠ []) : oneS ss v ∈ ss := by
  have hl : 1 ≤ ss.length := List.length_pos_iff.2 h
  have := fold_bd v ss.length (by omega)
  have h2 : (fold v ss.length).toNat < ss.length := by omega
  simp only [oneS, List.getElem?_eq_getElem h2, Option.getD_some]
  exact List.getElem_mem h2

theorem tape_closed (m : Nat) (l : List Int) : closedLL m (l.map fun v => [AV.int .i64 v]) = true := closedLL_map fun _ _ => rfl
theorem tape_ren (is : List Nat) (l : List Int) : renLL is (l.map fun v => [AV.int .i64 v]) = l.map fun v => [AV.int .i64 v] := by
  induction l with
  | nil => rfl
  | cons x r ih => simp [renLL, ih, renL, ren]
theorem tapeO_ren (is : List Nat) (l : List Int) (k : Nat) : renO is (tapeO l k) = tapeO l k := by simp [tapeO, renO, renL, ren, tape_ren]

theorem One_c (t : List Int) (k : Nat) (ss : List (List UInt8)) (hk : k < 1000000000) (h0 : ss ≠ []) (hs : ss.length < 1000000000) :
    ACalls Tryd.prog 12 [.ptr 0 0, strsV ss] [tapeO t k] (.str (oneS ss (tapeV t k))) [tapeO t (k + 1)] := by
  refine acalls_F c12_ok rfl ?_
  unfold c12
  have hn := Next_c t k ss.length hk (by omega)
  have hl : 1 ≤ ss.length := List.length_pos_iff.2 h0
  have hb := fold_bd (tapeV t k) ss.length (by omega)
  have h2 : (fold (tapeV t k) ss.length).toNat < ss.length := by omega
  have e : oneS ss (tapeV t k) = ss[(fold (tapeV t k) ss.length).toNat] := by simp [oneS, h2]
  have hne : ((ss.length : Int) == 0) = false := by simp; exact h0
  unfold strsV
  simp +decide -dsimp -implicitDefEqProofs [go_sem, hne]
  refine callE_frame [0] hn rfl rfl (by simp) (by simp [go_sem]) (by simp [tapeO_ren]) ?_
  simp +decide -dsimp -implicitDefEqProofs [go_sem, h2, hb.1, e, tapeO, tape_ren]

def fewR (l : List Ses) (av : AV) (H' : List AObj) : Prop := H' = [] ∧ ∃ b : Bool, (b = true → l.length ≤ 60) ∧ av = .bool b
set_option maxRecDepth 20000 in
theorem few_c (n : Int) (l : List Ses) (hl : l.length < 9223372036854775807) : ∃ b : Bool, (b = true → l.length ≤ 60) ∧ ACalls Tryd.prog 17 [ssV n l] [] (.bool b) [] := by
  have := acalls_E (xs := [ssV n l]) (H := []) (fewR l) 0 c17_ok (by
    unfold c17 ssV sesL
    simp +decide -dsimp -implicitDefEqProofs [go_sem]
    refine loop_of (S := Nat × Int) (fun s => ⟨tmps 37 [(1, .ptr 0 0), (3, .int .i64 s.2), (4, .int .i64 s.1)], [.box [.int .i64 n, .imm (l.map sesR)]]⟩) (fun s => l.length - s.1) (fun s => s.1 ≤ l.length) (0, 0) (by simp) (cut_of (by simp) ?_) ?_
    · simp +decide -dsimp -implicitDefEqProofs [go_sem]
    rintro ⟨i, z⟩ hi
    simp only at hi
    by_cases h : i < l.length
    · have w : IntKind.i64.wrap ((i : Int) + 1) = i + 1 := w64 (by omega) (by omega)
      simp +decide -dsimp -implicitDefEqProofs [go_sem, h, sesR, w]
      refine next_of (i + 1, IntKind.i64.wrap (z + IntKind.i64.wrap ((l[i].user.length : Int) + l[i].seat.length))) (by simp only; omega) (by simp only; omega) (cut_of (by simp) ?_)
      simp +decide -dsimp -implicitDefEqProofs [go_sem]
    · by_cases h1 : z ≤ 4000
      · by_cases h2 : (l.length : Int) ≤ 60
        · simp +decide -dsimp -implicitDefEqProofs [go_sem, h, h1, h2]
          refine end_of (.bool true) [] ⟨rfl, true, fun _ => by omega, rfl⟩ rfl ?_
          simp +decide -dsimp -implicitDefEqProofs [go_sem]
        · simp +decide -dsimp -implicitDefEqProofs [go_sem, h, h1, h2]
          refine end_of (.bool false) [] ⟨rfl, false, by simp, rfl⟩ rfl ?_
          simp +decide -dsimp -implicitDefEqProofs [go_sem]
      · simp +decide -dsimp -implicitDefEqProofs [go_sem, h, h1]
        refine end_of (.bool false) [] ⟨rfl, false, by simp, rfl⟩ rfl ?_
        simp +decide -dsimp -implicitDefEqProofs [go_sem])
  obtain ⟨av, H', ⟨rfl, b, hb, rfl⟩, hc⟩ := this
  exact ⟨b, hb, hc⟩

set_option maxRecDepth 20000 in
theorem elsewhere_c (n : Int) (l : List Ses) (s : List UInt8) (hl : l.length < 1000000000) : ACalls Tryd.prog 26 [ssV n l, .str s] [] (sesL (l.filter fun x => x.seat != s)) [] := by
  refine acalls_F c26_ok rfl ?_
  unfold c26 ssV sesL
  generalize hp : (fun x : Ses => x.seat != s) = p
  simp +decide -dsimp -implicitDefEqProofs [go_sem]
  refine loop_of (S := Nat) (fun i => ⟨tmps 31 [(1, .str s), (2, .ptr 0 0), (4, .nils), (5, .own 1 (rowsF l p i).length), (6, .int .i64 i)], [.box [.int .i64 n, .imm (l.map sesR)], .reg 33 4 (rowsF l p i)]⟩) (fun i => l.length - i) (fun i => i ≤ l.length) 0 (by simp) ?_ ?_
  · refine .trans (.nilT 5 33 4 rfl (by simp)) (cut_of (by simp) ?_)
    simp +decide -dsimp -implicitDefEqProofs [go_sem, rowsF]
  intro i hi
  have hle := rowsF_le (p := p) hi
  by_cases h : i < l.length
  · have w : IntKind.i64.wrap ((i : Int) + 1) = i + 1 := w64 (by omega) (by omega)
    by_cases hm : l[i].seat = s
    · have e2 := rowsF_no (p := p) h (by rw [← hp]; simpa using hm)
      simp +decide -dsimp -implicitDefEqProofs [go_sem, h, w, sesR, hm]
      refine next_of (i + 1) (by omega) (by omega) (cut_of (by simp) ?_)
      simp +decide -dsimp -implicitDefEqProofs [go_sem, rowsF_closed, e2]
      try simp [sesR, closedLL_map, closedL, closed]
    · have e2 := rowsF_yes (p := p) h (by rw [← hp]; simpa using hm)
      generalize hL : (rowsF l p i).length = L at hle
      have fit : L ≤ 9223372036854775806 ∧ (L + 1) * 48 ≤ 140737488355328 := by omega
      simp only [sesR] at e2
      simp +decide -dsimp -implicitDefEqProofs [go_sem, h, w, sesR, maxLen, fit, hm, hL]
      have e4 : (rowsF l p (i + 1)).length = L + 1 := by rw [← e2]; simp [hL]
      rw [e2]
      refine next_of (i + 1) (by omega) (by omega) (cut_of (by simp) ?_)
      simp +decide -dsimp -implicitDefEqProofs [go_sem, rowsF_closed, e4]
      try simp [sesR, closedLL_map, closedL, closed]
  · have e : i = l.length := by omega
    subst e
    have e3 := rowsF_end l p
    simp +decide -dsimp -implicitDefEqProofs [go_sem, e3]
    try simp
end Go.Ab
namespace Go.Ab
open Go Go.Proofs
/-- Seats as a map. -/
def strKvs (ss : List (List UInt8)) : List (AV × AV) := ss.map fun s => (.str s, .bool true)
theorem strKvs_keys (s : List UInt8) (ss : List (List UInt8)) : keysOk .str (.str s) (strKvs ss) := by
  refine ⟨rfl, fun p hp => ?_⟩
  simp only [strKvs, List.mem_map] at hp
  obtain ⟨x, _, rfl⟩ := hp; rfl
theorem keyB_str (s x : List UInt8) : keyB (.str s) (.str x) = decide (s = x) := by by_cases h : s = x <;> simp [keyB, scalarEq, h]
theorem strKvs_find (s : List UInt8) : ∀ ss : List (List UInt8), (findKv (.str s) (strKvs ss)).getD (.bool false) = .bool (decide (s ∈ ss))
  | [] => rfl
  | x :: r => by
    simp only [strKvs, List.map_cons, findKv, keyB_str]
    by_cases h : s = x
    · simp [h]
    · simp only [h, decide_false, Bool.false_eq_true, if_false]; rw [← strKvs, strKvs_find s r]; simp [h]
def addS (s : List UInt8) : List (List UInt8) → List (List UInt8)
  | [] => [s]
  | x :: r => if s = x then x :: r else x :: addS s r
theorem strKvs_set (s : List UInt8) : ∀ ss : List (List UInt8), setKv (.str s) (.bool true) (strKvs ss) = strKvs (addS s ss)
  | [] => rfl
  | x :: r => by
    simp only [strKvs, List.map_cons, setKv, keyB_str, addS]
    by_cases h : s = x
    · simp [h]
    · simp only [h, decide_false, Bool.false_eq_true, if_false, List.map_cons]; rw [← strKvs, strKvs_set s r, strKvs]
theorem addS_mem (s x : List UInt8) : ∀ ss : List (List UInt8), x ∈ addS s ss ↔ x = s ∨ x ∈ ss
  | [] => by simp [addS]
  | y :: r => by
    simp only [addS]
    by_cases h : s = y
    · subst h; simp
    · simp only [h, if_false, List.mem_cons, addS_mem s x r]; constructor
      · rintro (h | h | h) <;> simp [h]
      · rintro (h | h | h) <;> simp [h]
theorem strKvs_closed (m : Nat) (ss : List (List UInt8)) : ((strKvs ss).all fun p => closed m p.1 && closed m p.2) = true := by
  simp [strKvs, closed]

def seat0 : List UInt8 := [115, 101, 97, 116, 48]
def seat1 : List UInt8 := [115, 101, 97, 116, 49]
def seat2 : List UInt8 := [115, 101, 97, 116, 50]
/-- What holds of sessions that are made. -/
structure Made (n : Int) (l : List Ses) : Prop where
  ids : l.Pairwise fun x y => x.id < y.id
  lo : ∀ x ∈ l, 1 ≤ x.id ∧ x.id < n
  user : ∀ x ∈ l, validB x.user = true
  seat : ∀ x ∈ l, x.seat ∈ [seat0, seat1, seat2]
  act : ∀ x ∈ l, (actIn l x.seat).length = 1
  n1 : 1 ≤ n

theorem Made.nil : Made 1 [] := ⟨.nil, by simp, by simp, by simp, by simp, by simp⟩

theorem Made.add {n : Int} {l : List Ses} (h : Made n l) {d : Int} (hd : 0 ≤ d) {u s : List UInt8} (hu : validB u = true) (hs : s ∈ [seat0, seat1, seat2]) {b : Bool} (hb : b = !decide (∃ x ∈ l, x.seat = s)) : Made (n + d + 1) (l ++ [⟨n + d, u, s, b⟩]) := by
  have hlo := h.lo
  refine ⟨?_, ?_, ?_, ?_, ?_, ?_⟩
  · rw [List.pairwise_append]
    refine ⟨h.ids, List.pairwise_singleton _ _, fun x hx y hy => ?_⟩
    simp at hy; subst hy; have := (hlo x hx).2; simp only; omega
  · intro x hx
    rcases List.mem_append.1 hx with hx | hx
    · have := hlo x hx; omega
    · simp at hx; subst hx; have := h.n1; simp only; omega
  · intro x hx
    rcases List.mem_append.1 hx with hx | hx
    · exact h.user x hx
    · simp at hx; subst hx; exact hu
  · intro x hx
    rcases List.mem_append.1 hx with hx | hx
    · exact h.seat x hx
    · simp at hx; subst hx; exact hs
  · intro x hx
    by_cases he : ∃ y ∈ l, y.seat = s
    · have hb' : b = false := by rw [hb]; simp [he]
      subst hb'
      have e : ∀ z, actIn (l ++ [⟨n + d, u, s, false⟩]) z = actIn l z := fun z => by simp [actIn, List.filter_append]
      rw [e]
      rcases List.mem_append.1 hx with hx | hx
      · exact h.act x hx
      · simp at hx; subst hx
        obtain ⟨y, hy, hys⟩ := he
        simp only; rw [← hys]; exact h.act y hy
    · have hb' : b = true := by rw [hb]; simp [he]
      subst hb'
      have hno : ∀ y ∈ l, y.seat ≠ s := fun y hy e => he ⟨y, hy, e⟩
      rcases List.mem_append.1 hx with hx | hx
      · have : actIn (l ++ [⟨n + d, u, s, true⟩]) x.seat = actIn l x.seat := by
          have hne : ¬ s = x.seat := fun e => hno x hx e.symm
          simp [actIn, List.filter_append, hne]
        rw [this]; exact h.act x hx
      · simp at hx; subst hx
        have : actIn l s = [] := by
          rw [actIn, List.filter_eq_nil_iff]; intro y hy; simp [hno y hy]
        simp only [actIn, List.filter_append] at this ⊢
        rw [this]; simp
  · have := h.n1; omega

theorem ids_inj {l : List Ses} (h : l.Pairwise fun x y => x.id < y.id) {i j : Nat} (hi : i < l.length) (hj : j < l.length) (e : l[i].id = l[j].id) : i = j := by
  rw [List.pairwise_iff_getElem] at h
  rcases Nat.lt_trichotomy i j with h1 | h1 | h1
  · have := h i j hi hj h1; omega
  · exact h1
  · have := h j i hj hi h1; omega
theorem ids_eq {l : List Ses} (h : l.Pairwise fun x y => x.id < y.id) {x y : Ses} (hx : x ∈ l) (hy : y ∈ l) (e : x.id = y.id) : x = y := by
  obtain ⟨i, hi, rfl⟩ := List.getElem_of_mem hx
  obtain ⟨j, hj, rfl⟩ := List.getElem_of_mem hy
  have := ids_inj h hi hj e
  subst this; rfl

/-- As Made, but for what is active at one seat. -/
structure Semi (n : Int) (l : List Ses) (s : List UInt8) : Prop where
  ids : l.Pairwise fun x y => x.id < y.id
  lo : ∀ x ∈ l, 1 ≤ x.id ∧ x.id < n
  user : ∀ x ∈ l, validB x.user = true
  seat : ∀ x ∈ l, x.seat ∈ [seat0, seat1, seat2]
  act : ∀ x ∈ l, x.seat ≠ s → (actIn l x.seat).length = 1
  n1 : 1 ≤ n
theorem Made.semi {n : Int} {l : List Ses} (h : Made n l) (s : List UInt8) : Semi n l s := ⟨h.ids, h.lo, h.user, h.seat, fun x hx _ => h.act x hx, h.n1⟩

@[simp] theorem turnS_id (s : List UInt8) (i : Int) (x : Ses) : (turnS s i x).id = x.id := by unfold turnS; split <;> rfl
@[simp] theorem turnS_user (s : List UInt8) (i : Int) (x : Ses) : (turnS s i x).user = x.user := by unfold turnS; split <;> rfl
@[simp] theorem turnS_seat (s : List UInt8) (i : Int) (x : Ses) : (turnS s i x).seat = x.seat := by unfold turnS; split <;> rfl
theorem turnS_act_of {s : List UInt8} {i : Int} {x : Ses} (h : x.seat = s) : (turnS s i x).act = (x.id == i) := by simp [turnS, h]
theorem turnS_other {s : List UInt8} {i : Int} {x : Ses} (h : x.seat ≠ s) : turnS s i x = x := by simp [turnS, h]
theorem actIn_turn_other {l : List Ses} {s z : List UInt8} {i : Int} (h : z ≠ s) : actIn (l.map (turnS s i)) z = actIn l z := by
  induction l with
  | nil => rfl
  | cons x r ih =>
    simp only [actIn] at ih
    simp only [actIn, List.map_cons, List.filter_cons, turnS_seat, ih]
    by_cases hx : x.seat = z
    · rw [turnS_other (by rw [hx]; exact h)]
    · simp [hx]
theorem actIn_turn_self {l : List Ses} {s : List UInt8} {i : Int} (hp : l.Pairwise fun x y => x.id < y.id) (h : ∃ y ∈ l, y.seat = s ∧ y.id = i) : (actIn (l.map (turnS s i)) s).length = 1 := by
  obtain ⟨y, hy, hs, hi⟩ := h
  have e : ∀ r : List Ses, (actIn (r.map (turnS s i)) s).length = (r.filter fun x => x.seat == s && x.id == i).length := by
    intro r
    induction r with
    | nil => rfl
    | cons x r ih =>
      simp only [actIn] at ih
      simp only [actIn, List.map_cons, List.filter_cons, turnS_seat]
      by_cases hx : x.seat = s
      · by_cases hid : x.id = i
        · simp [hx, hid, turnS_act_of hx, ih]
        · simp [hx, hid, turnS_act_of hx, ih]
      · simp [hx, ih]
  rw [e]
  have hf : (l.filter fun x => x.seat == s && x.id == i) = [y] := by
    clear e
    induction l with
    | nil => simp at hy
    | cons x r ih =>
      rw [List.pairwise_cons] at hp
      rcases List.mem_cons.1 hy with rfl | hyr
      · have : (r.filter fun x => x.seat == s && x.id == i) = [] := by
          rw [List.filter_eq_nil_iff]; intro z hz; have := hp.1 z hz
          have : ¬ z.id = i := by omega
          simp [this]
        simp [hs, hi, this]
      · have hne : ¬ x.id = i := by have := hp.1 y hyr; omega
        simp only [List.filter_cons]
        rw [ih hp.2 hyr]; simp [hne]
  rw [hf]; rfl
theorem Semi.turn {n : Int} {l : List Ses} {s : List UInt8} {i : Int} (h : Semi n l s) (hi : ∀ x ∈ l, x.seat = s → ∃ y ∈ l, y.seat = s ∧ y.id = i) : Made n (l.map (turnS s i)) := by
  refine ⟨?_, ?_, ?_, ?_, ?_, h.n1⟩
  · rw [List.pairwise_map]; simpa using h.ids
  · intro x hx; obtain ⟨y, hy, rfl⟩ := List.mem_map.1 hx; simpa using h.lo y hy
  · intro x hx; obtain ⟨y, hy, rfl⟩ := List.mem_map.1 hx; simpa using h.user y hy
  · intro x hx; obtain ⟨y, hy, rfl⟩ := List.mem_map.1 hx; rw [turnS_seat]; exact h.seat y hy
  · intro x hx; obtain ⟨y, hy, rfl⟩ := List.mem_map.1 hx
    rw [turnS_seat]
    by_cases hs : y.seat = s
    · rw [hs]; exact actIn_turn_self h.ids (hi y hy hs)
    · rw [actIn_turn_other hs]; exact h.act y hy hs

/-- The one active of a seat. -/
theorem Made.one {n : Int} {l : List Ses} (h : Made n l) {x y : Ses} (hx : x ∈ l) (hy : y ∈ l) (hs : x.seat = y.seat) (ax : x.act = true) (ay : y.act = true) : x = y := by
  have h1 := h.act x hx
  obtain ⟨z, hz⟩ := List.length_eq_one_iff.1 h1
  have mx : x ∈ actIn l x.seat := by simp [actIn, hx, ax]
  have my : y ∈ actIn l x.seat := by simp [actIn, hy, ay, hs]
  rw [hz] at mx my
  simp at mx my
  rw [mx, my]
theorem ses_eta {x : Ses} {s : List UInt8} (h : x.seat = s) (ha : x.act = false) : x = ⟨x.id, x.user, s, false⟩ := by
  cases x; simp only at h ha; subst h ha; rfl
theorem turn_move {n : Int} {l : List Ses} (h : Made n l) {i j : Nat} (hi : i < l.length) (hj : j < l.length) (ha : l[i].act = true) (hs : l[j].seat = l[i].seat)
    {l1 : List Ses} (h1 : l1 = l.set i { l[i] with act := false }) (hj1 : j < l1.length) : l1.set j { l1[j] with act := true } = l.map (turnS l[i].seat l[j].id) := by
  subst h1
  refine List.ext_getElem (by simp) fun p hp1 hp2 => ?_
  have hp : p < l.length := by simpa using hp2
  rw [List.getElem_map]
  by_cases hpj : j = p
  · subst hpj
    rw [List.getElem_set_self]
    by_cases hij : i = j
    · subst hij; simp [turnS]
    · simp [List.getElem_set_ne hij, turnS, hs]
  · rw [List.getElem_set_ne hpj]
    by_cases hip : i = p
    · subst hip
      rw [List.getElem_set_self]
      have : ¬ l[i].id = l[j].id := fun e => hpj (ids_inj h.ids hi hj e).symm
      simp [turnS, this]
    · rw [List.getElem_set_ne hip]
      by_cases hps : l[p].seat = l[i].seat
      · have hna : l[p].act = false := by
          cases hpa : l[p].act with
          | false => rfl
          | true =>
            have := h.one (List.getElem_mem hp) (List.getElem_mem hi) hps hpa ha
            exact absurd (ids_inj h.ids hp hi (by rw [this])).symm hip
        have : ¬ l[p].id = l[j].id := fun e => hpj (ids_inj h.ids hp hj e).symm
        simp only [turnS, hps, if_true]
        have hb : (l[p].id == l[j].id) = false := by simpa using this
        rw [hb]; exact ses_eta hps hna
      · rw [turnS_other hps]
theorem Made.move {n : Int} {l : List Ses} (h : Made n l) {i j : Nat} (hi : i < l.length) (hj : j < l.length) (ha : l[i].act = true) (hs : l[j].seat = l[i].seat)
    {l1 : List Ses} (h1 : l1 = l.set i { l[i] with act := false }) (hj1 : j < l1.length) : Made n (l1.set j { l1[j] with act := true }) := by
  rw [turn_move h hi hj ha hs h1 hj1]
  exact (h.semi _).turn fun x hx _ => ⟨_, List.getElem_mem hj, hs, rfl⟩
end Go.Ab
namespace Go.Ab
open Go Go.Proofs
/-- What making sessions gives. -/
def madeR (t : List Int) (k : Nat) (av : AV) (H' : List AObj) : Prop := ∃ (n : Int) (l : List Ses) (k' : Nat), Made n l ∧ l.length ≤ 32 ∧ n ≤ 65 ∧ k' ≤ k + 1200 ∧ av = ssV n l ∧ H' = [tapeO t k']
def usersL : List (List UInt8) := [[97, 110, 110], [98, 111, 98], [101, 118, 101]]
def seatsL : List (List UInt8) := [seat0, seat1, seat2]

def stL1 (t : List Int) (N : Int) (s : Nat × Nat × Int × List Ses × List (List UInt8)) : St :=
  ⟨tmps 110 [(0, .ptr 0 0), (2, .ptr 1 0), (3, .ptr 2 0), (4, .int .i64 N), (5, .map 3), (6, .int .i64 s.1)], [tapeO t s.2.1, .box [.int .i64 0, .nils], .box [.int .i64 s.2.2.1, .own 4 s.2.2.2.1.length], .map (strKvs s.2.2.2.2), .reg 33 4 (s.2.2.2.1.map sesR)]⟩
def stL2 (t : List Int) (n : Int) (m : Nat) (ss : List (List UInt8)) (s : Nat × Nat × List Ses) : St :=
  ⟨tmps 110 [(0, .ptr 0 0), (2, .ptr 1 0), (3, .ptr 2 0), (61, .int .i64 m), (62, .int .i64 s.1)], [tapeO t s.2.1, .box [.int .i64 0, .nils], .box [.int .i64 n, .own 4 m], .map (strKvs ss), .reg 33 4 (s.2.2.map sesR)]⟩
def stL3 (t : List Int) (n : Int) (m a : Nat) (ss : List (List UInt8)) (s : Nat × Nat × List Ses) : St :=
  ⟨tmps 110 [(0, .ptr 0 0), (2, .ptr 1 0), (3, .ptr 2 0), (8, .int .i64 a), (61, .int .i64 m), (62, .int .i64 a), (67, .int .i64 m), (68, .int .i64 s.1)], [tapeO t s.2.1, .box [.int .i64 0, .nils], .box [.int .i64 n, .own 4 m], .map (strKvs ss), .reg 33 4 (s.2.2.map sesR)]⟩
set_option maxHeartbeats 2000000 in
set_option maxRecDepth 20000 in
theorem Sessions_c (t : List Int) (k : Nat) (hk : k < 900000000) : ∃ av H', madeR t k av H' ∧ ACalls Tryd.prog 11 [.ptr 0 0] [tapeO t k] av H' := by
  refine acalls_E (madeR t k) 0 c11_ok ?_
  unfold c11
  simp +decide -dsimp -implicitDefEqProofs [go_sem]
  refine callE_frame [0] (Next_c t k 8 (by omega) (by omega)) rfl rfl (by simp) (by simp [go_sem]) (by simp [tapeO_ren]) ?_
  have b8 := fold_bd (tapeV t k) 8 (by omega)
  generalize fold (tapeV t k) 8 = v8 at b8
  simp +decide -dsimp -implicitDefEqProofs [go_sem, tapeO_ren]
  refine callE_frame [0] (Next_c t (k + 1) 20 (by omega) (by omega)) rfl rfl (by simp) (by simp [go_sem]) (by simp [tapeO_ren]) ?_
  generalize fold (tapeV t (k + 1)) 20 = v20
  by_cases h20 : v20 = 0
  simp +decide -dsimp -implicitDefEqProofs [go_sem, tapeO_ren, h20]
  refine callE_frame [0] (Next_c t (k + 1 + 1) 2 (by omega) (by omega)) rfl rfl (by simp) (by simp [go_sem]) (by simp [tapeO_ren]) ?_
  have b2 := fold_bd (tapeV t (k + 1 + 1)) 2 (by omega)
  generalize fold (tapeV t (k + 1 + 1)) 2 = v2 at b2
  obtain ⟨N, hN, hN2⟩ : ∃ N : Nat, IntKind.i64.wrap (32 - v2) = N ∧ N ≤ 32 := ⟨(32 - v2).toNat, by rw [w64 (by omega) (by omega)]; omega, by omega⟩
  obtain ⟨k1, hk1, hk2⟩ : ∃ k1, k1 = k + 1 + 1 + 1 ∧ k1 ≤ k + 3 := ⟨_, rfl, by omega⟩
  rw [← hk1]
  simp +decide -dsimp -implicitDefEqProofs [go_sem, tapeO_ren, hN]
  rotate_left
  obtain ⟨N, hN, hN2⟩ : ∃ N : Nat, v8 = N ∧ N ≤ 32 := ⟨v8.toNat, by omega, by omega⟩
  obtain ⟨k1, hk1, hk2⟩ : ∃ k1, k1 = k + 1 + 1 ∧ k1 ≤ k + 3 := ⟨_, rfl, by omega⟩
  rw [← hk1]
  simp +decide -dsimp -implicitDefEqProofs [go_sem, tapeO_ren, hN, h20]
  all_goals
    refine loop_of (S := Nat × Nat × Int × List Ses × List (List UInt8)) (stL1 t N) (fun s => N - s.1) (fun s => s.1 ≤ N ∧ s.2.1 = k1 + 3 * s.1 ∧ Made s.2.2.1 s.2.2.2.1 ∧ s.2.2.2.1.length = s.1 ∧ s.2.2.1 ≤ 1 + 2 * s.1 ∧ ∀ z, z ∈ s.2.2.2.2 ↔ ∃ x ∈ s.2.2.2.1, x.seat = z) (0, k1, 1, [], []) ⟨by simp, by simp, .nil, rfl, by simp, by simp⟩ ?_ ?_
    · refine .trans (.nilB 2 1 33 4 rfl rfl (by simp)) (cut_of (by simp) ?_)
      simp +decide -dsimp -implicitDefEqProofs [go_sem, strKvs, tapeO]
    rintro ⟨i, q, n, l, ss⟩ ⟨hi, hq, hm, hl, hn, hss⟩
    simp only at hi hq hm hl hn hss
    have hm1 := hm.n1
    unfold stL1
    by_cases h : i < N
    · have h' : (i : Int) < N := by omega
      have w : IntKind.i64.wrap ((i : Int) + 1) = i + 1 := w64 (by omega) (by omega)
      simp +decide -dsimp -implicitDefEqProofs [go_sem, h']
      refine callDE_frame [0] (Next_c t q 2 (by omega) (by omega)) rfl rfl (by simp) (by simp [go_sem]) (by simp [tapeO_ren]) ?_
      have b2 := fold_bd (tapeV t q) 2 (by omega)
      generalize fold (tapeV t q) 2 = d at b2
      have w1 : IntKind.i64.wrap (n + d) = n + d := w64 (by omega) (by omega)
      simp +decide -dsimp -implicitDefEqProofs [go_sem, tapeO_ren, w1]
      refine callDE_frame [0] (One_c t (q + 1) usersL (by omega) (by decide) (by decide)) rfl rfl (by simp) (by rfl) (by simp [tapeO_ren]) ?_
      have hu : validB (oneS usersL (tapeV t (q + 1))) = true := by
        have := oneS_mem (tapeV t (q + 1)) (show usersL ≠ [] by decide)
        revert this; generalize oneS usersL (tapeV t (q + 1)) = u
        intro hu; simp only [usersL, List.mem_cons, List.mem_nil_iff, or_false] at hu
        rcases hu with rfl | rfl | rfl <;> decide +kernel
      generalize oneS usersL (tapeV t (q + 1)) = u at hu
      simp +decide -dsimp -implicitDefEqProofs [go_sem, tapeO_ren]
      refine callDE_frame [0] (One_c t (q + 1 + 1) seatsL (by omega) (by decide) (by decide)) rfl rfl (by simp) (by rfl) (by simp [tapeO_ren]) ?_
      have hs : oneS seatsL (tapeV t (q + 1 + 1)) ∈ [seat0, seat1, seat2] := oneS_mem (tapeV t (q + 1 + 1)) (show seatsL ≠ [] by decide)
      generalize oneS seatsL (tapeV t (q + 1 + 1)) = z at hs
      simp +decide -dsimp -implicitDefEqProofs [go_sem, tapeO_ren, strKvs_keys, strKvs_find, strKvs_set]
      have w2 : IntKind.i64.wrap (n + d + 1) = n + d + 1 := w64 (by omega) (by omega)
      have m1 : l.length + 1 ≤ maxLen := by simp only [maxLen]; omega
      have m2 : (l.length + 1) * 48 ≤ 140737488355328 := by omega
      refine ⟨⟨m1, m2⟩, ?_⟩
      refine next_of (i + 1, q + 1 + 1 + 1, n + d + 1, l ++ [⟨n + d, u, z, !decide (z ∈ ss)⟩], addS z ss) ⟨by simp only; omega, by simp only; omega, hm.add b2.1 hu hs (by simp only [hss]), by simp [hl], by simp only; omega, fun y => ?_⟩ (by simp only; omega) (cut_of (by simp) ?_)
      · simp only [addS_mem, hss, List.mem_append, List.mem_singleton]
        constructor
        · rintro (rfl | ⟨x, h1, h2⟩)
          · exact ⟨_, .inr rfl, rfl⟩
          · exact ⟨x, .inl h1, h2⟩
        · rintro ⟨x, h1 | rfl, h2⟩
          · exact .inr ⟨x, h1, h2⟩
          · exact .inl h2.symm
      · simp +decide -dsimp -implicitDefEqProofs [go_sem, w, w2, sesR, tapeO, strKvs_closed]
    · have e : i = N := by omega
      subst e
      simp +decide -dsimp -implicitDefEqProofs [go_sem]
      refine loop_of (S := Nat × Nat × List Ses) (stL2 t n i ss) (fun s => i - s.1) (fun s => s.1 ≤ i ∧ s.2.1 ≤ q + 32 * s.1 ∧ Made n s.2.2 ∧ s.2.2.length = i) (0, q, l) ⟨by simp, by simp, hm, hl⟩ (cut_of (by simp) ?_) ?_
      · simp +decide -dsimp -implicitDefEqProofs [go_sem, tapeO, strKvs_closed, hl]
      clear hm hl hss
      rintro ⟨a, q1, l⟩ ⟨ha, hq1, hm, hl⟩
      simp only at ha hq1 hm hl
      unfold stL2
      by_cases hb : a < i
      · have hb' : (a : Int) < i := by omega
        have wa : IntKind.i64.wrap ((a : Int) + 1) = a + 1 := w64 (by omega) (by omega)
        simp +decide -dsimp -implicitDefEqProofs [go_sem, hb', hl]
        refine loop_of (S := Nat × Nat × List Ses) (stL3 t n i a ss) (fun s => i - s.1) (fun s => s.1 ≤ i ∧ s.2.1 ≤ q + 32 * a + s.1 ∧ Made n s.2.2 ∧ s.2.2.length = i) (0, q1, l) ⟨by simp, by simp only; omega, hm, hl⟩ (cut_of (by simp) ?_) ?_
        · simp +decide -dsimp -implicitDefEqProofs [go_sem, tapeO, strKvs_closed]
        clear hm hl
        rintro ⟨b, q2, l⟩ ⟨hbi, hq2, hm, hl⟩
        simp only at hbi hq2 hm hl
        unfold stL3
        by_cases hc : b < i
        · have hc' : (b : Int) < i := by omega
          have wb : IntKind.i64.wrap ((b : Int) + 1) = b + 1 := w64 (by omega) (by omega)
          have la : a < l.length := by omega
          have lb : b < l.length := by omega
          by_cases g1 : l[a].act = true
          · by_cases g2 : l[b].seat = l[a].seat
            · simp +decide -dsimp -implicitDefEqProofs [go_sem, hc', hl, hb, hc, sesR, g1, g2]
              refine callDE_frame [0] (Next_c t q2 3 (by omega) (by omega)) rfl rfl (by simp) (by simp [go_sem]) (by simp [tapeO_ren]) ?_
              by_cases g3 : fold (tapeV t q2) 3 = 0
              · obtain ⟨L1, hL1⟩ : ∃ L1, L1 = l.set a { l[a] with act := false } := ⟨_, rfl⟩
                have lb1 : b < L1.length := by rw [hL1]; simpa using lb
                have hl1 : L1.length = i := by rw [hL1]; simpa using hl
                have E1 : (l.map sesR).set a [.int .i64 l[a].id, .str l[a].user, .str l[a].seat, .bool false] = L1.map sesR := by rw [hL1, List.map_set]; rfl
                obtain ⟨L2, hL2⟩ : ∃ L2, L2 = L1.set b { L1[b] with act := true } := ⟨_, rfl⟩
                have E2 : (L1.map sesR).set b [.int .i64 L1[b].id, .str L1[b].user, .str L1[b].seat, .bool true] = L2.map sesR := by rw [hL2, List.map_set]; rfl
                have hM2 : Made n L2 := by rw [hL2]; exact hm.move la lb g1 g2 hL1 lb1
                have hl2 : L2.length = i := by rw [hL2]; simpa using hl1
                simp +decide -dsimp -implicitDefEqProofs [go_sem, tapeO_ren, g3, hl, hb, hc, sesR, E1, E2, hl1]
                refine next_of (b + 1, q2 + 1, L2) ⟨by simp only; omega, by simp only; omega, hM2, hl2⟩ (by simp only; omega) (cut_of (by simp) ?_)
                simp +decide -dsimp -implicitDefEqProofs [go_sem, tapeO, strKvs_closed, wb]
              · simp +decide -dsimp -implicitDefEqProofs [go_sem, tapeO_ren, g3, wb]
                refine next_of (b + 1, q2 + 1, l) ⟨by simp only; omega, by simp only; omega, hm, hl⟩ (by simp only; omega) (cut_of (by simp) ?_)
                simp +decide -dsimp -implicitDefEqProofs [go_sem, tapeO, strKvs_closed]
            · simp +decide -dsimp -implicitDefEqProofs [go_sem, hc', hl, hb, hc, sesR, g1, g2, wb]
              refine next_of (b + 1, q2, l) ⟨by simp only; omega, by simp only; omega, hm, hl⟩ (by simp only; omega) (cut_of (by simp) ?_)
              simp +decide -dsimp -implicitDefEqProofs [go_sem, tapeO, strKvs_closed]
          · simp +decide -dsimp -implicitDefEqProofs [go_sem, hc', hl, hb, sesR, g1, wb]
            refine next_of (b + 1, q2, l) ⟨by simp only; omega, by simp only; omega, hm, hl⟩ (by simp only; omega) (cut_of (by simp) ?_)
            simp +decide -dsimp -implicitDefEqProofs [go_sem, tapeO, strKvs_closed]
        · have e : b = i := by omega
          subst e
          simp +decide -dsimp -implicitDefEqProofs [go_sem, wa]
          refine next_of (a + 1, q2, l) ⟨by simp only; omega, by simp only; omega, hm, hl⟩ (by simp only; omega) (cut_of (by simp) ?_)
          simp +decide -dsimp -implicitDefEqProofs [go_sem, tapeO, strKvs_closed]
      · have e : a = i := by omega
        subst e
        simp +decide -dsimp -implicitDefEqProofs [go_sem]
        refine end_of (ssV n l) [tapeO t q1] ⟨n, l, q1, hm, by omega, by omega, by omega, rfl, rfl⟩ rfl ?_
        simp +decide -dsimp -implicitDefEqProofs [go_sem, ssV, sesL, tapeO, hl]
end Go.Ab
namespace Go.Ab
open Go Go.Proofs
def seat0' := seat0
/-- Closing, activating, switching, as plain functions. -/
def closeR (l : List Ses) (i : Int) : Option (List Ses) := match l.find? (·.id == i) with
  | some x => (match x.act, ofS (l.filter (·.id != i)) x.seat with
    | true, y :: _ => some ((l.filter (·.id != i)).map (turnS x.seat y.id))
    | _, _ => some (l.filter (·.id != i)))
  | none => none
def errV : AV := .tup [ssV 0 [], .int .i64 373]
def okV (n : Int) (l : List Ses) : AV := .tup [ssV n l, .int .i64 0]
def resV (n : Int) : Option (List Ses) → AV
  | some l => okV n l
  | none => errV
theorem closeS_R (n : Int) (l : List Ses) (i : Int) : closeS n l i = resV n (closeR l i) := by
  unfold closeS closeR
  cases l.find? (·.id == i) with
  | none => rfl
  | some x =>
    simp only
    cases x.act with
    | false => rfl
    | true => cases ofS (l.filter (·.id != i)) x.seat <;> rfl
def actR (l : List Ses) (i : Int) : Option (List Ses) := match l.find? (·.id == i) with
  | some x => some (l.map (turnS x.seat i))
  | none => none
theorem actS_R (n : Int) (l : List Ses) (i : Int) : actS n l i = resV n (actR l i) := by
  unfold actS actR
  cases l.find? (·.id == i) <;> rfl

theorem ofS_mem {l : List Ses} {s : List UInt8} {x : Ses} : x ∈ ofS l s ↔ x ∈ l ∧ x.seat = s := by simp [ofS]
theorem Made.ofS_ids {n : Int} {l : List Ses} (h : Made n l) (s : List UInt8) : (ofS l s).Pairwise fun x y => x.id < y.id := h.ids.filter _
theorem turnS_none {l : List Ses} {s : List UInt8} {i : Int} (h : ofS l s = []) : l.map (turnS s i) = l := by
  refine (List.map_congr_left fun x hx => turnS_other fun e => ?_).trans (List.map_id' l)
  have : x ∈ ofS l s := ofS_mem.2 ⟨hx, e⟩
  rw [h] at this; cases this

theorem leastS_of (l : List Ses) (s : List UInt8) (a : Int) : leastS l s a = match (ofS l s).find? (fun x => decide (x.id > a)) with | some x => x.id | none => 0 := by
  have e : l.find? (fun x => x.seat == s && decide (x.id > a)) = (l.filter fun x => x.seat == s).find? (fun x => decide (x.id > a)) := by
    rw [List.find?_filter]; congr 1; funext x; by_cases h : x.seat = s <;> simp [h]
  unfold leastS ofS; rw [e]
  generalize List.find? (fun x => decide (x.id > a)) (List.filter (fun x => x.seat == s) l) = o
  cases o <;> rfl
theorem leastS_zero {l : List Ses} {s : List UInt8} (h : ∀ x ∈ l, 1 ≤ x.id) : leastS l s 0 = match ofS l s with | x :: _ => x.id | [] => 0 := by
  rw [leastS_of]
  cases e : ofS l s with
  | nil => rfl
  | cons x r =>
    have := h x (ofS_mem.1 (by rw [e]; simp)).1
    have h2 : decide (x.id > 0) = true := by simp; omega
    simp [h2]

/-- The reference closes as the program does. -/
theorem close_same {n : Int} {l : List Ses} (h : Made n l) (i : Int) : (match l.find? (·.id == i) with
    | some x => AV.tup [ssV n (if x.act then (l.filter (rCloseRows i)).map (turnS x.seat (leastS (l.filter (rCloseRows i)) x.seat 0)) else l.filter (rCloseRows i)), .int .i64 0]
    | none => .tup [ssV 0 [], .int .i64 373]) = resV n (closeR l i) := by
  unfold closeR
  cases l.find? (·.id == i) with
  | none => rfl
  | some x =>
    have hlo : ∀ y ∈ l.filter (rCloseRows i), 1 ≤ y.id := fun y hy => (h.lo y (List.mem_filter.1 hy).1).1
    have e0 : l.filter (rCloseRows i) = l.filter (·.id != i) := rfl
    simp only
    rw [leastS_zero hlo, e0]
    cases x.act with
    | false => simp [resV, okV]
    | true =>
      cases e : ofS (l.filter (·.id != i)) x.seat with
      | nil => simp only [if_true]; rw [turnS_none e]; rfl
      | cons y r => simp [resV, okV]

theorem Made.filter_semi {n : Int} {l : List Ses} (h : Made n l) {p : Ses → Bool} {s : List UInt8} (hp : ∀ x ∈ l, x.seat ≠ s → x.act = true → p x = true) : Semi n (l.filter p) s := by
  refine ⟨h.ids.filter _, fun x hx => h.lo x (List.mem_filter.1 hx).1, fun x hx => h.user x (List.mem_filter.1 hx).1, fun x hx => h.seat x (List.mem_filter.1 hx).1, fun x hx hs => ?_, h.n1⟩
  have : actIn (l.filter p) x.seat = actIn l x.seat := by
    simp only [actIn, List.filter_filter]
    refine List.filter_congr fun y hy => ?_
    by_cases h1 : y.seat = x.seat
    · by_cases h2 : y.act = true
      · simp [h1, h2, hp y hy (by rw [h1]; exact hs) h2]
      · simp [h2]
    · simp [h1]
  rw [this]; exact h.act x (List.mem_filter.1 hx).1
theorem Made.filter {n : Int} {l : List Ses} (h : Made n l) {p : Ses → Bool} (hp : ∀ x ∈ l, x.act = true → p x = true ∨ ∀ y ∈ l, y.seat = x.seat → p y = false) : Made n (l.filter p) := by
  refine ⟨h.ids.filter _, fun x hx => h.lo x (List.mem_filter.1 hx).1, fun x hx => h.user x (List.mem_filter.1 hx).1, fun x hx => h.seat x (List.mem_filter.1 hx).1, fun x hx => ?_, h.n1⟩
  have : actIn (l.filter p) x.seat = actIn l x.seat := by
    simp only [actIn, List.filter_filter]
    refine List.filter_congr fun y hy => ?_
    by_cases h1 : y.seat = x.seat
    · by_cases h2 : y.act = true
      · rcases hp y hy h2 with h3 | h3
        · simp [h1, h2, h3]
        · have := h3 x (List.mem_filter.1 hx).1 h1.symm
          rw [(List.mem_filter.1 hx).2] at this; cases this
      · simp [h2]
    · simp [h1]
  rw [this]; exact h.act x (List.mem_filter.1 hx).1

theorem Made.close {n : Int} {l l' : List Ses} (h : Made n l) {i : Int} (hc : closeR l i = some l') : Made n l' := by
  unfold closeR at hc
  split at hc
  · rename_i x hx
    have hxl := List.mem_of_find?_eq_some hx
    have hxi : x.id = i := by have := List.find?_some hx; simpa using this
    have only : ∀ y ∈ l, (y.id != i) = false → y = x := fun y hy e => ids_eq h.ids hy hxl (by rw [hxi]; simpa using e)
    have semi : Semi n (l.filter (·.id != i)) x.seat := h.filter_semi fun y hy hs _ => by
      cases e : (y.id != i) with
      | true => rfl
      | false => exact absurd (by rw [only y hy e]) hs
    split at hc
    · rename_i y r ha hr
      cases hc
      refine semi.turn fun z _ _ => ⟨y, ?_, ?_, rfl⟩
      · exact (ofS_mem.1 (show y ∈ ofS (l.filter (·.id != i)) x.seat by rw [hr]; simp)).1
      · exact (ofS_mem.1 (show y ∈ ofS (l.filter (·.id != i)) x.seat by rw [hr]; simp)).2
    · rename_i hno
      cases hc
      refine h.filter fun y hy ha => ?_
      cases e : (y.id != i) with
      | true => exact .inl rfl
      | false =>
        have := only y hy e
        subst this
        refine .inr fun z hz hs => ?_
        cases e2 : (z.id != i) with
        | false => rfl
        | true =>
          have hz2 : z ∈ ofS (l.filter (·.id != i)) y.seat := ofS_mem.2 ⟨List.mem_filter.2 ⟨hz, e2⟩, hs⟩
          cases e3 : ofS (l.filter (·.id != i)) y.seat with
          | nil => rw [e3] at hz2; cases hz2
          | cons w r => exact (hno w r ha e3).elim
  · cases hc
theorem Made.activate {n : Int} {l l' : List Ses} (h : Made n l) {i : Int} (hc : actR l i = some l') : Made n l' := by
  unfold actR at hc
  split at hc
  · rename_i x hx
    cases hc
    exact (h.semi _).turn fun z _ _ => ⟨x, List.mem_of_find?_eq_some hx, rfl, by have := List.find?_some hx; simpa using this⟩
  · cases hc
theorem Made.prune {n : Int} {l : List Ses} (h : Made n l) (seats : List (List UInt8)) : Made n (l.filter fun x => decide (x.seat ∈ seats)) := by
  refine h.filter fun x _ _ => ?_
  by_cases hs : x.seat ∈ seats
  · exact .inl (by simpa using hs)
  · exact .inr fun y _ e => by rw [e]; simpa using hs
theorem Made.check {n : Int} {l : List Ses} (h : Made n l) (hn : n ≤ 1073741824) (hl : l.length ≤ 32) : checkB n l = true := by
  have key : ∀ (r : List Ses) (z : Int), (∀ x ∈ r, z < x.id) → r.Pairwise (fun x y => x.id < y.id) → (∀ x ∈ r, x ∈ l) → okFrom n l z r = true := by
    intro r
    induction r with
    | nil => intros; rfl
    | cons x r ih =>
      intro z hz hp hm
      rw [List.pairwise_cons] at hp
      have hx := hm x (by simp)
      have hs : validB x.seat = true := by
        have := h.seat x hx
        simp only [List.mem_cons, List.mem_nil_iff, or_false] at this
        rcases this with e | e | e <;> rw [e] <;> decide +kernel
      simp only [okFrom, h.user x hx, hs, h.act x hx, ih x.id hp.1 hp.2 fun y hy => hm y (by simp [hy])]
      have h1 := hz x (by simp)
      have h2 := (h.lo x hx).2
      simp [h1, h2]
  have := key l 0 (fun x hx => by have := (h.lo x hx).1; omega) h.ids fun x hx => hx
  simp [checkB, h.n1, hn, hl, this]
end Go.Ab
namespace Go.Ab
open Go Go.Proofs
/-- A nil slice is an empty one. -/
def nw1 (x y : AV) : Prop := x = y ∨ (x = .nils ∧ y = .imm [])
def nwT : List AV → List AV → Prop
  | [], [] => True
  | x :: xs, y :: ys => nw1 x y ∧ nwT xs ys
  | _, _ => False
def nwA (x y : AV) : Prop := match x, y with
  | .agg xs, .agg ys => nwT xs ys
  | x, y => nw1 x y
def nwL : List AV → List AV → Prop
  | [], [] => True
  | x :: xs, y :: ys => nwA x y ∧ nwL xs ys
  | _, _ => False
theorem nw1_val {c : Cx} {x y : AV} {v : Value} (h : nw1 x y) (hv : Val c x v) : Val c y v := by
  rcases h with rfl | ⟨rfl, rfl⟩
  · exact hv
  · simp only [Val] at hv ⊢; subst hv; exact .inr ⟨trivial, none, 0, rfl⟩
theorem nwT_vals {c : Cx} : ∀ {xs ys : List AV} {vs : List Value}, nwT xs ys → Vals c xs vs → Vals c ys vs
  | [], [], _, _, hv => hv
  | _ :: _, _ :: _, _, h, hv => by
    simp only [Vals] at hv ⊢
    obtain ⟨v, vs', h1, h2, h3⟩ := hv
    exact ⟨v, vs', h1, nw1_val h.1 h2, nwT_vals h.2 h3⟩
  | [], _ :: _, _, h, _ => h.elim
  | _ :: _, [], _, h, _ => h.elim
theorem nwA_val {c : Cx} {x y : AV} {v : Value} (h : nwA x y) (hv : Val c x v) : Val c y v := by
  unfold nwA at h
  split at h
  · simp only [Val] at hv ⊢
    obtain ⟨vs, h1, h2, h3⟩ := hv
    exact ⟨vs, h1, nwT_vals h h2, h3⟩
  · exact nw1_val h hv
theorem nwL_vals {c : Cx} : ∀ {xs ys : List AV} {vs : List Value}, nwL xs ys → Vals c xs vs → Vals c ys vs
  | [], [], _, _, hv => hv
  | _ :: _, _ :: _, _, h, hv => by
    simp only [Vals] at hv ⊢
    obtain ⟨v, vs', h1, h2, h3⟩ := hv
    exact ⟨v, vs', h1, nwA_val h.1 h2, nwL_vals h.2 h3⟩
  | [], _ :: _, _, h, _ => h.elim
  | _ :: _, [], _, h, _ => h.elim
theorem ACalls.nw {P : Program} {f : Nat} {xs ys : List AV} {H H' : List AObj} {av : AV} (h : ACalls P f ys H av H') (hx : nwL xs ys) : ACalls P f xs H av H' :=
  ⟨h.1, fun c vs hH hr hv => h.2 c vs hH hr (nwL_vals hx hv)⟩
theorem callE_nw {P : Program} {f : Nat} {ys xs : List AV} {av : AV} {H : List AObj} {K : List AObj → AV → Prop} {u : TagOf K} (h : ACalls P f ys [] av []) (hx : nwL xs ys) (ha : closedL 0 xs = true) (hv : closed 0 av = true) (hK : K H av) : callE P f xs H K u :=
  callE_pure (h.nw hx) ha hv hK

theorem openG_ok {b : Bool} {n : Int} {l : List Ses} {user seat : List UInt8} {seats : List (List UInt8)} (h1 : validB user = true) (h2 : validB seat = true) (h3 : seat ∈ seats) (h4 : l.length < 32) (h5 : n < 1073741824) :
    openG b n l user seat seats = .tup [ssV (n + 1) (l ++ [⟨n, user, seat, b⟩]), .int .i64 n, .int .i64 0] := by
  unfold openG
  rw [if_neg (by simp [h1]), if_neg (by simp [h2, h3]), if_neg (by omega)]
def ann : List UInt8 := [97, 110, 110]
def bob : List UInt8 := [98, 111, 98]
theorem v_ann : validB ann = true := by decide +kernel
theorem v_bob : validB bob = true := by decide +kernel
theorem v_seat0 : validB seat0 = true := by decide +kernel
def kn1 : List Ses := [⟨1, ann, seat0, true⟩]
def kn2 : List Ses := [⟨1, ann, seat0, true⟩, ⟨2, bob, seat0, false⟩]
def kn3 : List Ses := [⟨1, ann, seat0, false⟩, ⟨2, bob, seat0, true⟩]

set_option maxRecDepth 20000 in
theorem known_c : ACalls Tryd.prog 15 [] [] (.bool true) [] := by
  refine acalls_F c15_ok rfl ?_
  unfold c15
  have hs : ∀ z : List UInt8, closedL 0 [strsV [z]] = true := fun z => by simp [closedL, strsV_closed]
  simp +decide -dsimp -implicitDefEqProofs [go_sem]
  have o1 := Open_c 1 [] ann seat0 [seat0] (by simp) (by simp) (by omega)
  rw [openG_ok v_ann v_seat0 (by simp) (by simp) (by omega)] at o1
  refine callE_nw (ys := [ssV 1 [], .str ann, .str seat0, strsV [seat0]]) o1 (by simp [nwL, nwA, nwT, nw1, ssV, sesL, strsV, ann, seat0]) rfl (by simp [closed, closedL, ssV_closed]) ?_
  have e1 : ([] ++ [⟨1, ann, seat0, decide ((ofS [] seat0).length = 0)⟩] : List Ses) = kn1 := rfl
  rw [e1]
  unfold ssV
  simp +decide -dsimp -implicitDefEqProofs [go_sem]
  have o2 := Open_c 2 kn1 bob seat0 [seat0] (by decide) (by simp) (by omega)
  rw [openG_ok v_bob v_seat0 (by simp) (by decide) (by omega)] at o2
  refine callE_pure (xs := [ssV 2 kn1, .str bob, .str seat0, strsV [seat0]]) o2 (by simp [closedL, ssV_closed, strsV_closed, closed]) (by simp [closed, closedL, ssV_closed]) ?_
  have e2 : (kn1 ++ [⟨2, bob, seat0, decide ((ofS kn1 seat0).length = 0)⟩] : List Ses) = kn2 := rfl
  rw [e2]
  unfold ssV
  simp +decide -dsimp -implicitDefEqProofs [go_sem]
  have o3 := Switch_c 3 kn2 seat0 (by decide)
  have e3 : switchS 3 kn2 seat0 = .tup [ssV 3 kn3, .int .i64 2, .int .i64 0] := rfl
  rw [e3] at o3
  refine callE_pure (xs := [ssV 3 kn2, .str seat0]) o3 (by simp [closedL, ssV_closed, closed]) (by simp [closed, closedL, ssV_closed]) ?_
  unfold ssV
  simp +decide -dsimp -implicitDefEqProofs [go_sem]
  have o4 : ACalls Tryd.prog 27 [ssV 3 kn3, .str seat0] [] (.str bob) [] := User_c 3 kn3 seat0 (by decide)
  refine callE_pure (xs := [ssV 3 kn3, .str seat0]) o4 (by simp [closedL, ssV_closed, closed]) rfl ?_
  simp +decide -dsimp -implicitDefEqProofs [go_sem]
  have o5 := Close_c 3 kn3 2 (by decide)
  have e5 : closeS 3 kn3 2 = .tup [ssV 3 kn1, .int .i64 0] := rfl
  rw [e5] at o5
  refine callE_pure (xs := [ssV 3 kn3, .int .i64 2]) o5 (by simp [closedL, ssV_closed, closed]) (by simp [closed, closedL, ssV_closed]) ?_
  unfold ssV
  simp +decide -dsimp -implicitDefEqProofs [go_sem]
  have o6 := Prune_c 3 kn1 [] (by decide) (by decide)
  have e6 : (kn1.filter fun x => decide (x.seat ∈ ([] : List (List UInt8)))) = [] := rfl
  rw [e6] at o6
  refine callE_nw (ys := [ssV 3 kn1, strsV []]) o6 (by simp [nwL, nwA, nwT, nw1, ssV, strsV]) (by simp [closedL, closed, sesL, sesR_closedLL]) (by simp [ssV_closed]) ?_
  unfold ssV sesL
  simp +decide -dsimp -implicitDefEqProofs [go_sem, bob]
  have o7 : ACalls Tryd.prog 27 [ssV 3 kn1, .str seat0] [] (.str ann) [] := User_c 3 kn1 seat0 (by decide)
  refine callE_pure (xs := [ssV 3 kn1, .str seat0]) o7 (by simp [closedL, ssV_closed, closed]) rfl ?_
  simp +decide -dsimp -implicitDefEqProofs [go_sem, ann]
  have o8 := Check_c 3 kn1 (by decide)
  have e8 : checkB 3 kn1 = true := by decide +kernel
  rw [e8] at o8
  refine callE_pure (xs := [ssV 3 kn1]) o8 (by simp [closedL, ssV_closed]) rfl ?_
  simp +decide -dsimp -implicitDefEqProofs [go_sem]
end Go.Ab
namespace Go.Ab
open Go Go.Proofs
theorem ofS_nil {n : Int} {l : List Ses} (h : Made n l) (s : List UInt8) : decide ((ofS l s).length = 0) = decide ((actIn l s).length = 0) := by
  cases e : ofS l s with
  | nil =>
    have : actIn l s = [] := by rw [← ofS_act, e]; rfl
    simp [this]
  | cons x r =>
    have hx : x ∈ ofS l s := by rw [e]; simp
    obtain ⟨h1, h2⟩ := ofS_mem.1 hx
    have := h.act x h1
    rw [h2] at this
    simp [this]
theorem openG_form (b : Bool) (n : Int) (l : List Ses) (user seat : List UInt8) (seats : List (List UInt8)) : ∃ m l' i e, openG b n l user seat seats = .tup [ssV m l', .int .i64 i, .int .i64 e] ∧ l'.length ≤ l.length + 1 := by
  unfold openG
  split
  · exact ⟨_, _, _, _, rfl, by simp⟩
  · split
    · exact ⟨_, _, _, _, rfl, by simp⟩
    · split
      · exact ⟨_, _, _, _, rfl, by simp⟩
      · exact ⟨_, _, _, _, rfl, by simp⟩
theorem tapeO_zero (t : List Int) : AObj.box [.imm (t.map fun v => [.int .i64 v]), .int .i64 0] = tapeO t 0 := rfl
@[go_sem] theorem sesL_ren (is : List Nat) (l : List Ses) : ren is (sesL l) = sesL l := by simp [sesL, ren, sesR_renLL]
@[go_sem] theorem sesL_closed (k : Nat) (l : List Ses) : closed k (sesL l) = true := by simp [sesL, closed, sesR_closedLL]
@[go_sem] theorem ssV_ren (is : List Nat) (n : Int) (l : List Ses) : ren is (ssV n l) = ssV n l := by simp [ssV, ren, renL, sesL_ren]
attribute [go_sem] strsV_closed strsV_ren ssV_closed tapeO_ren tape_closed tape_ren strKvs_closed
theorem tape0_at (t : List Int) : renO [0] (tapeO t 0) = .box [.imm (t.map fun v => [.int .i64 v]), .int .i64 0] := by rw [tapeO_ren]; rfl
@[go_sem] theorem box_ss' (n : Int) (l : List Ses) : AObj.box [.int .i64 n, sesL l] = .box [.int .i64 n, .imm (l.map sesR)] := rfl
def tapeA (t : List Int) : AV := .imm (t.map fun v => [.int .i64 v])
theorem box_ss (n : Int) (l : List Ses) : AObj.box [.int .i64 n, sesL l] = .box [.int .i64 n, .imm (l.map sesR)] := rfl

set_option maxHeartbeats 2000000 in
set_option maxRecDepth 20000 in
theorem Opens_c (t : List Int) (user seat : List UInt8) (seats : List (List UInt8)) : ACalls Tryd.prog 6 [tapeA t, .str user, .str seat, strsV seats] [] (.bool true) [] := by
  refine acalls_F c6_ok rfl ?_
  unfold c6 tapeA
  have kn : ∀ (H : List AObj) (K : List AObj → AV → Prop) (u : TagOf K), K H (.bool true) → callE Tryd.prog 15 [] H K u := fun H K u hK => callE_pure known_c rfl rfl hK
  by_cases h1 : IntKind.i64.wrap ((user.length : Int) + seat.length) > 200
  · simp +decide -dsimp -implicitDefEqProofs [go_sem, h1]
    refine kn _ _ _ ?_
    simp +decide -dsimp -implicitDefEqProofs [go_sem]
  have strsLen : ∀ (H : List AObj) (K : SK), sLen' .sl (strsV seats) H K = sLen' .sl (.imm (seats.map fun s => [.str s])) H K := fun _ _ => rfl
  by_cases h2 : (seats.length : Int) > 40
  · simp +decide -dsimp -implicitDefEqProofs [go_sem, h1, h2, strsLen]
    refine kn _ _ _ ?_
    simp +decide -dsimp -implicitDefEqProofs [go_sem]
  simp +decide -dsimp -implicitDefEqProofs [go_sem, h1, h2, strsLen]
  obtain ⟨av, H', ⟨n, l, k, hm, hl, hn, hk, rfl, rfl⟩, hS⟩ := Sessions_c t 0 (by omega)
  refine callE_frame [0] hS rfl rfl (by simp) (by simp [go_sem]) (by simp [tape0_at]) ?_
  have hm1 := hm.n1
  simp +decide -dsimp -implicitDefEqProofs [go_sem, ssV]
  refine callE_frame [0] (Next_c t k 2 (by omega) (by omega)) rfl rfl (by simp) (by simp [go_sem]) (by simp [tapeO_ren]) ?_
  by_cases g1 : fold (tapeV t k) 2 = 0
  simp +decide -dsimp -implicitDefEqProofs [go_sem, g1]
  refine callE_frame [0] (One_c t (k + 1) [ann, bob] (by omega) (by simp) (by simp)) rfl rfl (by simp) rfl (by simp [tapeO_ren]) ?_
  generalize oneS [ann, bob] (tapeV t (k + 1)) = user2
  simp +decide -dsimp -implicitDefEqProofs [go_sem]
  refine callE_frame [0] (One_c t (k + 1 + 1) [seat0, seat1] (by omega) (by simp) (by simp)) rfl rfl (by simp) rfl (by simp [tapeO_ren]) ?_
  generalize oneS [seat0, seat1] (tapeV t (k + 1 + 1)) = seat2
  obtain ⟨k2, hk2, hk3⟩ : ∃ k2, k2 = k + 1 + 1 + 1 ∧ k2 ≤ k + 3 := ⟨_, rfl, by omega⟩
  rw [← hk2]
  have e : AV.imm [[AV.str [115, 101, 97, 116, 48]], [AV.str [115, 101, 97, 116, 50]]] = strsV [seat0, Go.Ab.seat2] := rfl
  simp +decide -dsimp -implicitDefEqProofs [go_sem, e]
  have hss : [seat0, Go.Ab.seat2].length ≤ 40 := by decide
  generalize [seat0, Go.Ab.seat2] = seats2 at hss
  rotate_left
  obtain ⟨user2, rfl⟩ : ∃ u, u = user := ⟨_, rfl⟩
  obtain ⟨seat2, rfl⟩ : ∃ u, u = seat := ⟨_, rfl⟩
  obtain ⟨seats2, rfl⟩ : ∃ u, u = seats := ⟨_, rfl⟩
  obtain ⟨k2, hk2, hk3⟩ : ∃ k2, k2 = k + 1 ∧ k2 ≤ k + 3 := ⟨_, rfl, by omega⟩
  rw [← hk2]
  have hss : seats2.length ≤ 40 := by omega
  simp +decide -dsimp -implicitDefEqProofs [go_sem, g1]
  all_goals
    refine callE_frame [0] (Next_c t k2 8 (by omega) (by omega)) rfl rfl (by simp) (by simp [go_sem]) (by simp [tapeO_ren]) ?_
    by_cases g2 : fold (tapeV t k2) 8 = 0
    simp +decide -dsimp -implicitDefEqProofs [go_sem, g2]
    refine callE_frame [0] (Next_c t (k2 + 1) 2 (by omega) (by omega)) rfl rfl (by simp) (by simp [go_sem]) (by simp [tapeO_ren]) ?_
    have b2 := fold_bd (tapeV t (k2 + 1)) 2 (by omega)
    generalize fold (tapeV t (k2 + 1)) 2 = v2 at b2
    obtain ⟨N, hN, hN1⟩ : ∃ N : Int, IntKind.i64.wrap (1073741824 - v2) = N ∧ 1 ≤ N := ⟨_, w64 (by omega) (by omega), by omega⟩
    obtain ⟨k3, hk4⟩ : ∃ k3, k3 = k2 + 1 + 1 := ⟨_, rfl⟩
    rw [← hk4]
    simp +decide -dsimp -implicitDefEqProofs [go_sem, hN]
    rotate_left
    obtain ⟨N, rfl, hN1⟩ : ∃ N : Int, N = n ∧ 1 ≤ N := ⟨_, rfl, hm1⟩
    obtain ⟨k3, hk4⟩ : ∃ k3, k3 = k2 + 1 := ⟨_, rfl⟩
    rw [← hk4]
    simp +decide -dsimp -implicitDefEqProofs [go_sem, g2]
    all_goals
      have hlt : l.length < 1000000000 := by omega
      have c1 := Open_c N l user2 seat2 seats2 hlt (by omega) (by omega)
      have c2 := rOpen_c N l user2 seat2 seats2 hlt (by omega) (by omega)
      rw [← ofS_nil hm seat2] at c2
      obtain ⟨m, l', i, er, hg, hl'⟩ := openG_form (decide ((ofS l seat2).length = 0)) N l user2 seat2 seats2
      rw [hg] at c1 c2
      simp only [ssV, sesL] at c1 c2
      refine callE_pure c1 (by simp [go_sem]) (by simp [go_sem]) ?_
      simp +decide -dsimp -implicitDefEqProofs [go_sem]
      refine callE_pure c2 (by simp [go_sem]) (by simp [go_sem]) ?_
      simp +decide -dsimp -implicitDefEqProofs [go_sem]
      have c3 := Same_c m m l' l' (by omega) (by omega)
      simp only [ssV, sesL] at c3
      refine callE_pure c3 (by simp [go_sem]) rfl ?_
      simp +decide -dsimp -implicitDefEqProofs [go_sem]
      refine kn _ _ _ ?_
      simp +decide -dsimp -implicitDefEqProofs [go_sem]
end Go.Ab
