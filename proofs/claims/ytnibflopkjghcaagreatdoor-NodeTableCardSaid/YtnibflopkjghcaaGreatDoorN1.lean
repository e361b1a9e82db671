/- Trees of devices, in plain words. -/
import Derived.Test.YtnibflopkjghcaaGreatDoorW1
import Derived.Test.YtnibflopkjghcaaGreatDoorA6
import Derived.Test.YtnibflopkjghcaaGreatDoorW3
namespace Go.Ab
open Go Go.Proofs Go.Sort
structure Dvc where
  idx : Int
  par : Int
  name : Txt
  orig : Txt
  sub : Txt
  drv : Txt
  ali : Txt
  kind : Int
  num : Int
  attrs : List (Txt × Txt)
def aRow (p : Txt × Txt) : List AV := [.str p.1, .str p.2]
def dcRow (d : Dvc) : List AV := [.int .i64 d.idx, .int .i64 d.par, .str d.name, .str d.orig, .str d.sub, .str d.drv, .str d.ali, .int .i64 d.kind, .int .i64 d.num, .imm (d.attrs.map aRow)]
def findD (T : List Dvc) (n : Int) : Option Dvc := T.find? fun d => decide (d.idx = n)
def chainF (T : List Dvc) : Nat → Int → List Dvc
  | 0, _ => []
  | f + 1, n => match findD T n with
    | none => []
    | some d => d :: chainF T f d.par
def chain (T : List Dvc) (n : Int) : List Dvc := chainF T T.length n
def orgL (T : List Dvc) (n : Int) : List Txt := ((chain T n).map (·.orig)).reverse
def placeT (T : List Dvc) (n : Int) : Txt := joinP (orgL T n)
def slashB (c : UInt8) : UInt8 := if c = 33 then 47 else c
def nodeD (d : Dvc) : Option Txt := if d.kind = 2 ∨ d.kind = 3 then some (d.orig.map slashB) else none
def clashB (a b : Dvc) : Bool := (decide (a.kind = 4) && decide (b.kind = 4) && decide (a.name = b.name)) || match nodeD a, nodeD b with
  | some s, some u => (decide (a.kind = b.kind) && decide (a.num = b.num)) || decide (s = u) || benB s u || benB u s
  | _, _ => false
/-- The last place of which something is true, and one more. -/
def atN (p : Dvc → Bool) (T : List Dvc) : Nat → Nat
  | 0 => 0
  | i + 1 => if (T[i]?.any p) = true then i + 1 else atN p T i
def ownO (T : List Dvc) (d : Dvc) : List Txt := orgL T d.par ++ [d.orig]
def lessO (T : List Dvc) (d x : Dvc) : Bool := decide (cmpL (orgL T x.idx) (ownO T d) < 0)
def badO (T : List Dvc) (d x : Dvc) : Bool := decide (cmpL (orgL T x.idx) (ownO T d) = 0) || clashB x d
def insT (T : List Dvc) (d : Dvc) : List Dvc := T.take (atN (lessO T d) T T.length) ++ d :: T.drop (atN (lessO T d) T T.length)
def insOk (T : List Dvc) (d : Dvc) : Bool := decide ((ownO T d).length ≤ 7) && !T.any (badO T d)
/-! ### Facts -/
theorem atN_le (p : Dvc → Bool) (T : List Dvc) : ∀ i, atN p T i ≤ i
  | 0 => Nat.le_refl 0
  | i + 1 => by
    have := atN_le p T i
    unfold atN
    split <;> omega
theorem atN_ge (p : Dvc → Bool) (T : List Dvc) : ∀ (i j : Nat) (h : j < T.length), atN p T i ≤ j → j < i → p T[j] = false
  | 0, j, h, h1, h2 => by omega
  | i + 1, j, h, h1, h2 => by
    unfold atN at h1
    split at h1
    · omega
    · rename_i hn
      by_cases e : j = i
      · subst e
        rw [List.getElem?_eq_getElem h] at hn
        simpa using hn
      · exact atN_ge p T i j h h1 (by omega)
theorem atN_at (p : Dvc → Bool) (T : List Dvc) : ∀ i, atN p T i = 0 ∨ ∃ h : atN p T i - 1 < T.length, p T[atN p T i - 1] = true
  | 0 => .inl rfl
  | i + 1 => by
    by_cases hc : (T[i]?.any p) = true
    · have he : atN p T (i + 1) = i + 1 := by rw [atN, if_pos hc]
      refine .inr ?_
      rw [Option.any_eq_true] at hc
      obtain ⟨x, hx, hp⟩ := hc
      obtain ⟨hl, hg⟩ := List.getElem?_eq_some_iff.1 hx
      simp only [he]
      exact ⟨by omega, by simpa [hg] using hp⟩
    · have he : atN p T (i + 1) = atN p T i := by rw [atN, if_neg hc]
      rw [he]
      exact atN_at p T i
theorem findD_some {T : List Dvc} {n : Int} {d : Dvc} (h : findD T n = some d) : d ∈ T ∧ d.idx = n :=
  ⟨List.mem_of_find?_eq_some h, by simpa using List.find?_some h⟩
structure TreeOk (S : Dvc → Prop) (T : List Dvc) : Prop where
  ix : ∀ d ∈ T, 1 ≤ d.idx ∧ d.idx ≤ T.length
  nd : T.Pairwise fun a b => a.idx ≠ b.idx
  full : ∀ k : Int, 1 ≤ k → k ≤ T.length → ∃ d ∈ T, d.idx = k
  par : ∀ d ∈ T, 0 ≤ d.par ∧ d.par < d.idx
  so : T.Pairwise fun a b => orgL T a.idx < orgL T b.idx
  dp : ∀ d ∈ T, (orgL T d.idx).length ≤ 7
  cl : T.Pairwise fun a b => clashB a b = false
  dv : ∀ d ∈ T, S d
theorem TreeOk.nil {S : Dvc → Prop} : TreeOk S [] := ⟨by simp, by simp, fun k h1 h2 => by simp at h2; omega, by simp, by simp, by simp, by simp, by simp⟩
theorem findD_mem {T : List Dvc} (hn : T.Pairwise fun a b => a.idx ≠ b.idx) {d : Dvc} (h : d ∈ T) : findD T d.idx = some d := by
  induction T with
  | nil => cases h
  | cons x r ih =>
    unfold findD at ih ⊢
    rw [List.find?_cons]
    rw [List.pairwise_cons] at hn
    rcases List.mem_cons.1 h with rfl | h
    · simp
    · have := hn.1 d h
      simp [this, ih hn.2 h]
theorem findD_none {S : Dvc → Prop} {T : List Dvc} (hT : TreeOk S T) {n : Int} (h : n ≤ 0 ∨ T.length < n) : findD T n = none :=
  List.find?_eq_none.2 fun x hx => by
    have := hT.ix x hx
    simp; omega
/-- More fuel than the number changes nothing. -/
theorem chainF_fuel {S : Dvc → Prop} {T : List Dvc} (hT : TreeOk S T) : ∀ (f g : Nat) (n : Int), n ≤ f → n ≤ g → chainF T f n = chainF T g n
  | 0, 0, _, _, _ => rfl
  | 0, g + 1, n, h1, _ => by rw [chainF, chainF, findD_none hT (.inl (by omega))]
  | f + 1, 0, n, _, h2 => by rw [chainF, chainF, findD_none hT (.inl (by omega))]
  | f + 1, g + 1, n, h1, h2 => by
    rw [chainF, chainF]
    cases hf : findD T n with
    | none => rfl
    | some d =>
      obtain ⟨hm, he⟩ := findD_some hf
      have := hT.par d hm
      simp only
      rw [chainF_fuel hT f g d.par (by omega) (by omega)]
theorem findD_ins {T : List Dvc} {d : Dvc} {k : Nat} {n : Int} (h : n ≠ d.idx) : findD (T.take k ++ d :: T.drop k) n = findD T n := by
  have h1 : ¬ d.idx = n := fun e => h e.symm
  unfold findD
  conv => rhs; rw [← List.take_append_drop k T]
  rw [List.find?_append, List.find?_append, List.find?_cons]
  simp [h1]
theorem findD_new {T : List Dvc} {d : Dvc} {k : Nat} (h : ∀ x ∈ T, x.idx ≠ d.idx) : findD (T.take k ++ d :: T.drop k) d.idx = some d := by
  unfold findD
  rw [List.find?_append, List.find?_cons]
  have : (T.take k).find? (fun x => decide (x.idx = d.idx)) = none := List.find?_eq_none.2 fun x hx => by simpa using h x (List.mem_of_mem_take hx)
  simp [this]
section
variable {S : Dvc → Prop} {T : List Dvc} {d : Dvc} {k : Nat}
theorem chainF_ins (hT : TreeOk S T) (hd : d.idx = T.length + 1) : ∀ (f : Nat) (n : Int), n ≤ T.length → chainF (T.take k ++ d :: T.drop k) f n = chainF T f n
  | 0, _, _ => rfl
  | f + 1, n, h => by
    rw [chainF, chainF, findD_ins (by omega)]
    cases hf : findD T n with
    | none => rfl
    | some e =>
      obtain ⟨hm, he⟩ := findD_some hf
      have := hT.par e hm
      simp only
      rw [chainF_ins hT hd f e.par (by omega)]
theorem ins_len : (T.take k ++ d :: T.drop k).length = T.length + 1 := by
  rw [List.length_append, List.length_cons, List.length_take, List.length_drop]; omega
theorem orgL_ins (hT : TreeOk S T) (hd : d.idx = T.length + 1) {n : Int} (h : n ≤ T.length) : orgL (T.take k ++ d :: T.drop k) n = orgL T n := by
  unfold orgL chain
  rw [ins_len, chainF_ins hT hd _ _ h, chainF_fuel hT _ T.length n (by omega) h]
theorem orgL_new (hT : TreeOk S T) (hd : d.idx = T.length + 1) (hp : d.par < d.idx) : orgL (T.take k ++ d :: T.drop k) d.idx = ownO T d := by
  unfold orgL chain ownO
  rw [ins_len, chainF, findD_new (fun x hx => by have := hT.ix x hx; omega)]
  simp only
  rw [chainF_ins hT hd _ _ (by omega)]
  simp [orgL, chain]
theorem clash_symm (a b : Dvc) : clashB a b = clashB b a := by
  unfold clashB
  have e1 : decide (a.name = b.name) = decide (b.name = a.name) := by rw [Bool.eq_iff_iff]; simp [eq_comm]
  rw [e1]
  cases nodeD a with
  | none => cases nodeD b <;> simp [Bool.and_comm]
  | some s => cases nodeD b with
    | none => simp [Bool.and_comm]
    | some u =>
      have e2 : decide (a.kind = b.kind) = decide (b.kind = a.kind) := by rw [Bool.eq_iff_iff]; simp [eq_comm]
      have e3 : decide (a.num = b.num) = decide (b.num = a.num) := by rw [Bool.eq_iff_iff]; simp [eq_comm]
      have e4 : decide (s = u) = decide (u = s) := by rw [Bool.eq_iff_iff]; simp [eq_comm]
      simp only [e2, e3, e4]
      cases decide (a.kind = 4) <;> cases decide (b.kind = 4) <;> cases benB s u <;> cases benB u s <;> simp
/-- The devices ahead of the new one's place are less, those behind are greater. -/
theorem at_so (hT : TreeOk S T) (hb : T.any (badO T d) = false) : (∀ x ∈ T.take (atN (lessO T d) T T.length), orgL T x.idx < ownO T d) ∧ ∀ x ∈ T.drop (atN (lessO T d) T T.length), ownO T d < orgL T x.idx := by
  have hle := atN_le (lessO T d) T T.length
  constructor
  · intro x hx
    rcases atN_at (lessO T d) T T.length with h0 | ⟨h1, h2⟩
    · rw [h0] at hx; simp at hx
    · obtain ⟨j, hj, rfl⟩ := List.mem_iff_getElem.1 hx
      rw [List.length_take] at hj
      rw [List.getElem_take]
      simp only [lessO, decide_eq_true_eq, cmpL_lt] at h2
      by_cases e : j = atN (lessO T d) T T.length - 1
      · subst e; exact h2
      · exact List.lt_trans (List.pairwise_iff_getElem.1 hT.so j (atN (lessO T d) T T.length - 1) (by omega) h1 (by omega)) h2
  · intro x hx
    obtain ⟨j, hj, rfl⟩ := List.mem_iff_getElem.1 hx
    rw [List.length_drop] at hj
    rw [List.getElem_drop]
    have hm : T[atN (lessO T d) T T.length + j] ∈ T := List.getElem_mem _
    have h3 := atN_ge (lessO T d) T T.length (atN (lessO T d) T T.length + j) (by omega) (by omega) (by omega)
    have h4 := List.any_eq_false.1 hb _ hm
    simp only [badO, Bool.or_eq_true, decide_eq_true_eq, not_or, cmpL_eq] at h4
    simp only [lessO, decide_eq_false_iff_not, cmpL_lt, List.not_lt] at h3
    rcases List.le_iff_lt_or_eq.1 h3 with h5 | h5
    · exact h5
    · exact absurd h5.symm h4.1
theorem TreeOk.ins (hT : TreeOk S T) (hS : S d) (hd : d.idx = T.length + 1) (hp : 0 ≤ d.par ∧ d.par < d.idx) (ho : insOk T d = true) : TreeOk S (insT T d) := by
  simp only [insOk, Bool.and_eq_true, decide_eq_true_eq, Bool.not_eq_true'] at ho
  obtain ⟨hdp, hb⟩ := ho
  obtain ⟨s1, s2⟩ := at_so hT hb
  have hcl : ∀ x ∈ T, clashB x d = false := fun x hx => by
    have h4 := List.any_eq_false.1 hb x hx
    simp only [badO, Bool.or_eq_true, not_or, Bool.not_eq_true] at h4
    exact h4.2
  unfold insT
  generalize atN (lessO T d) T T.length = k at s1 s2
  have hmem : ∀ x, x ∈ T.take k ++ d :: T.drop k → x = d ∨ x ∈ T := fun x hx => by
    rcases List.mem_append.1 hx with h | h
    · exact .inr (List.mem_of_mem_take h)
    · rcases List.mem_cons.1 h with h | h
      · exact .inl h
      · exact .inr (List.mem_of_mem_drop h)
  have hin : ∀ x ∈ T, x ∈ T.take k ++ d :: T.drop k := fun x hx => by
    rw [← List.take_append_drop k T] at hx
    rcases List.mem_append.1 hx with h | h
    · exact List.mem_append_left _ h
    · exact List.mem_append_right _ (List.mem_cons_of_mem _ h)
  have hix : ∀ x ∈ T, x.idx ≠ d.idx := fun x hx => by have := hT.ix x hx; omega
  have hpw : ∀ {R : Dvc → Dvc → Prop}, T.Pairwise R → (∀ x ∈ T.take k, R x d) → (∀ x ∈ T.drop k, R d x) → (T.take k ++ d :: T.drop k).Pairwise R := fun {R} h h1 h2 => by
    rw [← List.take_append_drop k T, List.pairwise_append] at h
    rw [List.pairwise_append, List.pairwise_cons]
    refine ⟨h.1, ⟨h2, h.2.1⟩, fun a ha b hb => ?_⟩
    rcases List.mem_cons.1 hb with rfl | hb
    · exact h1 a ha
    · exact h.2.2 a ha b hb
  have ol : ∀ x ∈ T, orgL (T.take k ++ d :: T.drop k) x.idx = orgL T x.idx := fun x hx => orgL_ins hT hd (hT.ix x hx).2
  have on := orgL_new (k := k) hT hd hp.2
  refine ⟨fun x hx => ?_, hpw hT.nd (fun x hx => hix x (List.mem_of_mem_take hx)) (fun x hx => (hix x (List.mem_of_mem_drop hx)).symm), fun j h1 h2 => ?_, fun x hx => ?_, ?_, fun x hx => ?_, ?_, fun x hx => ?_⟩
  · rw [ins_len]
    rcases hmem x hx with rfl | hx
    · omega
    · have := hT.ix x hx; omega
  · rw [ins_len] at h2
    by_cases e : j = d.idx
    · exact ⟨d, by simp, e.symm⟩
    · obtain ⟨x, hx, hj⟩ := hT.full j h1 (by omega)
      exact ⟨x, hin x hx, hj⟩
  · rcases hmem x hx with rfl | hx
    · exact hp
    · exact hT.par x hx
  · refine hpw ?_ (fun x hx => ?_) fun x hx => ?_
    · exact hT.so.imp_of_mem fun {a b} ha hb h => by rw [ol a ha, ol b hb]; exact h
    · rw [ol x (List.mem_of_mem_take hx), on]; exact s1 x hx
    · rw [ol x (List.mem_of_mem_drop hx), on]; exact s2 x hx
  · rcases hmem x hx with rfl | hx
    · rw [on]; exact hdp
    · rw [ol x hx]; exact hT.dp x hx
  · exact hpw hT.cl (fun x hx => hcl x (List.mem_of_mem_take hx)) fun x hx => by rw [clash_symm]; exact hcl x (List.mem_of_mem_drop hx)
  · rcases hmem x hx with rfl | hx
    · exact hS
    · exact hT.dv x hx
end
end Go.Ab
namespace Go.Ab
open Go Go.Proofs Go.Sort
theorem splitC_plain : ∀ {x : Txt}, (∀ c ∈ x, c ≠ 47) → splitC 47 x = [x]
  | [], _ => rfl
  | c :: x, h => by
    have hc : c ≠ 47 := h c (by simp)
    rw [splitC, if_neg hc, splitC_plain (x := x) fun d hd => h d (by simp [hd])]
theorem splitC_put : ∀ {x s : Txt}, (∀ c ∈ x, c ≠ 47) → splitC 47 (x ++ 47 :: s) = x :: splitC 47 s
  | [], s, _ => by rw [List.nil_append, splitC, if_pos rfl]
  | c :: x, s, h => by
    have hc : c ≠ 47 := h c (by simp)
    rw [List.cons_append, splitC, if_neg hc, splitC_put (x := x) fun d hd => h d (by simp [hd])]
theorem splitC_join : ∀ {r : List Txt} {x : Txt}, (∀ y ∈ x :: r, ∀ c ∈ y, c ≠ 47) → splitC 47 (x ++ joinP r) = x :: r
  | [], x, h => by rw [joinP, List.append_nil, splitC_plain (h x (by simp))]
  | y :: r, x, h => by
    rw [joinP, splitC_put (h x (by simp)), splitC_join (r := r) fun z hz => h z (List.mem_cons_of_mem _ hz)]
theorem pathL_joinP {l : List Txt} (h0 : l ≠ []) (hv : ∀ x ∈ l, validB x = true) (hs : ∀ x ∈ l, ∀ c ∈ x, c ≠ 47) : pathL (joinP l) = some l := by
  cases l with
  | nil => exact absurd rfl h0
  | cons x r =>
    rw [joinP]
    simp only [pathL]
    rw [splitL_eq, splitC_join hs, if_pos ⟨trivial, List.all_eq_true.2 hv⟩]
theorem place_joinP {l : List Txt} (h0 : l ≠ []) (h7 : l.length ≤ 7) (hv : ∀ x ∈ l, validB x = true) (hs : ∀ x ∈ l, ∀ c ∈ x, c ≠ 47) : placeB (joinP l) = true ∧ compsP (joinP l) = l := by
  have := pathL_joinP h0 hv hs
  refine ⟨?_, ?_⟩
  · rw [placeB, this]; exact decide_eq_true h7
  · rw [compsP, this]; rfl
/-! ### What the made devices are -/
def ifS : List Txt := [[101, 116, 104, 48], [101, 116, 104, 49], [119, 108, 97, 110, 48], [108, 97, 110, 48]]
def blS : List Txt := [[115, 100, 97], [115, 100, 98], [115, 100, 97, 49], [115, 100, 97, 50], [99, 33, 100, 48]]
def chS : List Txt := [[116, 116, 121, 48], [116, 116, 121, 49], [105, 110, 112, 117, 116, 33, 101, 118, 48]]
def plS : List Txt := [[112, 99, 105, 48], [117, 115, 98, 49], [49, 45, 49], [112, 111, 114, 116]]
def oS : List Txt := ifS ++ blS ++ chS ++ plS
theorem oS_v : ∀ x ∈ oS, validB x = true ∧ (∀ c ∈ x, c ≠ 47) ∧ x.length ≤ 9 := by decide +kernel
theorem bcS_l : ∀ x ∈ blS ++ chS, linkB (x.map slashB) = true ∧ (x.map slashB).length ≤ 9 := by decide +kernel
section
variable {S : Dvc → Prop} {T : List Dvc}
theorem chainF_sub (T : List Dvc) : ∀ (f : Nat) (n : Int), ∀ d ∈ chainF T f n, d ∈ T
  | 0, _, d, h => by cases h
  | f + 1, n, d, h => by
    rw [chainF] at h
    cases hf : findD T n with
    | none => rw [hf] at h; cases h
    | some e =>
      rw [hf] at h
      rcases List.mem_cons.1 h with rfl | h
      · exact (findD_some hf).1
      · exact chainF_sub T f _ d h
theorem orgL_mem {n : Int} {x : Txt} (h : x ∈ orgL T n) : ∃ d ∈ T, d.orig = x := by
  rw [orgL, List.mem_reverse, List.mem_map] at h
  obtain ⟨d, hd, rfl⟩ := h
  exact ⟨d, chainF_sub T _ _ d hd, rfl⟩
theorem orgL_ne (hT : TreeOk S T) {d : Dvc} (hd : d ∈ T) : orgL T d.idx ≠ [] := by
  have hf := findD_mem hT.nd hd
  have hl : 0 < T.length := List.length_pos_of_mem hd
  obtain ⟨k, hk⟩ : ∃ k, T.length = k + 1 := ⟨T.length - 1, by omega⟩
  rw [orgL, chain, hk, chainF, hf]
  simp
theorem place_T (hT : TreeOk S T) (hS : ∀ d, S d → d.orig ∈ oS) {d : Dvc} (hd : d ∈ T) : placeB (placeT T d.idx) = true ∧ compsP (placeT T d.idx) = orgL T d.idx :=
  place_joinP (orgL_ne hT hd) (hT.dp d hd) (fun x hx => by
    obtain ⟨e, he, rfl⟩ := orgL_mem hx
    exact (oS_v _ (hS e (hT.dv e he))).1) fun x hx => by
    obtain ⟨e, he, rfl⟩ := orgL_mem hx
    exact (oS_v _ (hS e (hT.dv e he))).2.1
theorem idx_inj (hT : TreeOk S T) {d e : Dvc} (hd : d ∈ T) (he : e ∈ T) (h : d.idx = e.idx) : d = e := by
  have h1 := findD_mem hT.nd hd
  rw [h, findD_mem hT.nd he] at h1
  exact (Option.some.inj h1).symm
theorem org_inj (hT : TreeOk S T) {d e : Dvc} (hd : d ∈ T) (he : e ∈ T) (h : orgL T d.idx = orgL T e.idx) : d = e := by
  obtain ⟨i, hi, rfl⟩ := List.mem_iff_getElem.1 hd
  obtain ⟨j, hj, rfl⟩ := List.mem_iff_getElem.1 he
  have hp := List.pairwise_iff_getElem.1 hT.so
  rcases Nat.lt_trichotomy i j with h1 | h1 | h1
  · have := hp i j hi hj h1
    rw [h] at this; exact absurd this (List.lt_irrefl _)
  · subst h1; rfl
  · have := hp j i hj hi h1
    rw [h] at this; exact absurd this (List.lt_irrefl _)
end
/-! ### Records -/
structure Rcd where
  path : Txt
  idx : Int
  props : List (Txt × Txt)
  tags : List Txt
  links : List Txt
  run : List Txt
  load : List Txt
  name : Txt
  prio : Int
  owner : Txt
  group : Txt
  mode : Int
def rcRow (r : Rcd) : List AV := [.str r.path, .int .i64 r.idx, .imm (r.props.map aRow), .imm (r.tags.map sRow), .imm (r.links.map sRow), .imm (r.run.map sRow), .imm (r.load.map sRow), .str r.name, .int .i64 r.prio, .str r.owner, .str r.group, .int .i64 r.mode]
structure Nd where
  name : Txt
  kind : Int
  num : Int
  owner : Txt
  group : Txt
  mode : Int
  path : Txt
def ndRow (n : Nd) : List AV := [.str n.name, .int .i64 n.kind, .int .i64 n.num, .str n.owner, .str n.group, .int .i64 n.mode, .str n.path]
def ofR (rs : List Rcd) (i : Int) : Option Rcd := rs.find? fun r => decide (r.idx = i)
def ndOf (rs : List Rcd) (d : Dvc) : List Nd := match nodeD d, ofR rs d.idx with
  | some s, some r => [⟨s, d.kind, d.num, r.owner, r.group, r.mode, r.path⟩]
  | _, _ => []
def clOfD (rs : List Rcd) (d : Dvc) : List Cl := match nodeD d, ofR rs d.idx with
  | some s, some r => r.links.map fun x => ⟨x, r.path, s, r.prio⟩
  | _, _ => []
def mkN (T : List Dvc) (rs : List Rcd) : List Nd := T.flatMap (ndOf rs)
def mkC (T : List Dvc) (rs : List Rcd) : List Cl := T.flatMap (clOfD rs)
def lkS : List Txt := [[100, 105, 115, 107, 47, 97], [100, 105, 115, 107, 47, 98], [100, 105, 115, 107], [99, 100], [115, 100, 97], [116, 116, 121, 48, 47, 120], [99]]
structure RecOk (T : List Dvc) (r : Rcd) : Prop where
  d : ∃ d ∈ T, d.idx = r.idx
  p : r.path = placeT T r.idx
  la : ascT r.links
  ls : ∀ s ∈ r.links, s ∈ lkS
  pr : -1000 ≤ r.prio ∧ r.prio ≤ 1000
structure RecsOk (T : List Dvc) (rs : List Rcd) : Prop where
  nd : rs.Pairwise fun a b => a.idx ≠ b.idx
  r : ∀ r ∈ rs, RecOk T r
end Go.Ab
namespace Go.Ab
open Go Go.Proofs Go.Sort
section
variable {S : Dvc → Prop} {T : List Dvc} {rs : List Rcd}
theorem ofR_some {i : Int} {r : Rcd} (h : ofR rs i = some r) : r ∈ rs ∧ r.idx = i := ⟨List.mem_of_find?_eq_some h, by simpa using List.find?_some h⟩
theorem clOfD_mem {d : Dvc} {c : Cl} (h : c ∈ clOfD rs d) : ∃ r ∈ rs, r.idx = d.idx ∧ nodeD d = some c.node ∧ c.path = r.path ∧ c.link ∈ r.links ∧ c.prio = r.prio := by
  unfold clOfD at h
  cases hn : nodeD d with
  | none => rw [hn] at h; cases h
  | some s =>
    cases hr : ofR rs d.idx with
    | none => rw [hn, hr] at h; cases h
    | some r =>
      rw [hn, hr] at h
      obtain ⟨x, hx, rfl⟩ := List.mem_map.1 h
      obtain ⟨h1, h2⟩ := ofR_some hr
      exact ⟨r, h1, h2, rfl, rfl, hx, rfl⟩
theorem RecOk.path_eq {r : Rcd} (h : RecOk T r) {d : Dvc} (hi : r.idx = d.idx) : r.path = placeT T d.idx := by rw [h.p, hi]
theorem links_len {l : List Txt} (h1 : ascT l) (h2 : ∀ s ∈ l, s ∈ lkS) : l.length ≤ 7 := nodup_sub (asc_nd h1) h2
theorem mkC_ok (hT : TreeOk S T) (hS : ∀ d, S d → d.orig ∈ oS) (hR : RecsOk T rs) : okCl placeB (mkC T rs) := by
  constructor
  · intro c hc
    obtain ⟨d, hd, hc⟩ := List.mem_flatMap.1 hc
    obtain ⟨r, hr, hi, _, hp, _⟩ := clOfD_mem hc
    rw [hp, (hR.r r hr).path_eq hi]
    exact (place_T hT hS hd).1
  · unfold mkC
    rw [List.pairwise_flatMap]
    refine ⟨fun d hd => ?_, hT.nd.imp_of_mem fun {a b} ha hb hab x hx y hy hxy => ?_⟩
    · unfold clOfD
      split
      · rename_i s r h1 h2
        rw [List.pairwise_map]
        exact (asc_nd (hR.r r (ofR_some h2).1).la).imp fun {a b} h e => h e.1
      · exact .nil
    · obtain ⟨r, hr, hi, _, hp, _⟩ := clOfD_mem hx
      obtain ⟨q, hq, hj, _, hp2, _⟩ := clOfD_mem hy
      have e := hxy.2
      rw [hp, hp2, (hR.r r hr).path_eq hi, (hR.r q hq).path_eq hj] at e
      have e2 : orgL T a.idx = orgL T b.idx := by rw [← (place_T hT hS ha).2, ← (place_T hT hS hb).2, e]
      exact hab (by rw [org_inj hT ha hb e2])
theorem flat_len {α β : Type} (f : α → List β) (B : Nat) : ∀ {l : List α}, (∀ x ∈ l, (f x).length ≤ B) → (l.flatMap f).length ≤ l.length * B
  | [], _ => by simp
  | x :: r, h => by
    have h1 := h x (by simp)
    have h2 := flat_len f B (l := r) fun y hy => h y (by simp [hy])
    rw [List.flatMap_cons, List.length_append, List.length_cons, Nat.add_mul]
    omega
theorem clOfD_len (hR : RecsOk T rs) (d : Dvc) : (clOfD rs d).length ≤ 7 := by
  unfold clOfD
  split
  · rename_i s r h1 h2
    rw [List.length_map]
    have := hR.r r (ofR_some h2).1
    exact links_len this.la this.ls
  · simp
theorem ndOf_len (d : Dvc) : (ndOf rs d).length ≤ 1 := by
  unfold ndOf
  split <;> simp
theorem mkC_len (hR : RecsOk T rs) : (mkC T rs).length ≤ T.length * 7 := flat_len _ 7 fun d _ => clOfD_len hR d
theorem mkN_len : (mkN T rs).length ≤ T.length * 1 := flat_len _ 1 fun d _ => ndOf_len d
theorem mkC_u (hR : RecsOk T rs) : ∀ c ∈ mkC T rs, c.link ∈ lkS := fun c hc => by
  obtain ⟨d, hd, hc⟩ := List.mem_flatMap.1 hc
  obtain ⟨r, hr, _, _, _, hl, _⟩ := clOfD_mem hc
  exact (hR.r r hr).ls _ hl
def nmN (l : List Nd) : List Txt := setT (l.map (·.name))
end
end Go.Ab
namespace Go.Ab
open Go Go.Proofs Go.Sort
def setG (n v : Txt) : Bool → List (Txt × Txt) → List (Txt × Txt)
  | done, [] => if done then [] else [(n, v)]
  | done, x :: r => (if !done && !decide (x.1 < n) then [(n, v)] else []) ++ ((if x.1 = n then [] else [x]) ++ setG n v (done || !decide (x.1 < n)) r)
def setA (l : List (Txt × Txt)) (n v : Txt) : List (Txt × Txt) := setG n v (decide (v = [])) l
def ascA (l : List (Txt × Txt)) : Prop := l.Pairwise fun a b => a.1 < b.1
theorem setG_mem {n v : Txt} : ∀ {l : List (Txt × Txt)} {done : Bool} {x : Txt × Txt}, x ∈ setG n v done l → x ∈ l ∨ (x = (n, v) ∧ done = false)
  | [], done, x, h => by
    unfold setG at h
    cases done <;> simp at h
    exact .inr ⟨h, rfl⟩
  | y :: r, done, x, h => by
    unfold setG at h
    rcases List.mem_append.1 h with h | h
    · split at h
      · rename_i hc
        simp only [Bool.and_eq_true, Bool.not_eq_true'] at hc
        simp at h
        exact .inr ⟨h, hc.1⟩
      · cases h
    · rcases List.mem_append.1 h with h | h
      · split at h
        · cases h
        · simp at h; exact .inl (by simp [h])
      · rcases setG_mem h with h | ⟨h, hd⟩
        · exact .inl (by simp [h])
        · simp only [Bool.or_eq_false_iff] at hd
          exact .inr ⟨h, hd.1⟩
theorem setG_len {n v : Txt} : ∀ {l : List (Txt × Txt)} {done : Bool}, (setG n v done l).length ≤ l.length + (if done then 0 else 1)
  | [], done => by unfold setG; cases done <;> simp
  | y :: r, done => by
    unfold setG
    have := setG_len (n := n) (v := v) (l := r) (done := done || !decide (y.1 < n))
    rw [List.length_append, List.length_append, List.length_cons]
    have h2 : (if y.1 = n then ([] : List (Txt × Txt)) else [y]).length ≤ 1 := by split <;> simp
    cases done <;> cases hc : decide (y.1 < n) <;> simp [hc] at this ⊢ <;> omega
theorem setA_len (l : List (Txt × Txt)) (n v : Txt) : (setA l n v).length ≤ l.length + 1 := by
  have := setG_len (n := n) (v := v) (l := l) (done := decide (v = []))
  unfold setA
  split at this <;> omega
theorem setA_mem {l : List (Txt × Txt)} {n v : Txt} {x : Txt × Txt} (h : x ∈ setA l n v) : x ∈ l ∨ (x = (n, v) ∧ v ≠ []) := by
  rcases setG_mem h with h | ⟨h, hd⟩
  · exact .inl h
  · exact .inr ⟨h, by simpa using hd⟩
theorem setG_true {n v : Txt} : ∀ {l : List (Txt × Txt)}, setG n v true l = l.filter fun x => !decide (x.1 = n)
  | [] => by simp [setG]
  | y :: r => by
    unfold setG
    rw [Bool.true_or, setG_true]
    by_cases h : y.1 = n <;> simp [h]
theorem setG_asc {n v : Txt} : ∀ {l : List (Txt × Txt)} {done : Bool}, ascA l → (done = true → True) → ascA (setG n v done l)
  | l, true, h, _ => by rw [setG_true]; exact h.sublist List.filter_sublist
  | [], false, _, _ => by simp [setG, ascA]
  | y :: r, false, h, _ => by
    have h1 := List.pairwise_cons.1 h
    unfold setG
    by_cases hc : y.1 < n
    · have hne : ¬ y.1 = n := fun e => by rw [e] at hc; exact List.lt_irrefl _ hc
      simp only [hc, decide_true, Bool.not_true, Bool.and_false, Bool.false_eq_true, if_false, List.nil_append, hne, Bool.or_false, List.singleton_append]
      refine List.pairwise_cons.2 ⟨fun x hx => ?_, setG_asc h1.2 (fun _ => trivial)⟩
      rcases setG_mem hx with hx | ⟨rfl, _⟩
      · exact h1.1 x hx
      · exact hc
    · have hge : ∀ x ∈ r, n < x.1 := fun x hx => by
        have h2 := h1.1 x hx
        exact List.lt_of_le_of_lt (List.not_lt.1 hc) h2
      simp only [hc, decide_false, Bool.not_false, Bool.and_true, if_true, Bool.or_true, setG_true]
      have hf : (r.filter fun x => !decide (x.1 = n)) = r := List.filter_eq_self.2 fun x hx => by
        have h3 := hge x hx
        have h4 : ¬ x.1 = n := fun e => by rw [e] at h3; exact List.lt_irrefl _ h3
        simp [h4]
      rw [hf]
      by_cases he : y.1 = n
      · simp only [he, if_true, List.nil_append, List.singleton_append]
        exact List.pairwise_cons.2 ⟨hge, h1.2⟩
      · simp only [he, if_false, List.singleton_append]
        have hlt : n < y.1 := by
          rcases List.le_iff_lt_or_eq.1 (List.not_lt.1 hc) with h5 | h5
          · exact h5
          · exact absurd h5.symm he
        refine List.pairwise_cons.2 ⟨fun x hx => ?_, h⟩
        rcases List.mem_cons.1 hx with rfl | hx
        · exact hlt
        · exact hge x hx
theorem setA_asc {l : List (Txt × Txt)} {n v : Txt} (h : ascA l) : ascA (setA l n v) := setG_asc h fun _ => trivial
end Go.Ab
namespace Go.Ab
open Go Go.Proofs Go.Sort
def anS : List Txt := [[115, 105, 122, 101], [118, 101, 110, 100, 111, 114], [97, 100, 100, 114, 101, 115, 115], [105, 110, 100, 101, 120], [115, 108, 111, 116]]
def avS : List Txt := [[49], [50], [97, 99, 109, 101], [97, 97, 58, 98, 98]]
def ctS : List Txt := [[], [102, 115, 58, 117, 49, 58, 114, 111, 111, 116], [102, 115, 58, 117, 50, 58], [114, 97, 105, 100, 58, 114, 49, 58, 49, 47, 50, 47, 49, 40, 102, 115, 58, 117, 51, 58, 100, 97, 116, 97, 41], [114, 97, 105, 100, 58, 114, 49, 58, 50, 47, 50, 47, 49, 40, 102, 115, 58, 117, 51, 58, 100, 97, 116, 97, 41], [99, 114, 121, 112, 116, 58, 99, 49, 40, 102, 115, 58, 117, 52, 58, 41], [112, 118, 58, 103, 49, 58, 49, 47, 49, 40, 102, 115, 58, 117, 53, 58, 44, 41], [116, 97, 98, 108, 101, 58, 116, 49, 40, 102, 115, 58, 117, 54, 58, 98, 111, 111, 116, 44, 114, 97, 105, 100, 58, 114, 49, 58, 50, 47, 50, 47, 49, 40, 102, 115, 58, 117, 51, 58, 100, 97, 116, 97, 41, 41], [98, 97, 100, 40]]
def cont : Txt := [99, 111, 110, 116, 101, 110, 116]
def sbS : List Txt := [[98, 108, 111, 99, 107], [117, 115, 98], [110, 101, 116], [112, 99, 105]]
def drS : List Txt := [[], [104, 105, 100], [110, 105, 99]]
def alS : List Txt := [[], [117, 115, 98, 58, 118, 49], [112, 99, 105, 58, 100, 50], [117, 115, 98, 58, 118, 50]]
def textP (s : Txt) : Bool := (s.all fun c => decide (32 ≤ c.toNat) && decide (c.toNat ≤ 126)) && decide (s.length ≤ 256)
structure Fine (d : Dvc) : Prop where
  o : d.orig ∈ oS
  k : 1 ≤ d.kind ∧ d.kind ≤ 4
  net : d.kind = 4 → d.name ∈ ifS ∧ d.orig ∈ ifS
  non : d.kind ≠ 4 → d.name = d.orig
  bc : d.kind = 2 ∨ d.kind = 3 → d.orig ∈ blS ++ chS ∧ 1 ≤ d.num ∧ d.num ≤ 9
  nb : ¬ (d.kind = 2 ∨ d.kind = 3) → d.num = 0
  s : d.sub ∈ sbS
  dr : d.drv ∈ drS
  al : d.ali ∈ alS
  aa : ascA d.attrs
  am : ∀ x ∈ d.attrs, x.1 ∈ cont :: anS ∧ x.2 ∈ avS ++ ctS ∧ x.2 ≠ []
theorem Fine.oS {d : Dvc} (h : Fine d) : d.orig ∈ oS := h.o
theorem asc_names {l : List (Txt × Txt)} (h : ascA l) : (l.map (·.1)).Nodup := by
  unfold List.Nodup
  rw [List.pairwise_map]
  exact h.imp (S := fun a b => a.1 ≠ b.1) fun {a b} h e => by rw [e] at h; exact List.lt_irrefl _ h
theorem Fine.al6 {d : Dvc} (h : Fine d) : d.attrs.length ≤ 6 := by
  have := nodup_sub (asc_names h.aa) (U := cont :: anS) fun x hx => by
    obtain ⟨y, hy, rfl⟩ := List.mem_map.1 hx
    exact (h.am y hy).1
  rw [List.length_map] at this
  exact this
theorem an_v : ∀ x ∈ cont :: anS, validB x = true := by decide +kernel
theorem av_t : ∀ x ∈ avS ++ ctS, textP x = true := by decide +kernel
theorem sb_v : ∀ x ∈ sbS, validB x = true := by decide +kernel
theorem dr_v : ∀ x ∈ drS, x = [] ∨ validB x = true := by decide +kernel
theorem al_t : ∀ x ∈ alS, textP x = true := by decide +kernel
theorem ifS_i : ∀ x ∈ ifS, x ∈ oS ∧ x.length ≤ 15 ∧ (∀ c ∈ x, c ≠ 58 ∧ c ≠ 33) := by decide +kernel
theorem Fine.nv {d : Dvc} (h : Fine d) : validB d.name = true := by
  by_cases h4 : d.kind = 4
  · exact (oS_v _ (ifS_i _ (h.net h4).1).1).1
  · rw [h.non h4]; exact (oS_v _ h.o).1
end Go.Ab
