/- Regions of our own given up: from then on frozen lists. -/
import Derived.Test.YtneghlianebffaaGreatDoorA5
import Derived.Shelf.GgSortFunc.RowK
import Derived.Sort.EncStr
namespace Go.Ab
open Go
set_option linter.unusedSectionVars false
variable [Glob]
def frzCx (c : Cx) (o : Nat) : Cx := ⟨fun b => c.F b ∨ Owner c o b, c.μ, c.H.set o .dead, c.w⟩
theorem frz_own {c : Cx} {o p b : Nat} (hol : o < c.H.length) (h : Owner (frzCx c o) p b) : p ≠ o ∧ Owner c p b := by
  obtain ⟨x, v, h1, h2, h3, h4⟩ := h
  have h1' : (c.H.set o .dead)[p]? = some x := h1
  by_cases hp : o = p
  · subst hp
    rw [List.getElem?_set_self hol] at h1'
    cases h1'; simp [AObj.alive] at h2
  · rw [List.getElem?_set_ne hp] at h1'
    exact ⟨fun e => hp e.symm, x, v, h1', h2, h3, h4⟩
theorem frz_ext {c : Cx} {o e sz : Nat} {l : List (List AV)} (ho : c.H[o]? = some (.reg e sz l)) : VExt c (frzCx c o) :=
  ⟨fun _ h => .inl h, fun _ _ => rfl, fun p x _ hx => by
    by_cases hp : o = p
    · subst hp
      rw [ho] at hx; cases hx
      exact ⟨.dead, List.getElem?_set_self (List.getElem?_eq_some_iff.1 ho).1, trivial⟩
    · exact ⟨x, (List.getElem?_set_ne hp).trans hx, OStep.refl _ _⟩⟩
theorem frz_rel {c : Cx} (hr : Rel c) {o e sz : Nat} {l : List (List AV)} (ho : c.H[o]? = some (.reg e sz l)) (k : Nat) : Rel (frzCx c o) ∧ ExtN k c (frzCx c o) := by
  have hol : o < c.H.length := (List.getElem?_eq_some_iff.1 ho).1
  have hV := frz_ext (c := c) ho
  refine ⟨⟨by show c.μ.length = (c.H.set o _).length; rw [List.length_set]; exact hr.len, fun p x hx => ?_, fun p q b h1 h2 => hr.inj p q b (frz_own hol h1).2 (frz_own hol h2).2, fun p b h => ?_, fun b h => ?_, hr.gl, hr.gb, fun p b h => hr.go p b (frz_own hol h).2⟩,
    ⟨fun _ h => .inl h, fun _ h => h.imp id fun h => .inr ⟨o, h⟩, fun _ _ _ => rfl, Nat.le_refl _, rfl, rfl, rfl, fun p b h => .inr ⟨p, (frz_own hol h).2⟩, fun p x _ hx => ?_⟩⟩
  · have hx' : (c.H.set o .dead)[p]? = some x := hx
    by_cases hp : o = p
    · subst hp
      rw [List.getElem?_set_self hol] at hx'; cases hx'
      trivial
    · rw [List.getElem?_set_ne hp] at hx'
      exact ObjOk_ext hV (hr.obj p x hx') hx' rfl fun _ _ => rfl
  · obtain ⟨hne, h2⟩ := frz_own hol h
    rintro (h3 | h3)
    · exact hr.free p b h2 h3
    · exact hne (hr.inj p o b h2 h3)
  · rcases h with h | ⟨x, v, h1, _, h3, h4⟩
    · exact hr.lt b h
    · rw [ho] at h1; cases h1
      obtain ⟨v', h5, h6⟩ := hr.obj o _ ho
      rw [h3] at h5; cases h5
      rcases h6 with ⟨rfl, _⟩ | ⟨g, o0, cap, cur, rfl, h7, _⟩
      · cases h4
      · cases h4
        exact (Array.getElem?_eq_some_iff.1 h7).1
  · by_cases hp : o = p
    · subst hp
      rw [ho] at hx; cases hx
      exact ⟨.dead, List.getElem?_set_self hol, trivial⟩
    · exact ⟨x, (List.getElem?_set_ne hp).trans hx, OStep.refl _ _⟩
theorem frz_val {c : Cx} (hr : Rel c) {o e sz : Nat} {l : List (List AV)} (ho : c.H[o]? = some (.reg e sz l)) {v : Value} (hv : Val c (.own o l.length) v) : Val (frzCx c o) (.imm l) v := by
  have hV := frz_ext (c := c) ho
  simp only [Val] at hv
  obtain ⟨_, hv⟩ := hv
  rcases hv with ⟨e', sz', l', h1, _, h3⟩ | h1
  rotate_left
  · rw [ho] at h1; cases h1
  rw [ho] at h1; cases h1
  obtain ⟨v', h5, h6⟩ := hr.obj o _ ho
  rw [h3 rfl] at h5; cases h5
  rcases h6 with ⟨rfl, rfl⟩ | ⟨g, o0, cap, cur, rfl, h7, h8, _, _, h11⟩
  · simp only [Val]; exact .inr ⟨trivial, _, _, rfl⟩
  · simp only [Val]
    exact .inl ⟨g, o0, cap, sz, rfl, .inr ⟨_, _, ho, rfl, h3 rfl, rfl⟩, h8, RowsAt_ext hV _ _ _ _ rfl h11⟩
theorem Wk.frz {k : Nat} {T : List AV} {H : List AObj} {e sz : Nat} {l : List (List AV)} (i o : Nat) (ho : H[o]? = some (.reg e sz l)) (hi : T[i]? = some (.own o l.length)) : Wk k ⟨T, H⟩ ⟨T.set i (.imm l), H.set o .dead⟩ := fun c a hr hH hF => by
  have hH' : c.H = H := hH
  subst hH'
  obtain ⟨r1, e1⟩ := frz_rel hr ho k
  have hV := frz_ext (c := c) ho
  refine ⟨frzCx c o, rfl, r1, e1, rfl, by simpa using hF.1, hF.2.1, fun j => ?_⟩
  by_cases hj : i = j
  · subst hj
    have hv := hF.2.2 i
    rw [hi, Option.getD_some] at hv
    rw [List.getElem?_set_self (List.getElem?_eq_some_iff.1 hi).1, Option.getD_some]
    exact frz_val hr ho hv
  · rw [List.getElem?_set_ne hj]
    exact Val_ext hV _ _ (hF.2.2 j)
end Go.Ab
namespace Go.Ab
open Go
set_option linter.unusedSectionVars false
theorem ConvLL_append {H : List AObj} {k0 : Nat} {ex : List Nat} {b b' : List (List AV)} (hb : ConvLL H k0 ex b b') : ∀ {a a' : List (List AV)}, ConvLL H k0 ex a a' → ConvLL H k0 ex (a ++ b) (a' ++ b')
  | _, _, .nil => hb
  | _, _, .cons x y xs ys h h2 => .cons x y _ _ h (ConvLL_append hb h2)
theorem ConvLL_one {H : List AObj} {k0 : Nat} {ex : List Nat} {x y : AV} (h : Conv H k0 ex x y) : ConvLL H k0 ex [[x]] [[y]] := .cons _ _ _ _ (.cons _ _ _ _ h .nil) .nil
theorem ConvL_at {H : List AObj} {k0 : Nat} {ex : List Nat} : ∀ {xs ys : List AV}, ConvL H k0 ex xs ys → ∀ n : Nat, Conv H k0 ex ((xs[n]?).getD .junk) ((ys[n]?).getD .junk)
  | _, _, .nil, n => by simpa using .junk _
  | _, _, .cons x y xs ys h h2, n => by
    cases n with
    | zero => exact h
    | succ n => exact ConvL_at h2 n
theorem ConvL_set {H : List AObj} {k0 : Nat} {ex : List Nat} {x y : AV} (h : Conv H k0 ex x y) : ∀ {xs ys : List AV} {i : Nat}, ConvL H k0 ex xs ys → xs[i]? = some x → ConvL H k0 ex xs (ys.set i y)
  | _, _, _, .nil, hx => by simp at hx
  | _, _, i, .cons a b xs ys h1 h2, hx => by
    cases i with
    | zero => simp at hx; subst hx; exact .cons _ _ _ _ h h2
    | succ i => exact .cons _ _ _ _ h1 (ConvL_set h h2 (by simpa using hx))
theorem ConvH_of {H H' : List AObj} (h : H'.length ≤ H.length) (hl : ∀ (o : Nat) (x y : AObj), H[o]? = some x → H'[o]? = some y → ConvO H H'.length [] x y) : ConvH H H'.length [] H' :=
  ⟨h, by simp, List.nodup_nil, by simp, fun o x y _ hx hy => hl o x y hx hy, by simp⟩
variable [Glob]
theorem Wk.cutC {k : Nat} {T T' : List AV} {H H' : List AObj} (hk : k ≤ H'.length) (hT : ConvL H H'.length [] T T') (hC : ConvH H H'.length [] H') : Wk k ⟨T, H⟩ ⟨T', H'⟩ := fun c a hr hHc hF => by
  have hHc' : c.H = H := hHc
  subst hHc'
  have hlen : T.length = T'.length := (ConvL_length hT).symm
  refine ⟨retCx c H'.length [] H', rfl, ret_rel hr hC, ?_, rfl, ?_⟩
  · refine ⟨fun b hb => .inl hb, fun b hb => ?_, fun b _ _ => rfl, Nat.le_refl _, rfl, rfl, rfl, fun o b ho => ?_, fun o x ho hx => ?_⟩
    · rcases hb with hb | ⟨o, _, _, h3⟩
      · exact .inl hb
      · exact .inr (.inr ⟨o, h3⟩)
    · obtain ⟨p, h1, _⟩ := ret_owner hr hC ho
      exact .inr ⟨p, h1⟩
    · exact (ret_vsub hr hC).obj o x (by omega) hx
  · exact ⟨by rw [← hlen]; exact hF.1, hF.2.1, fun n => conv_val hr hC (ConvL_at hT n) (hF.2.2 n)⟩
theorem Wk.cut1 {k n : Nat} {T : List AV} {H H' : List AObj} (i : Nat) (x y : AV) (R : List (Nat × AV)) (hk : k ≤ H'.length) (hx : T[i]? = some x) (hc : Conv H H'.length [] x y) (hT : cvT H H'.length T (tmps n R)) (hH : ConvH H H'.length [] H') : Wk k ⟨T, H⟩ ⟨tmps n ((i, y) :: R), H'⟩ := by
  refine Wk.cutC hk ?_ hH
  exact ConvL_set hc (cvT_conv hT) hx
end Go.Ab
namespace Go.Ab
open Go Go.Sort
set_option linter.unusedSectionVars false
variable [Glob]
structure Enc {α : Type} (f : α → List AV) (enc : α → List Value) (sz : Nat) : Prop where
  fl : ∀ x, (f x).length = sz
  el : ∀ x, (enc x).length = sz
  v : ∀ (c : Cx) (x : α) (j : Nat) (a : AV) (v : Value), (f x)[j]? = some a → (Val c a v ↔ (enc x)[j]? = some v)
  o : ∀ x, ∀ v ∈ enc x, v.oneCell' = true
variable {α : Type} [Inhabited α] {f : α → List AV} {enc : α → List Value} {sz : Nat}
end Go.Ab
namespace Go.Ab
open Go
abbrev Txt := List UInt8
structure POrd (pb : Txt → Bool) (lt : Txt → Txt → Bool) : Prop where
  irr : ∀ a, lt a a = false
  tr : ∀ a b c, lt a b = true → lt b c = true → lt a c = true
  tot : ∀ a b, pb a = true → pb b = true → lt a b = false → lt b a = false → a = b
structure Cl where
  link : Txt
  path : Txt
  node : Txt
  prio : Int
structure Lk where
  name : Txt
  node : Txt
  path : Txt
def benB (a b : Txt) : Bool := (a ++ [47]).isPrefixOf b
def toLk (c : Cl) : Lk := ⟨c.link, c.node, c.path⟩
section
variable {pb : Txt → Bool} {lt : Txt → Txt → Bool}
variable (lt) in
def betB (a b : Cl) : Bool := decide (a.prio > b.prio) || (decide (a.prio = b.prio) && lt a.path b.path)
variable (lt) in
def bestC (O : List Cl) (c : Cl) : Prop := c ∈ O ∧ ∀ d ∈ O, d.link = c.link → betB lt d c = false
variable (pb) in
def okCl (O : List Cl) : Prop := (∀ c ∈ O, pb c.path = true) ∧ O.Pairwise fun c d => ¬ (c.link = d.link ∧ c.path = d.path)
theorem okCl.inj {O : List Cl} (h : okCl pb O) {c d : Cl} (hc : c ∈ O) (hd : d ∈ O) (h1 : c.link = d.link) (h2 : c.path = d.path) : c = d := by
  obtain ⟨i, hi, rfl⟩ := List.mem_iff_getElem.1 hc
  obtain ⟨j, hj, rfl⟩ := List.mem_iff_getElem.1 hd
  have hp := List.pairwise_iff_getElem.1 h.2
  rcases Nat.lt_trichotomy i j with h3 | h3 | h3
  · exact absurd ⟨h1, h2⟩ (hp i j hi hj h3)
  · subst h3; rfl
  · exact absurd ⟨h1.symm, h2.symm⟩ (hp j i hj hi h3)
variable (lt) in
structure ResOf (O : List Cl) (L : List Lk) : Prop where
  asc : L.Pairwise fun a b => a.name < b.name
  mem : ∀ x, x ∈ L ↔ ∃ c, bestC lt O c ∧ toLk c = x ∧ ∀ d ∈ O, benB c.link d.link = false
structure BestM (O : List Cl) (m : SMap Cl) : Prop where
  o : oneS' m
  b : ∀ k c, getS k m = some c → bestC lt O c ∧ c.link = k
  a : ∀ d ∈ O, (getS d.link m).isSome = true
theorem BestM.nil : BestM (lt := lt) [] [] := ⟨trivial, fun k c h => by simp [getS] at h, by simp⟩
theorem BestM.new {O : List Cl} {m : SMap Cl} (h : BestM (lt := lt) O m) (hO : POrd pb lt) {c : Cl} (hn : getS c.link m = none) : BestM (lt := lt) (O ++ [c]) (setS c.link c m) := by
  have hnl : ∀ d ∈ O, d.link ≠ c.link := fun d hd e => by
    have := h.a d hd
    rw [e, hn] at this; cases this
  refine ⟨one_set _ _ h.o, fun k x hx => ?_, fun d hd => ?_⟩
  · rw [get_set] at hx
    split at hx
    · rename_i e
      cases hx
      refine ⟨⟨by simp, fun d hd e2 => ?_⟩, e⟩
      rcases List.mem_append.1 hd with hd | hd
      · exact absurd e2 (hnl d hd)
      · rw [List.mem_singleton.1 hd]; simp [betB, hO.irr]
    · rename_i e
      obtain ⟨h1, h2⟩ := h.b k x hx
      refine ⟨⟨by simp [h1.1], fun d hd e2 => ?_⟩, h2⟩
      rcases List.mem_append.1 hd with hd | hd
      · exact h1.2 d hd e2
      · rw [List.mem_singleton.1 hd] at e2
        exact absurd (e2.trans h2) e
  · rw [get_set]
    split
    · rfl
    · rename_i e
      rcases List.mem_append.1 hd with hd | hd
      · exact h.a d hd
      · rw [List.mem_singleton.1 hd] at e; exact absurd rfl e
end
/-! ### Lists of texts that ascend -/
def ascT (l : List Txt) : Prop := l.Pairwise (· < ·)
end Go.Ab
namespace Go.Ab
open Go
structure Own where
  node : Txt
  links : List Txt
  prio : Int
abbrev Dv := Txt × Own
section
variable {pb : Txt → Bool} {lt : Txt → Txt → Bool}
variable (pb lt) in
structure TabW (w : List Dv) : Prop where
  p : ∀ d ∈ w, pb d.1 = true
  a : w.Pairwise fun a b => lt a.1 b.1 = true
  n : w.Pairwise fun a b => a.2.node ≠ b.2.node
  l : ∀ d ∈ w, ascT d.2.links
variable (pb lt) in
structure TabL (m : SMap Own) (w : List Dv) : Prop extends TabW pb lt w where
  o : oneS' m
  g : ∀ p x, getS p m = some x ↔ (p, x) ∈ w
theorem TabW.nil : TabW pb lt [] := ⟨by simp, .nil, .nil, by simp⟩
theorem TabL.nil : TabL pb lt [] [] := ⟨.nil, trivial, by simp [getS]⟩
theorem TabW.sub {w w' : List Dv} (h : TabW pb lt w) (hs : w'.Sublist w) : TabW pb lt w' :=
  ⟨fun d hd => h.p d (hs.subset hd), h.a.sublist hs, h.n.sublist hs, fun d hd => h.l d (hs.subset hd)⟩
def dropD (w : List Dv) (p : Txt) : List Dv := w.filter fun d => !decide (d.1 = p)
variable (lt) in
def insD : List Dv → Dv → List Dv
  | [], d => [d]
  | x :: r, d => if lt x.1 d.1 = true then x :: insD r d else d :: x :: r
theorem insD_mem {d y : Dv} : ∀ {w : List Dv}, y ∈ insD lt w d ↔ y = d ∨ y ∈ w
  | [] => by simp [insD]
  | x :: r => by
    unfold insD
    split
    · simp only [List.mem_cons, insD_mem (w := r)]
      constructor
      · rintro (h | h | h) <;> simp [h]
      · rintro (h | h | h) <;> simp [h]
    · simp
theorem insD_asc (hO : POrd pb lt) {d : Dv} (hd : pb d.1 = true) : ∀ {w : List Dv}, (∀ x ∈ w, pb x.1 = true ∧ x.1 ≠ d.1) → w.Pairwise (fun a b => lt a.1 b.1 = true) → (insD lt w d).Pairwise fun a b => lt a.1 b.1 = true
  | [], _, _ => by simp [insD]
  | x :: r, hw, h => by
    rw [List.pairwise_cons] at h
    unfold insD
    split
    · rename_i hx
      rw [List.pairwise_cons]
      refine ⟨fun y hy => ?_, insD_asc hO hd (fun z hz => hw z (by simp [hz])) h.2⟩
      rcases insD_mem.1 hy with rfl | hy
      · exact hx
      · exact h.1 y hy
    · rename_i hx
      have h3 : lt d.1 x.1 = true := by
        cases h4 : lt d.1 x.1 with
        | true => rfl
        | false => exact absurd (hO.tot _ _ (hw x (by simp)).1 hd (by simpa using hx) h4) (hw x (by simp)).2
      rw [List.pairwise_cons, List.pairwise_cons]
      refine ⟨fun y hy => ?_, h⟩
      rcases List.mem_cons.1 hy with rfl | hy
      · exact h3
      · exact hO.tr _ _ _ h3 (h.1 y hy)
theorem insD_node {d : Dv} : ∀ {w : List Dv}, (∀ x ∈ w, x.2.node ≠ d.2.node) → w.Pairwise (fun a b => a.2.node ≠ b.2.node) → (insD lt w d).Pairwise fun a b => a.2.node ≠ b.2.node
  | [], _, _ => by simp [insD]
  | x :: r, hw, h => by
    rw [List.pairwise_cons] at h
    unfold insD
    split
    · rw [List.pairwise_cons]
      refine ⟨fun y hy => ?_, insD_node (fun z hz => hw z (by simp [hz])) h.2⟩
      rcases insD_mem.1 hy with rfl | hy
      · exact hw x (by simp)
      · exact h.1 y hy
    · rw [List.pairwise_cons, List.pairwise_cons]
      refine ⟨fun y hy => ?_, h⟩
      exact fun e => hw y hy e.symm
theorem TabW.drop {w : List Dv} (h : TabW pb lt w) (p : Txt) : TabW pb lt (dropD w p) := h.sub List.filter_sublist
theorem TabW.put (hO : POrd pb lt) {w : List Dv} (h : TabW pb lt w) {d : Dv} (hp : pb d.1 = true) (hl : ascT d.2.links) (hn : ∀ x ∈ w, x.1 ≠ d.1 → x.2.node ≠ d.2.node) : TabW pb lt (insD lt (dropD w d.1) d) := by
  have h1 := h.drop d.1
  have hne : ∀ x ∈ dropD w d.1, x ∈ w ∧ x.1 ≠ d.1 := fun x hx => by simpa [dropD] using hx
  refine ⟨fun x hx => ?_, insD_asc hO hp (fun x hx => ⟨h.p x (hne x hx).1, (hne x hx).2⟩) h1.a, insD_node (fun x hx => hn x (hne x hx).1 (hne x hx).2) h1.n, fun x hx => ?_⟩
  · rcases insD_mem.1 hx with rfl | hx
    · exact hp
    · exact h1.p x hx
  · rcases insD_mem.1 hx with rfl | hx
    · exact hl
    · exact h1.l x hx
theorem TabL.drop {m : SMap Own} {w : List Dv} (h : TabL pb lt m w) (p : Txt) : TabL pb lt (delS p m) (dropD w p) := by
  refine ⟨h.toTabW.drop p, one_del p h.o, fun q x => ?_⟩
  rw [get_del _ _ h.o]
  simp only [dropD, List.mem_filter, Bool.not_eq_true', decide_eq_false_iff_not]
  split
  · rename_i e; subst e; simp
  · rename_i e
    rw [h.g]
    exact ⟨fun hx => ⟨hx, fun e2 => e e2.symm⟩, fun hx => hx.1⟩
theorem TabL.put (hO : POrd pb lt) {m : SMap Own} {w : List Dv} (h : TabL pb lt m w) {p : Txt} {x : Own} (hp : pb p = true) (hl : ascT x.links) (hn : ∀ d ∈ w, d.1 ≠ p → d.2.node ≠ x.node) : TabL pb lt (setS p x m) (insD lt (dropD w p) (p, x)) := by
  refine ⟨h.toTabW.put hO (d := (p, x)) hp hl hn, one_set p x h.o, fun q y => ?_⟩
  rw [get_set, insD_mem]
  simp only [dropD, List.mem_filter, Bool.not_eq_true', decide_eq_false_iff_not, Prod.mk.injEq]
  split
  · rename_i e; subst e
    simp [eq_comm]
  · rename_i e
    rw [h.g]
    constructor
    · exact fun hx => .inr ⟨hx, fun e2 => e e2.symm⟩
    · rintro (⟨e2, _⟩ | hx)
      · exact absurd e2.symm e
      · exact hx.1
theorem okCl.sub {O O' : List Cl} (h : okCl pb O) (hs : O'.Sublist O) : okCl pb O' := ⟨fun c hc => h.1 c (hs.subset hc), h.2.sublist hs⟩
end
end Go.Ab
namespace Go.Ab
open Go
section
variable {pb : Txt → Bool} {lt : Txt → Txt → Bool}
end
end Go.Ab
