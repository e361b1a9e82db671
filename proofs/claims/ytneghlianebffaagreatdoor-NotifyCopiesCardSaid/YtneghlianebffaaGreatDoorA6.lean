/- Regions of our own given up: from then on frozen lists. -/
import Derived.Test.YtneghlianebffaaGreatDoorA5
import Derived.Shelf.GgSortFunc.RowK
import Derived.Sort.EncStr
namespace Go.Ab
open Go
set_option linter.unusedSectionVars false
variable [Glob]
def QOh (c:Cx) (o:Nat):Cx:=⟨fun b=>c.F b ∨ QBi c o b,c.μ,c.H.set o .dead,c.w⟩
theorem QIt {c:Cx} {o p b:Nat} (hol:o < c.H.length) (h:QBi (QOh c o) p b):p ≠ o ∧ QBi c p b:=by
 obtain ⟨x,v,h1,h2,h3,h4⟩:=h
 have h1':(c.H.set o .dead)[p]? = some x:=h1
 by_cases hp:o = p
 ·subst hp
  rw [List.getElem?_set_self hol] at h1'
  cases h1'; simp [AObj.alive] at h2
 ·rw [List.getElem?_set_ne hp] at h1'
  exact ⟨fun e=>hp e.symm,x,v,h1',h2,h3,h4⟩
theorem QMp {c:Cx} {o e sz:Nat} {l:List (List AV)} (ho:c.H[o]? = some (.reg e sz l)):QIx c (QOh c o):=
 ⟨fun _ h=>.inl h,fun _ _=>rfl,fun p x _ hx=>by
  by_cases hp:o = p
  ·subst hp
   rw [ho] at hx; cases hx
   exact ⟨.dead,List.getElem?_set_self (List.getElem?_eq_some_iff.1 ho).1,trivial⟩
  ·exact ⟨x,(List.getElem?_set_ne hp).trans hx,OStep.refl _ _⟩⟩
theorem QVo {c:Cx} (hr:Rel c) {o e sz:Nat} {l:List (List AV)} (ho:c.H[o]? = some (.reg e sz l)) (k:Nat):Rel (QOh c o) ∧ ExtN k c (QOh c o):=by
 have hol:o < c.H.length:=(List.getElem?_eq_some_iff.1 ho).1
 have hV:=QMp (c:=c) ho
 refine ⟨⟨by show c.μ.length = (c.H.set o _).length; rw [List.length_set]; exact hr.len,fun p x hx=>?_,fun p q b h1 h2=>hr.inj p q b (QIt hol h1).2 (QIt hol h2).2,fun p b h=>?_,fun b h=>?_,hr.gl,hr.gb,fun p b h=>hr.go p b (QIt hol h).2⟩,
  ⟨fun _ h=>.inl h,fun _ h=>h.imp id fun h=>.inr ⟨o,h⟩,fun _ _ _=>rfl,Nat.le_refl _,rfl,rfl,rfl,fun p b h=>.inr ⟨p,(QIt hol h).2⟩,fun p x _ hx=>?_⟩⟩
 ·have hx':(c.H.set o .dead)[p]? = some x:=hx
  by_cases hp:o = p
  ·subst hp
   rw [List.getElem?_set_self hol] at hx'; cases hx'
   trivial
  ·rw [List.getElem?_set_ne hp] at hx'
   exact QDn hV (hr.obj p x hx') hx' rfl fun _ _=>rfl
 ·obtain ⟨hne,h2⟩:=QIt hol h
  rintro (h3 | h3)
  ·exact hr.free p b h2 h3
  ·exact hne (hr.inj p o b h2 h3)
 ·rcases h with h | ⟨x,v,h1,_,h3,h4⟩
  ·exact hr.lt b h
  ·rw [ho] at h1; cases h1
   obtain ⟨v',h5,h6⟩:=hr.obj o _ ho
   rw [h3] at h5; cases h5
   rcases h6 with ⟨rfl,_⟩ | ⟨g,o0,cap,cur,rfl,h7,_⟩
   ·cases h4
   ·cases h4
    exact (Array.getElem?_eq_some_iff.1 h7).1
 ·by_cases hp:o = p
  ·subst hp
   rw [ho] at hx; cases hx
   exact ⟨.dead,List.getElem?_set_self hol,trivial⟩
  ·exact ⟨x,(List.getElem?_set_ne hp).trans hx,OStep.refl _ _⟩
theorem QVp {c:Cx} (hr:Rel c) {o e sz:Nat} {l:List (List AV)} (ho:c.H[o]? = some (.reg e sz l)) {v:Value} (hv:Val c (.own o l.length) v):Val (QOh c o) (.imm l) v:=by
 have hV:=QMp (c:=c) ho
 simp only [Val] at hv
 obtain ⟨_,hv⟩:=hv
 rcases hv with ⟨e',sz',l',h1,_,h3⟩ | h1
 rotate_left
 ·rw [ho] at h1; cases h1
 rw [ho] at h1; cases h1
 obtain ⟨v',h5,h6⟩:=hr.obj o _ ho
 rw [h3 rfl] at h5; cases h5
 rcases h6 with ⟨rfl,rfl⟩ | ⟨g,o0,cap,cur,rfl,h7,h8,_,_,h11⟩
 ·simp only [Val]; exact .inr ⟨trivial,_,_,rfl⟩
 ·simp only [Val]
  exact .inl ⟨g,o0,cap,sz,rfl,.inr ⟨_,_,ho,rfl,h3 rfl,rfl⟩,h8,QDf hV _ _ _ _ rfl h11⟩
theorem Wk.frz {k:Nat} {T:List AV} {H:List AObj} {e sz:Nat} {l:List (List AV)} (i o:Nat) (ho:H[o]? = some (.reg e sz l)) (hi:T[i]? = some (.own o l.length)):Wk k ⟨T,H⟩ ⟨T.set i (.imm l),H.set o .dead⟩:=fun c a hr hH hF=>by
 have hH':c.H = H:=hH
 subst hH'
 obtain ⟨r1,e1⟩:=QVo hr ho k
 have hV:=QMp (c:=c) ho
 refine ⟨QOh c o,rfl,r1,e1,rfl,by simpa using hF.1,hF.2.1,fun j=>?_⟩
 by_cases hj:i = j
 ·subst hj
  have hv:=hF.2.2 i
  rw [hi,Option.getD_some] at hv
  rw [List.getElem?_set_self (List.getElem?_eq_some_iff.1 hi).1,Option.getD_some]
  exact QVp hr ho hv
 ·rw [List.getElem?_set_ne hj]
  exact QB1 hV _ _ (hF.2.2 j)
end Go.Ab
namespace Go.Ab
open Go
set_option linter.unusedSectionVars false
theorem QC8 {H:List AObj} {k0:Nat} {ex:List Nat} {b b':List (List AV)} (hb:QDB H k0 ex b b'):∀ {a a':List (List AV)},QDB H k0 ex a a' → QDB H k0 ex (a ++ b) (a' ++ b')
 | _,_,.nil=>hb
 | _,_,.cons x y xs ys h h2=>.cons x y _ _ h (QC8 hb h2)
theorem QJm {H:List AObj} {k0:Nat} {ex:List Nat} {x y:AV} (h:Conv H k0 ex x y):QDB H k0 ex [[x]] [[y]]:=.cons _ _ _ _ (.cons _ _ _ _ h .nil) .nil
theorem QNt {H:List AObj} {k0:Nat} {ex:List Nat}:∀ {xs ys:List AV},QEJ H k0 ex xs ys → ∀ n:Nat,Conv H k0 ex ((xs[n]?).getD .junk) ((ys[n]?).getD .junk)
 | _,_,.nil,n=>by simpa using .junk _
 | _,_,.cons x y xs ys h h2,n=>by
  cases n with
  | zero=>exact h
  | succ n=>exact QNt h2 n
theorem QLz {H:List AObj} {k0:Nat} {ex:List Nat} {x y:AV} (h:Conv H k0 ex x y):∀ {xs ys:List AV} {i:Nat},QEJ H k0 ex xs ys → xs[i]? = some x → QEJ H k0 ex xs (ys.set i y)
 | _,_,_,.nil,hx=>by simp at hx
 | _,_,i,.cons a b xs ys h1 h2,hx=>by
  cases i with
  | zero=>simp at hx; subst hx; exact .cons _ _ _ _ h h2
  | succ i=>exact .cons _ _ _ _ h1 (QLz h h2 (by simpa using hx))
theorem QEs {H H':List AObj} (h:H'.length ≤ H.length) (hl:∀ (o:Nat) (x y:AObj),H[o]? = some x → H'[o]? = some y → QFt H H'.length [] x y):QEY H H'.length [] H':=
 ⟨h,by simp,List.nodup_nil,by simp,fun o x y _ hx hy=>hl o x y hx hy,by simp⟩
variable [Glob]
theorem Wk.cutC {k:Nat} {T T':List AV} {H H':List AObj} (hk:k ≤ H'.length) (hT:QEJ H H'.length [] T T') (hC:QEY H H'.length [] H'):Wk k ⟨T,H⟩ ⟨T',H'⟩:=fun c a hr hHc hF=>by
 have hHc':c.H = H:=hHc
 subst hHc'
 have hlen:T.length = T'.length:=(QDQ hT).symm
 refine ⟨QHm c H'.length [] H',rfl,QJx hr hC,?_,rfl,?_⟩
 ·refine ⟨fun b hb=>.inl hb,fun b hb=>?_,fun b _ _=>rfl,Nat.le_refl _,rfl,rfl,rfl,fun o b ho=>?_,fun o x ho hx=>?_⟩
  ·rcases hb with hb | ⟨o,_,_,h3⟩
   ·exact .inl hb
   ·exact .inr (.inr ⟨o,h3⟩)
  ·obtain ⟨p,h1,_⟩:=QDl hr hC ho
   exact .inr ⟨p,h1⟩
  ·exact (QGF hr hC).obj o x (by omega) hx
 ·exact ⟨by rw [← hlen]; exact hF.1,hF.2.1,fun n=>QFO hr hC (QNt hT n) (hF.2.2 n)⟩
theorem Wk.cut1 {k n:Nat} {T:List AV} {H H':List AObj} (i:Nat) (x y:AV) (R:List (Nat × AV)) (hk:k ≤ H'.length) (hx:T[i]? = some x) (hc:Conv H H'.length [] x y) (hT:cvT H H'.length T (tmps n R)) (hH:QEY H H'.length [] H'):Wk k ⟨T,H⟩ ⟨tmps n ((i,y) :: R),H'⟩:=by
 refine Wk.cutC hk ?_ hH
 exact QLz hc (QGS hT) hx
end Go.Ab
namespace Go.Ab
open Go Go.Sort
set_option linter.unusedSectionVars false
variable [Glob]
structure Enc {α:Type} (f:α → List AV) (enc:α → List Value) (sz:Nat):Prop where
 fl:∀ x,(f x).length = sz
 el:∀ x,(enc x).length = sz
 v:∀ (c:Cx) (x:α) (j:Nat) (a:AV) (v:Value),(f x)[j]? = some a → (Val c a v ↔ (enc x)[j]? = some v)
 o:∀ x,∀ v ∈ enc x,v.oneCell' = true
variable {α:Type} [Inhabited α] {f:α → List AV} {enc:α → List Value} {sz:Nat}
end Go.Ab
namespace Go.Ab
open Go
abbrev Txt:=List UInt8
structure POrd (pb:Txt → Bool) (lt:Txt → Txt → Bool):Prop where
 irr:∀ a,lt a a = false
 tr:∀ a b c,lt a b = true → lt b c = true → lt a c = true
 tot:∀ a b,pb a = true → pb b = true → lt a b = false → lt b a = false → a = b
structure Cl where
 link:Txt
 path:Txt
 node:Txt
 prio:Int
structure Lk where
 name:Txt
 node:Txt
 path:Txt
def benB (a b:Txt):Bool:=(a ++ [47]).isPrefixOf b
def toLk (c:Cl):Lk:=⟨c.link,c.node,c.path⟩
theorem QKl {α:Type} {R:α → α → Prop} (ha:∀ a b,R a b → ¬ R b a):∀ {l l':List α},l.Pairwise R → l'.Pairwise R → (∀ x,x ∈ l ↔ x ∈ l') → l = l'
 | [],[],_,_,_=>rfl
 | [],y :: r,_,_,h=>by have:=(h y).2 (by simp); simp at this
 | y :: r,[],_,_,h=>by have:=(h y).1 (by simp); simp at this
 | x :: l,y :: l',h1,h2,h=>by
  rw [List.pairwise_cons] at h1 h2
  have hirr:∀ a,¬ R a a:=fun a h=>ha a a h h
  have e:x = y:=by
   rcases List.mem_cons.1 ((h x).1 (by simp)) with e | hx
   ·exact e
   ·rcases List.mem_cons.1 ((h y).2 (by simp)) with e | hy
    ·exact e.symm
    ·exact absurd (h1.1 y hy) (ha _ _ (h2.1 x hx))
  subst e
  congr 1
  refine QKl ha h1.2 h2.2 fun z=>⟨fun hz=>?_,fun hz=>?_⟩
  ·rcases List.mem_cons.1 ((h z).1 (by simp [hz])) with rfl | h3
   ·exact absurd (h1.1 _ hz) (hirr _)
   ·exact h3
  ·rcases List.mem_cons.1 ((h z).2 (by simp [hz])) with rfl | h3
   ·exact absurd (h2.1 _ hz) (hirr _)
   ·exact h3
section
variable {pb:Txt → Bool} {lt:Txt → Txt → Bool}
variable (lt) in
def betB (a b:Cl):Bool:=decide (a.prio > b.prio) || (decide (a.prio = b.prio) && lt a.path b.path)
variable (lt) in
def QYv (O:List Cl) (c:Cl):Prop:=c ∈ O ∧ ∀ d ∈ O,d.link = c.link → betB lt d c = false
variable (pb) in
def okCl (O:List Cl):Prop:=(∀ c ∈ O,pb c.path = true) ∧ O.Pairwise fun c d=>¬ (c.link = d.link ∧ c.path = d.path)
theorem okCl.inj {O:List Cl} (h:okCl pb O) {c d:Cl} (hc:c ∈ O) (hd:d ∈ O) (h1:c.link = d.link) (h2:c.path = d.path):c = d:=by
 obtain ⟨i,hi,rfl⟩:=List.mem_iff_getElem.1 hc
 obtain ⟨j,hj,rfl⟩:=List.mem_iff_getElem.1 hd
 have hp:=List.pairwise_iff_getElem.1 h.2
 rcases Nat.lt_trichotomy i j with h3 | h3 | h3
 ·exact absurd ⟨h1,h2⟩ (hp i j hi hj h3)
 ·subst h3; rfl
 ·exact absurd ⟨h1.symm,h2.symm⟩ (hp j i hj hi h3)
variable (lt) in
structure ResOf (O:List Cl) (L:List Lk):Prop where
 asc:L.Pairwise fun a b=>a.name < b.name
 mem:∀ x,x ∈ L ↔ ∃ c,QYv lt O c ∧ toLk c = x ∧ ∀ d ∈ O,benB c.link d.link = false
theorem QQr (a b:Txt):a < b → ¬ b < a:=fun h1 h2=>List.lt_irrefl _ (List.lt_trans h1 h2)
theorem ResOf.uniq {O:List Cl} {L L':List Lk} (h:ResOf lt O L) (h':ResOf lt O L'):L = L':=
 QKl (fun a b=>QQr a.name b.name) h.asc h'.asc fun x=>by rw [h.mem,h'.mem]
structure BestM (O:List Cl) (m:QAy Cl):Prop where
 o:QBI m
 b:∀ k c,QAo k m = some c → QYv lt O c ∧ c.link = k
 a:∀ d ∈ O,(QAo d.link m).isSome = true
theorem BestM.nil:BestM (lt:=lt) [] []:=⟨trivial,fun k c h=>by simp [QAo] at h,by simp⟩
theorem BestM.new {O:List Cl} {m:QAy Cl} (h:BestM (lt:=lt) O m) (hO:POrd pb lt) {c:Cl} (hn:QAo c.link m = none):BestM (lt:=lt) (O ++ [c]) (QBT c.link c m):=by
 have hnl:∀ d ∈ O,d.link ≠ c.link:=fun d hd e=>by
  have:=h.a d hd
  rw [e,hn] at this; cases this
 refine ⟨QDw _ _ h.o,fun k x hx=>?_,fun d hd=>?_⟩
 ·rw [QCM] at hx
  split at hx
  ·rename_i e
   cases hx
   refine ⟨⟨by simp,fun d hd e2=>?_⟩,e⟩
   rcases List.mem_append.1 hd with hd | hd
   ·exact absurd e2 (hnl d hd)
   ·rw [List.mem_singleton.1 hd]; simp [betB,hO.irr]
  ·rename_i e
   obtain ⟨h1,h2⟩:=h.b k x hx
   refine ⟨⟨by simp [h1.1],fun d hd e2=>?_⟩,h2⟩
   rcases List.mem_append.1 hd with hd | hd
   ·exact h1.2 d hd e2
   ·rw [List.mem_singleton.1 hd] at e2
    exact absurd (e2.trans h2) e
 ·rw [QCM]
  split
  ·rfl
  ·rename_i e
   rcases List.mem_append.1 hd with hd | hd
   ·exact h.a d hd
   ·rw [List.mem_singleton.1 hd] at e; exact absurd rfl e
end
/-! ### Lists of texts that ascend -/
def Qaf (l:List Txt):Prop:=l.Pairwise (· < ·)
end Go.Ab
namespace Go.Ab
open Go
structure Own where
 node:Txt
 links:List Txt
 prio:Int
abbrev Dv:=Txt × Own
section
variable {pb:Txt → Bool} {lt:Txt → Txt → Bool}
variable (pb lt) in
structure TabW (w:List Dv):Prop where
 p:∀ d ∈ w,pb d.1 = true
 a:w.Pairwise fun a b=>lt a.1 b.1 = true
 n:w.Pairwise fun a b=>a.2.node ≠ b.2.node
 l:∀ d ∈ w,Qaf d.2.links
variable (pb lt) in
structure TabL (m:QAy Own) (w:List Dv):Prop extends TabW pb lt w where
 o:QBI m
 g:∀ p x,QAo p m = some x ↔ (p,x) ∈ w
theorem TabW.nil:TabW pb lt []:=⟨by simp,.nil,.nil,by simp⟩
theorem TabL.nil:TabL pb lt [] []:=⟨.nil,trivial,by simp [QAo]⟩
theorem TabW.sub {w w':List Dv} (h:TabW pb lt w) (hs:w'.Sublist w):TabW pb lt w':=
 ⟨fun d hd=>h.p d (hs.subset hd),h.a.sublist hs,h.n.sublist hs,fun d hd=>h.l d (hs.subset hd)⟩
theorem POrd.asym (hO:POrd pb lt) (a b:Txt):lt a b = true → ¬ lt b a = true:=fun h1 h2=>by
 have:=hO.tr a b a h1 h2
 rw [hO.irr] at this; cases this
theorem TabL.uniq (hO:POrd pb lt) {m m':QAy Own} {w w':List Dv} (h:TabL pb lt m w) (h':TabL pb lt m' w') (he:∀ k,QAo k m = QAo k m'):w = w':=
 QKl (fun a b=>hO.asym a.1 b.1) h.a h'.a fun d=>by
  rw [show d = (d.1,d.2) from rfl,← h.g,← h'.g,he]
def QL0 (w:List Dv) (p:Txt):List Dv:=w.filter fun d=>!decide (d.1 = p)
variable (lt) in
def QOp:List Dv → Dv → List Dv
 | [],d=>[d]
 | x :: r,d=>if lt x.1 d.1 = true then x :: QOp r d else d :: x :: r
theorem QFd {d y:Dv}:∀ {w:List Dv},y ∈ QOp lt w d ↔ y = d ∨ y ∈ w
 | []=>by simp [QOp]
 | x :: r=>by
  unfold QOp
  split
  ·simp only [List.mem_cons,QFd (w:=r)]
   constructor
   ·rintro (h | h | h) <;> simp [h]
   ·rintro (h | h | h) <;> simp [h]
  ·simp
theorem QNu (hO:POrd pb lt) {d:Dv} (hd:pb d.1 = true):∀ {w:List Dv},(∀ x ∈ w,pb x.1 = true ∧ x.1 ≠ d.1) → w.Pairwise (fun a b=>lt a.1 b.1 = true) → (QOp lt w d).Pairwise fun a b=>lt a.1 b.1 = true
 | [],_,_=>by simp [QOp]
 | x :: r,hw,h=>by
  rw [List.pairwise_cons] at h
  unfold QOp
  split
  ·rename_i hx
   rw [List.pairwise_cons]
   refine ⟨fun y hy=>?_,QNu hO hd (fun z hz=>hw z (by simp [hz])) h.2⟩
   rcases QFd.1 hy with rfl | hy
   ·exact hx
   ·exact h.1 y hy
  ·rename_i hx
   have h3:lt d.1 x.1 = true:=by
    cases h4:lt d.1 x.1 with
    | true=>rfl
    | false=>exact absurd (hO.tot _ _ (hw x (by simp)).1 hd (by simpa using hx) h4) (hw x (by simp)).2
   rw [List.pairwise_cons,List.pairwise_cons]
   refine ⟨fun y hy=>?_,h⟩
   rcases List.mem_cons.1 hy with rfl | hy
   ·exact h3
   ·exact hO.tr _ _ _ h3 (h.1 y hy)
theorem QL1 {d:Dv}:∀ {w:List Dv},(∀ x ∈ w,x.2.node ≠ d.2.node) → w.Pairwise (fun a b=>a.2.node ≠ b.2.node) → (QOp lt w d).Pairwise fun a b=>a.2.node ≠ b.2.node
 | [],_,_=>by simp [QOp]
 | x :: r,hw,h=>by
  rw [List.pairwise_cons] at h
  unfold QOp
  split
  ·rw [List.pairwise_cons]
   refine ⟨fun y hy=>?_,QL1 (fun z hz=>hw z (by simp [hz])) h.2⟩
   rcases QFd.1 hy with rfl | hy
   ·exact hw x (by simp)
   ·exact h.1 y hy
  ·rw [List.pairwise_cons,List.pairwise_cons]
   refine ⟨fun y hy=>?_,h⟩
   exact fun e=>hw y hy e.symm
theorem TabW.drop {w:List Dv} (h:TabW pb lt w) (p:Txt):TabW pb lt (QL0 w p):=h.sub List.filter_sublist
theorem TabW.put (hO:POrd pb lt) {w:List Dv} (h:TabW pb lt w) {d:Dv} (hp:pb d.1 = true) (hl:Qaf d.2.links) (hn:∀ x ∈ w,x.1 ≠ d.1 → x.2.node ≠ d.2.node):TabW pb lt (QOp lt (QL0 w d.1) d):=by
 have h1:=h.drop d.1
 have hne:∀ x ∈ QL0 w d.1,x ∈ w ∧ x.1 ≠ d.1:=fun x hx=>by simpa [QL0] using hx
 refine ⟨fun x hx=>?_,QNu hO hp (fun x hx=>⟨h.p x (hne x hx).1,(hne x hx).2⟩) h1.a,QL1 (fun x hx=>hn x (hne x hx).1 (hne x hx).2) h1.n,fun x hx=>?_⟩
 ·rcases QFd.1 hx with rfl | hx
  ·exact hp
  ·exact h1.p x hx
 ·rcases QFd.1 hx with rfl | hx
  ·exact hl
  ·exact h1.l x hx
theorem TabL.drop {m:QAy Own} {w:List Dv} (h:TabL pb lt m w) (p:Txt):TabL pb lt (QDC p m) (QL0 w p):=by
 refine ⟨h.toTabW.drop p,QIi p h.o,fun q x=>?_⟩
 rw [QEm _ _ h.o]
 simp only [QL0,List.mem_filter,Bool.not_eq_true',decide_eq_false_iff_not]
 split
 ·rename_i e; subst e; simp
 ·rename_i e
  rw [h.g]
  exact ⟨fun hx=>⟨hx,fun e2=>e e2.symm⟩,fun hx=>hx.1⟩
theorem TabL.put (hO:POrd pb lt) {m:QAy Own} {w:List Dv} (h:TabL pb lt m w) {p:Txt} {x:Own} (hp:pb p = true) (hl:Qaf x.links) (hn:∀ d ∈ w,d.1 ≠ p → d.2.node ≠ x.node):TabL pb lt (QBT p x m) (QOp lt (QL0 w p) (p,x)):=by
 refine ⟨h.toTabW.put hO (d:=(p,x)) hp hl hn,QDw p x h.o,fun q y=>?_⟩
 rw [QCM,QFd]
 simp only [QL0,List.mem_filter,Bool.not_eq_true',decide_eq_false_iff_not,Prod.mk.injEq]
 split
 ·rename_i e; subst e
  simp [eq_comm]
 ·rename_i e
  rw [h.g]
  constructor
  ·exact fun hx=>.inr ⟨hx,fun e2=>e e2.symm⟩
  ·rintro (⟨e2,_⟩ | hx)
   ·exact absurd e2.symm e
   ·exact hx.1
theorem okCl.sub {O O':List Cl} (h:okCl pb O) (hs:O'.Sublist O):okCl pb O':=⟨fun c hc=>h.1 c (hs.subset hc),h.2.sublist hs⟩
end
end Go.Ab
namespace Go.Ab
open Go
section
variable {pb:Txt → Bool} {lt:Txt → Txt → Bool}
end
end Go.Ab
namespace Go.Ab
open Go
def QL2 (P:Program):Code → Option ACode
 | .skip=>some .skip
 | .region _ ops draw=>(QB3 P [] ops ops.toList).map fun l=>if draw then .draw l (Region.before ops).toList else .ops l
 | .seq a b=>(match QL2 P a,QL2 P b with | some x,some y=>some (.seq x y) | _,_=>none)
 | .cond c a b=>(match QL2 P a,QL2 P b with | some x,some y=>some (.cond (opd c) x y) | _,_=>none)
 | .block id c=>(QL2 P c).map (.block id)
 | .loop c=>(QL2 P c).map .loop
 | .exit id=>some (.exit id)
 | .ret=>some .ret
 | _=>none
def QDK (P:Program):Code → Bool
 | .region _ ops draw=>!draw || (P.follows .mixedOrders && QJr ops && QJs ops)
 | .seq a b=>QDK P a && QDK P b
 | .cond _ a b=>QDK P a && QDK P b
 | .block _ c=>QDK P c
 | .loop c=>QDK P c
 | _=>true
theorem QVq (P:Program):∀ c:Code,QDK P c = true → QAd P [] c = QL2 P c:=by
 intro c
 induction c with
 | region i ops draw=>
  intro h
  unfold QAd QL2
  cases draw with
  | false=>simp
  | true=>
   simp only [QDK,Bool.not_true,Bool.false_or] at h
   simp [h]
 | seq a b ha hb=>
  intro h
  simp only [QDK,Bool.and_eq_true] at h
  simp only [QAd,QL2,ha h.1,hb h.2]
  cases QL2 P a <;> cases QL2 P b <;> rfl
 | cond x a b ha hb=>
  intro h
  simp only [QDK,Bool.and_eq_true] at h
  simp only [QAd,QL2,ha h.1,hb h.2]
  cases QL2 P a <;> cases QL2 P b <;> rfl
 | block i c ih=>intro h; simp only [QDK] at h; simp only [QAd,QL2,ih h]
 | loop c ih=>intro h; simp only [QDK] at h; simp only [QAd,QL2,ih h]
 | _=>intro _; rfl
def cmpF (P:Program) (f:Nat):Option AFn:=
 match P.funcs[f]? with
 | some fn=>(match fn.body with
  | some code=>(match QL2 P code,QCW P fn.results.toList with
   | some b,some r=>some ⟨b,fn.ntmps,r⟩
   | _,_=>none)
  | none=>none)
 | none=>none
def QYw (P:Program) (f:Nat):Bool:=
 match P.funcs[f]? with
 | some fn=>!(fn.name == "runtime.NumGoroutine") && (match fn.body with | some code=>QDK P code | none=>true)
 | none=>true
/-- A function's code, found by evaluation. -/
theorem cqq {P:Program} {f:Nat} {c:AFn} (h:cmpF P f = some c:=by cbv) (k:QYw P f = true:=by kernel_rfl):QAg P [] f = some c:=by
 unfold cmpF at h
 unfold QYw at k
 unfold QAg
 cases hf:P.funcs[f]? with
 | none=>rw [hf] at h; cases h
 | some fn=>
  rw [hf] at h k
  simp only at h k
  simp only [Bool.and_eq_true,Bool.not_eq_true',beq_eq_false_iff_ne] at k
  simp only [if_neg k.1]
  cases hb:fn.body with
  | none=>rw [hb] at h; cases h
  | some code=>
   rw [hb] at h k
   simp only at h k ⊢
   rw [QVq P code k.2]
   exact h
end Go.Ab
namespace Go.Ab
open Go
theorem gs {b c:Prop} (h:c) (e:b = c:=by conv=>lhs; simp +decide -dsimp -implicitDefEqProofs [go_sem]):b:=e ▸ h
variable [Glob]
theorem gS {P:Program} {k:Nat} {a b:ACode} {Q:Exit → St → Prop} {σ:St} {c:Prop} (h:c) (e:QGR P k a (goQ P k b Q) σ = c:=by conv=>lhs; simp +decide -dsimp -implicitDefEqProofs [go_sem]):awp P k (.seq a b) Q σ:=QBU (e ▸ h)
end Go.Ab
