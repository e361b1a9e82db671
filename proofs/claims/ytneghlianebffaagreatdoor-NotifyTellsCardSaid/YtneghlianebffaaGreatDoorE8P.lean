/- At most 16 subscribers, of different names. -/
import Derived.Test.YtneghlianebffaaGreatDoorKN
import Derived.Test.YtneghlianebffaaGreatDoorTQ
namespace Go.Ab
open Go Go.Proofs
set_option maxRecDepth 20000
def QKm:Flt:=⟨[42],[]⟩
end Go.Ab
namespace Go.Ab
open Go Go.Proofs
set_option maxRecDepth 20000
def QDA:Txt:=[111,119,110]
theorem QJn {nm:Txt} (h:QMb [118] nm):¬ nm = QDA:=by
 rintro rfl
 rcases h with h | h
 ·exact absurd h (by decide)
 ·exact absurd h (by decide)
structure Ow (V W:RBus) (A B l:List RSb):Prop where
 rd:V.ready = W.ready
 la:V.last = W.last
 vs:V.subs = A ++ l
 ws:W.subs = B ++ l
 an:∀ t ∈ A,t.name = QDA
 bn:∀ t ∈ B,t.name = QDA
 al:A.length ≤ 1
 bl:B.length ≤ 1
 nm:∀ t ∈ l,QMb [118] t.name
 nd:(l.map (·.name)).Nodup
section
variable {V W:RBus} {A B l:List RSb}
theorem QKn {nm:Txt} (hn:¬ nm = QDA) {l:List RSb}:∀ {A:List RSb},(∀ t ∈ A,t.name = QDA) → (A ++ l).find? (fun t=>decide (t.name = nm)) = l.find? fun t=>decide (t.name = nm)
 | [],_=>rfl
 | t :: A,h=>by
  have e:decide (t.name = nm) = false:=decide_eq_false fun e=>hn (by rw [← e]; exact h t List.mem_cons_self)
  rw [List.cons_append,List.find?_cons,e]
  exact QKn hn fun x hx=>h x (List.mem_cons_of_mem _ hx)
theorem QMq {nm:Txt} (hn:¬ nm = QDA) {l:List RSb}:∀ {A:List RSb},(∀ t ∈ A,t.name = QDA) → QGI nm (A ++ l) = A ++ QGI nm l
 | [],_=>rfl
 | t :: A,h=>by
  have e:¬ t.name = nm:=fun e=>hn (by rw [← e]; exact h t List.mem_cons_self)
  rw [List.cons_append,QGI,if_neg e,QMq hn fun x hx=>h x (List.mem_cons_of_mem _ hx)]; rfl
theorem QMr {nm:Txt} (hn:¬ nm = QDA) (y:RSb) {l:List RSb}:∀ {A:List RSb},(∀ t ∈ A,t.name = QDA) → QEF nm y (A ++ l) = A ++ QEF nm y l
 | [],_=>rfl
 | t :: A,h=>by
  have e:¬ t.name = nm:=fun e=>hn (by rw [← e]; exact h t List.mem_cons_self)
  rw [List.cons_append,QEF,if_neg e,QMr hn y fun x hx=>h x (List.mem_cons_of_mem _ hx)]; rfl
theorem QQs:∀ {l m:List Txt},l.Nodup → (∀ x ∈ l,x ∈ m) → l.length ≤ m.length
 | [],_,_,_=>Nat.zero_le _
 | x :: l,m,nd,h=>by
  have hx:=h x List.mem_cons_self
  have nd':=List.nodup_cons.1 nd
  have h2:=QQs (l:=l) (m:=m.erase x) nd'.2 fun y hy=>(List.mem_erase_of_ne (by rintro rfl; exact nd'.1 hy)).2 (h y (List.mem_cons_of_mem _ hy))
  rw [List.length_erase_of_mem hx] at h2
  have:=List.length_pos_of_mem hx
  simp only [List.length_cons]; omega
theorem QQt (nm:Txt):∀ l:List RSb,(QGI nm l).Sublist l
 | []=>.slnil
 | t :: l=>by
  unfold QGI
  split
  ·exact List.sublist_cons_self _ _
  ·exact (QQt nm l).cons_cons _
theorem QQu {l:List Txt} (h:∀ t ∈ l,QMb [118] t) (nd:l.Nodup):l.length ≤ 4:=by
 refine QQs (m:=[[118],[115],[116],[117]]) nd fun t ht=>by
  rcases h t ht with e | e
  ·rw [e]; simp
  ·simp only [stuS,List.mem_cons,List.not_mem_nil,or_false] at e; simp only [List.mem_cons,List.not_mem_nil,or_false]; exact .inr e
theorem Ow.l4 (h:Ow V W A B l):l.length ≤ 4:=by
 have:=QQu (l:=l.map (·.name)) (fun t ht=>by obtain ⟨x,hx,rfl⟩:=List.mem_map.1 ht; exact h.nm x hx) h.nd
 simpa using this
theorem Ow.vfind (h:Ow V W A B l) {nm:Txt} (hn:QMb [118] nm):V.find nm = l.find? fun t=>decide (t.name = nm):=by unfold RBus.find; rw [h.vs]; exact QKn (QJn hn) h.an
theorem Ow.wfind (h:Ow V W A B l) {nm:Txt} (hn:QMb [118] nm):W.find nm = l.find? fun t=>decide (t.name = nm):=by unfold RBus.find; rw [h.ws]; exact QKn (QJn hn) h.bn
theorem Ow.few (h:Ow V W A B l):¬ 16 ≤ V.subs.length ∧ ¬ 16 ≤ W.subs.length:=by
 have:=h.l4; have:=h.al; have:=h.bl
 rw [h.vs,h.ws,List.length_append,List.length_append]
 omega
theorem Ow.at (h:Ow V W A B l) (p:Txt):V.at p = W.at p:=by unfold RBus.at; rw [h.rd]
theorem Ow.agr (h:Ow V W A B l):Agr [118] V W where
 sub:=fun nm f hn=>by
  unfold RBus.subR
  rw [h.vfind hn,h.wfind hn,if_neg h.few.1,if_neg h.few.2]
  split
  ·split
   ·rfl
   ·split <;> rfl
  ·rfl
 uns:=fun nm hn=>by
  unfold RBus.unsR
  rw [h.vfind hn,h.wfind hn]
  split <;> rfl
 ready:=fun r=>by
  unfold RBus.readyR
  rw [h.at,h.at]
  split
  ·split
   ·rfl
   ·split
    ·split <;> rfl
    ·rfl
  ·rfl
 gone:=fun p=>by
  unfold RBus.goneR
  rw [h.at,h.rd]
  split
  ·rfl
  ·split <;> rfl
 read:=fun nm m hn=>by
  unfold RBus.readR RBus.wanted
  rw [h.vfind hn,h.wfind hn,h.rd,h.la]
  split
  ·rfl
  ·split <;> rfl
inductive OwS (V:RBus) (A:List RSb) (V':RBus) (A':List RSb):Prop
 | same:A' = A → V'.last = V.last → V'.ready = V.ready → OwS V A V' A'
 | told (r:Rcd) (rdy:Bool):QAk r = true → A' = A.map (QAp (V.last + 1) r rdy) → V'.last = V.last + 1 → (rdy = false → r ∈ V.ready) → OwS V A V' A'
theorem QJo {A:List RSb} (h:∀ t ∈ A,t.name = QDA) (q:Int) (r:Rcd) (b:Bool):∀ t ∈ A.map (QAp q r b),t.name = QDA:=fun t ht=>by
 obtain ⟨x,hx,rfl⟩:=List.mem_map.1 ht
 rw [QDm]; exact h x hx
theorem Ow.tell (h:Ow V W A B l) (R:List Rcd) (r:Rcd) (b:Bool):Ow (({ V with ready:=R }:RBus).tell r b) (({ W with ready:=R }:RBus).tell r b) (A.map (QAp (V.last + 1) r b)) (B.map (QAp (V.last + 1) r b)) (l.map (QAp (V.last + 1) r b)) where
 rd:=rfl
 la:=by show V.last + 1 = W.last + 1; rw [h.la]
 vs:=by show V.subs.map _ = _; rw [h.vs,List.map_append]
 ws:=by show W.subs.map (QAp (W.last + 1) r b) = _; rw [h.ws,List.map_append,h.la]
 an:=QJo h.an _ _ _
 bn:=QJo h.bn _ _ _
 al:=by rw [List.length_map]; exact h.al
 bl:=by rw [List.length_map]; exact h.bl
 nm:=fun t ht=>by obtain ⟨x,hx,rfl⟩:=List.mem_map.1 ht; rw [QDm]; exact h.nm x hx
 nd:=by
  rw [List.map_map]
  have e:((fun x:RSb=>x.name) ∘ QAp (V.last + 1) r b) = fun x=>x.name:=funext fun x=>QDm _ _ _ _
  rw [e]; exact h.nd
theorem QL3 (nm:Txt) (y:RSb) (hy:y.name = nm):∀ l:List RSb,(QEF nm y l).map (·.name) = l.map (·.name)
 | []=>rfl
 | t :: l=>by
  unfold QEF
  split
  ·rename_i e; simp [hy,e]
  ·simp [QL3 nm y hy l]
theorem Ow.step (h:Ow V W A B l) {V' W':RBus} (hs:Stp2 [118] V W V' W') (hsd:∀ r ∈ W.ready,QAk r = true):∃ A' B' l',Ow V' W' A' B' l' ∧ OwS V A V' A' ∧ B'.length = B.length:=by
 cases hs with
 | same=>exact ⟨A,B,l,h,.same rfl rfl rfl,rfl⟩
 | sub nm f hn hf=>
  unfold RBus.subR
  rw [h.vfind hn,h.wfind hn,if_neg h.few.1,if_neg h.few.2]
  have h0:Ow V W A B l ∧ OwS V A V A ∧ B.length = B.length:=⟨h,.same rfl rfl rfl,rfl⟩
  split
  ·split
   ·exact ⟨A,B,l,h0⟩
   ·split
    ·exact ⟨A,B,l,h0⟩
    ·rename_i hg
     refine ⟨A,B,l ++ [⟨nm,f,[],[],true⟩],⟨h.rd,h.la,?_,?_,h.an,h.bn,h.al,h.bl,fun t ht=>?_,?_⟩,.same rfl rfl rfl,rfl⟩
     ·show V.subs ++ _ = _; rw [h.vs,List.append_assoc]
     ·show W.subs ++ _ = _; rw [h.ws,List.append_assoc]
     ·rcases List.mem_append.1 ht with ht | ht
      ·exact h.nm t ht
      ·simp at ht; subst ht; exact hn
     ·rw [List.map_append,List.nodup_append]
      refine ⟨h.nd,by simp,fun a ha b hb=>?_⟩
      simp at hb; subst hb
      rintro rfl
      obtain ⟨x,hx,e⟩:=List.mem_map.1 ha
      apply hg
      rw [List.find?_isSome]
      exact ⟨x,hx,by simpa using e⟩
  ·exact ⟨A,B,l,h0⟩
 | uns nm hn=>
  unfold RBus.unsR
  rw [h.vfind hn,h.wfind hn]
  split
  ·refine ⟨A,B,QGI nm l,⟨h.rd,h.la,?_,?_,h.an,h.bn,h.al,h.bl,fun t ht=>h.nm t (QFZ ht),?_⟩,.same rfl rfl rfl,rfl⟩
   ·show QGI nm V.subs = _; rw [h.vs]; exact QMq (QJn hn) h.an
   ·show QGI nm W.subs = _; rw [h.ws]; exact QMq (QJn hn) h.bn
   ·exact h.nd.sublist ((QQt nm l).map _)
  ·exact ⟨A,B,l,h,.same rfl rfl rfl,rfl⟩
 | ready r=>
  unfold RBus.readyR
  rw [h.at,h.at]
  have h0:Ow V W A B l ∧ OwS V A V A ∧ B.length = B.length:=⟨h,.same rfl rfl rfl,rfl⟩
  have h1:QAk r = true → Ow (({ V with ready:=QFu (QBk V.ready r.path) r }:RBus).tell r true) (({ W with ready:=QFu (QBk W.ready r.path) r }:RBus).tell r true) (A.map (QAp (V.last + 1) r true)) (B.map (QAp (V.last + 1) r true)) (l.map (QAp (V.last + 1) r true)) ∧ OwS V A (({ V with ready:=QFu (QBk V.ready r.path) r }:RBus).tell r true) (A.map (QAp (V.last + 1) r true)) ∧ (B.map (QAp (V.last + 1) r true)).length = B.length:=fun hs=>by
   refine ⟨?_,.told r true hs rfl rfl (fun e=>by cases e),List.length_map _⟩
   have:=h.tell (QFu (QBk V.ready r.path) r) r true
   rw [← h.rd]; exact this
  split
  ·rename_i hs
   split
   ·exact ⟨A,B,l,h0⟩
   ·split
    ·split
     ·exact ⟨_,_,_,h1 hs⟩
     ·exact ⟨A,B,l,h0⟩
    ·exact ⟨_,_,_,h1 hs⟩
  ·exact ⟨A,B,l,h0⟩
 | gone p=>
  unfold RBus.goneR
  rw [h.at,h.rd]
  cases hp:W.at p with
  | none=>exact ⟨A,B,l,h,.same rfl rfl rfl,rfl⟩
  | some r=>
   simp only
   split
   ·exact ⟨A,B,l,h,.same rfl rfl rfl,rfl⟩
   ·exact ⟨_,_,_,h.tell (QBk W.ready p) r false,.told r false (hsd r (List.mem_of_find?_eq_some hp)) rfl rfl fun _=>by rw [h.rd]; exact List.mem_of_find?_eq_some hp,List.length_map _⟩
 | read nm m hn=>
  unfold RBus.readR RBus.wanted
  rw [h.vfind hn,h.wfind hn,h.rd,h.la]
  cases hf:l.find? fun t=>decide (t.name = nm) with
  | none=>exact ⟨A,B,l,h,.same rfl rfl rfl,rfl⟩
  | some t=>
   have ht:t.name = nm:=by simpa using List.find?_some hf
   have key:∀ y:RSb,y.name = nm → Ow ⟨W.ready,QEF nm y V.subs,W.last⟩ { W with subs:=QEF nm y W.subs } A B (QEF nm y l):=fun y hy=>
    ⟨rfl,rfl,by show QEF nm y V.subs = _; rw [h.vs]; exact QMr (QJn hn) y h.an,by show QEF nm y W.subs = _; rw [h.ws]; exact QMr (QJn hn) y h.bn,h.an,h.bn,h.al,h.bl,fun x hx=>by
     rcases QH0 hx with rfl | hx
     ·rw [hy]; exact hn
     ·exact h.nm x hx,by rw [QL3 nm y hy]; exact h.nd⟩
   simp only
   split
   ·exact ⟨A,B,_,key _ ht,.same rfl h.la.symm h.rd.symm,rfl⟩
   ·exact ⟨A,B,_,key _ ht,.same rfl h.la.symm h.rd.symm,rfl⟩
end
end Go.Ab
