/- Regions that draw their order: any order comes to what the order of the text comes to, where what touches the same place is ordered. -/
import Derived.Test.YtneghlianebffaaGreatDoorA3
namespace Go.Ab
open Go
set_option linter.unusedSectionVars false
variable [Glob]

/-! ### The masks of 'before' -/
theorem QLK {after:List Edge} {acc:Array Nat}:∀ (s:Nat) (i:Nat),(after.foldl (fun s e=>if Region.binds .any e then s ||| 2 ^ e.on ||| acc.getD e.on 0 else s) s).testBit i = true →
  s.testBit i = true ∨ ∃ e ∈ after,Region.binds .any e = true ∧ (e.on = i ∨ (acc.getD e.on 0).testBit i = true):=by
 induction after with
 | nil=>intro s i h; exact .inl h
 | cons e r ih=>
  intro s i h
  rw [List.foldl_cons] at h
  rcases ih _ i h with h1 | ⟨e',he,h1⟩
  ·split at h1
   ·rename_i hb
    rw [Nat.testBit_or,Nat.testBit_or,Bool.or_eq_true,Bool.or_eq_true,Nat.testBit_two_pow] at h1
    rcases h1 with (h1 | h1) | h1
    ·exact .inl h1
    ·exact .inr ⟨e,by simp,hb,.inl (by simpa using h1)⟩
    ·exact .inr ⟨e,by simp,hb,.inr h1⟩
   ·exact .inl h1
  ·exact .inr ⟨e',by simp [he],h1⟩

def QKB (l:List Oper) (acc:Array Nat):Prop:=
 acc.size = l.length ∧ ∀ (j:Nat) (o:Oper) (i:Nat),l[j]? = some o → (acc.getD j 0).testBit i = true → ∃ e ∈ o.after,Region.binds .any e = true ∧ (e.on = i ∨ (acc.getD e.on 0).testBit i = true)

theorem QPn (ops:Array Oper):QKB ops.toList (Region.before ops):=by
 have key:∀ (r l:List Oper) (acc:Array Nat),QKB l acc → QKB (l ++ r) (r.foldl (fun acc o=>acc.push (o.after.foldl (fun s e=>if Region.binds .any e then s ||| 2 ^ e.on ||| acc.getD e.on 0 else s) 0)) acc):=by
  intro r
  induction r with
  | nil=>intro l acc h; simpa using h
  | cons o r ih=>
   intro l acc h
   rw [List.foldl_cons,show l ++ o :: r = (l ++ [o]) ++ r from by simp]
   refine ih (l ++ [o]) _ ⟨by simp [h.1],fun j o' i hj hb=>?_⟩
   have mono:∀ {k i:Nat} {m:Nat},(acc.getD k 0).testBit i = true → ((acc.push m).getD k 0).testBit i = true:=fun {k i m} h0=>by
    by_cases hk:k < acc.size
    ·rw [Array.getD_eq_getD_getElem?,Array.getElem?_push_lt hk]
     simpa [Array.getD_eq_getD_getElem?,hk] using h0
    ·rw [Array.getD_eq_getD_getElem?,Array.getElem?_eq_none (by omega)] at h0
     simp at h0
   by_cases hjl:j < l.length
   ·rw [List.getElem?_append_left hjl] at hj
    have hb':(acc.getD j 0).testBit i = true:=by
     rw [Array.getD_eq_getD_getElem?,Array.getElem?_push_lt (by rw [h.1]; exact hjl)] at hb
     simpa [Array.getD_eq_getD_getElem?,h.1,hjl] using hb
    obtain ⟨e,he,h1,h2⟩:=h.2 j o' i hj hb'
    exact ⟨e,he,h1,h2.imp id mono⟩
   ·rw [List.getElem?_append_right (by omega)] at hj
    have hj0:j = l.length:=by
     rcases Nat.eq_zero_or_pos (j - l.length) with h0 | h0
     ·omega
     ·rw [List.getElem?_eq_none (by simp; omega)] at hj; cases hj
    subst hj0
    simp at hj
    subst hj
    have hm:(acc.push (o.after.foldl (fun s e=>if Region.binds .any e then s ||| 2 ^ e.on ||| acc.getD e.on 0 else s) 0)).getD l.length 0 = o.after.foldl (fun s e=>if Region.binds .any e then s ||| 2 ^ e.on ||| acc.getD e.on 0 else s) 0:=by
     rw [Array.getD_eq_getD_getElem?,← h.1]; simp
    rw [hm,← Array.foldl_toList] at hb
    rcases QLK 0 i hb with h1 | ⟨e,he,h1,h2⟩
    ·simp at h1
    ·exact ⟨e,by simpa using he,h1,h2.imp id mono⟩
 have:=key ops.toList [] #[] ⟨rfl,by simp⟩
 rw [List.nil_append,Array.foldl_toList] at this
 exact this

def QY2 (ops:Array Oper) (listed:Array Bool):Prop:=∀ (j i:Nat),listed.getD j false = true → ((Region.before ops).getD j 0).testBit i = true → listed.getD i false = true

theorem QJN {ops:Array Oper} {listed:Array Bool} (h:QY2 ops listed) {j:Nat} (hj:j ∈ Region.ready .any ops listed) {i:Nat} (hb:((Region.before ops).getD j 0).testBit i = true):listed.getD i false = true:=by
 rw [mem_ready] at hj
 obtain ⟨_,o,ho,hall⟩:=hj
 obtain ⟨e,he,h1,h2⟩:=(QPn ops).2 j o i (by simpa using ho) hb
 have hon:=hall e he h1
 rcases h2 with rfl | h2
 ·exact hon
 ·exact h _ _ hon h2

theorem QRX {ops:Array Oper} {listed:Array Bool} (h:QY2 ops listed) {j:Nat} (hj:j ∈ Region.ready .any ops listed):QY2 ops (listed.setIfInBounds j true):=by
 intro k i hk hb
 by_cases hkj:j = k
 ·subst hkj; exact getD_set_true (QJN h hj hb)
 ·rw [getD_set_ne false hkj] at hk
  exact getD_set_true (h k i hk hb)

/-! ### Effects, in the text's order, of some of the operations -/
def QKC {α:Type} (l:List α):List (Nat × α) → List α
 | []=>l
 | p :: r=>QKC (l.set p.1 p.2) r

theorem QKD (l:List AObj):∀ r:List (Nat × AObj),QGC l r = QKC l r
 | []=>rfl
 | p :: r=>by rw [QGC,QKC,QKD]

@[simp] theorem QML {α:Type}:∀ (r:List (Nat × α)) (l:List α),(QKC l r).length = l.length
 | [],_=>rfl
 | p :: r,l=>by simp [QKC,QML r]

theorem QEM {α:Type}:∀ (r:List (Nat × α)) (l:List α) (t:Nat),t ∉ r.map (·.1) → (QKC l r)[t]? = l[t]?
 | [],_,_,_=>rfl
 | p :: r,l,t,h=>by
  simp only [List.map_cons,List.mem_cons,not_or] at h
  rw [QKC,QEM r _ t h.2,List.getElem?_set_ne (fun e=>h.1 e.symm)]

theorem QIS {α:Type}:∀ (r:List (Nat × α)) (l l':List α) (t:Nat),t ∈ r.map (·.1) → l.length = l'.length → (QKC l r)[t]? = (QKC l' r)[t]?
 | [],_,_,_,h,_=>by simp at h
 | p :: r,l,l',t,h,hl=>by
  rw [QKC,QKC]
  by_cases ht:t ∈ r.map (·.1)
  ·exact QIS r _ _ t ht (by simp [hl])
  ·have hp:t = p.1:=by simp only [List.map_cons,List.mem_cons] at h; exact h.resolve_right ht
   rw [QEM r _ t ht,QEM r _ t ht,hp]
   by_cases hlt:p.1 < l.length
   ·rw [List.getElem?_set_self hlt,List.getElem?_set_self (by omega)]
   ·rw [List.getElem?_eq_none (by simp; omega),List.getElem?_eq_none (by simp; omega)]

def QDU {α:Type} (L:Nat → Bool):Nat → List (List (Nat × α)) → List α → List α
 | _,[],x=>x
 | k,e :: r,x=>QDU L (k + 1) r (if L k then QKC x e else x)

@[simp] theorem QMM {α:Type} (L:Nat → Bool):∀ (es:List (List (Nat × α))) (k:Nat) (x:List α),(QDU L k es x).length = x.length
 | [],_,_=>rfl
 | e :: r,k,x=>by rw [QDU,QMM L r]; split <;> simp

theorem QDH {α:Type} {L L':Nat → Bool}:∀ (es:List (List (Nat × α))) (k:Nat) (x x':List α) (t:Nat),x.length = x'.length → x[t]? = x'[t]? →
  (∀ (i:Nat) (e:List (Nat × α)),es[i]? = some e → t ∈ e.map (·.1) → L (k + i) = L' (k + i)) → (QDU L k es x)[t]? = (QDU L' k es x')[t]?
 | [],_,_,_,_,_,h,_=>h
 | e :: r,k,x,x',t,hl,h,hag=>by
  rw [QDU,QDU]
  refine QDH r (k + 1) _ _ t ?_ ?_ fun i e' hi ht=>by
   have:=hag (i + 1) e' (by simpa using hi) ht
   rwa [show k + 1 + i = k + (i + 1) from by omega]
  ·split <;> split <;> simp [hl]
  ·by_cases ht:t ∈ e.map (·.1)
   ·have h0:=hag 0 e rfl ht
    simp only [Nat.add_zero] at h0
    rw [h0]
    split
    ·exact QIS e x x' t ht hl
    ·exact h
   ·split <;> split <;> simp only [QEM e _ t ht,h]

theorem QLL {α:Type} {L:Nat → Bool}:∀ (es:List (List (Nat × α))) (k:Nat) (x y:List α) (j:Nat) (e:List (Nat × α)) (t:Nat),x.length = y.length → es[j]? = some e → t ∈ e.map (·.1) → L (k + j) = true →
  (∀ (i:Nat) (e':List (Nat × α)),j < i → es[i]? = some e' → t ∈ e'.map (·.1) → L (k + i) = false) → (QDU L k es x)[t]? = (QKC y e)[t]?
 | [],_,_,_,_,_,_,_,h,_,_,_=>by simp at h
 | e0 :: r,k,x,y,0,e,t,hl,hj,ht,hL,hlt=>by
  simp at hj
  subst hj
  rw [QDU]
  simp only [Nat.add_zero] at hL
  rw [hL,if_pos rfl]
  have:(QDU L (k + 1) r (QKC x e0))[t]? = (QDU (fun _=>false) (k + 1) r (QKC x e0))[t]?:=QDH r (k + 1) _ _ t rfl rfl fun i e' hi ht'=>by
   have:=hlt (i + 1) e' (by omega) (by simpa using hi) ht'
   rwa [show k + 1 + i = k + (i + 1) from by omega]
  rw [this]
  have hf:∀ (es:List (List (Nat × α))) (k:Nat) (x:List α),QDU (fun _=>false) k es x = x:=by
   intro es
   induction es with
   | nil=>intro k x; rfl
   | cons e es ih=>intro k x; rw [QDU,if_neg (by simp),ih]
  rw [hf]
  exact QIS e0 x y t ht hl
 | e0 :: r,k,x,y,j + 1,e,t,hl,hj,ht,hL,hlt=>by
  rw [QDU]
  refine QLL r (k + 1) _ y j e t ?_ (by simpa using hj) ht (by rwa [show k + 1 + j = k + (j + 1) from by omega]) fun i e' hi he ht'=>?_
  ·split <;> simp [hl]
  ·have:=hlt (i + 1) e' (by omega) (by simpa using he) ht'
   rwa [show k + 1 + i = k + (i + 1) from by omega]

theorem QKE {α:Type} {L L':Nat → Bool} {es:List (List (Nat × α))} {x:List α} {j:Nat} {e:List (Nat × α)} (hj:es[j]? = some e) (hL':L' j = true) (hsame:∀ i,i ≠ j → L' i = L i)
  (hlater:∀ (i:Nat) (e':List (Nat × α)) (t:Nat),j < i → es[i]? = some e' → t ∈ e'.map (·.1) → t ∈ e.map (·.1) → L i = false):QDU L' 0 es x = QKC (QDU L 0 es x) e:=by
 apply List.ext_getElem?
 intro t
 by_cases ht:t ∈ e.map (·.1)
 ·exact QLL es 0 x (QDU L 0 es x) j e t (by simp) hj ht (by simpa using hL') fun i e' hi he ht'=>by
   rw [Nat.zero_add,hsame i (by omega)]; exact hlater i e' t hi he ht' ht
 ·rw [QEM e _ t ht]
  refine QDH es 0 x x t rfl rfl fun i e' hi ht'=>?_
  rw [Nat.zero_add]
  by_cases hij:i = j
  ·subst hij; rw [hj] at hi; cases hi; exact (ht ht').elim
  ·exact hsame i hij

end Go.Ab
namespace Go.Ab
open Go
set_option linter.unusedSectionVars false
variable [Glob]

structure Eff where
 ran:Bool
 val:AV
 pre:List (Nat × AObj)
 wr:List (Nat × AObj)

def Eff.fp (e:Eff):List Nat × List Nat:=(e.pre.map (·.1),e.wr.map (·.1))

def QPo (P:Program) (fv:AV) (args:List AV) (H:List AObj) (K:SK):Prop:=
 match fv with
 | .fn (.func f) first caps=>∃ pre wr v,(∀ p ∈ pre,H[p.1]? = some p.2) ∧ (∀ p ∈ wr,p.1 ∈ pre.map (·.1)) ∧
   (∀ H2,(∀ p ∈ pre,H2[p.1]? = some p.2) → ACalls P f (first ++ args ++ caps) H2 v (QGC H2 wr)) ∧ K pre wr v
 | _=>False

def QCK (P:Program) (op:AOp) (T:List AV) (H:List AObj) (nid:Nat) (K:SK):Prop:=
 match op with
 | .call f args=>QPo P (f.ev T) (args.map fun x=>x.ev T) H K
 | op=>(if op.allocs then H[nid]? = some .unborn else True) ∧ QKe op T H nid K

def QNE (P:Program) (K:List (List Nat × List Nat) → St → Prop):List QD2 → Nat → List (List Nat × List Nat) → St → Prop
 | [],_,acc,σ=>K acc σ
 | o :: r,nid,acc,σ=>QFi o.guard σ.T
   (QCK P o.op σ.T σ.H nid fun pre wr v=>QNE P K r (if o.op.allocs then nid + 1 else nid) (acc ++ [(pre.map (·.1),wr.map (·.1))]) ⟨QEE σ.T o.dst v,QGC σ.H wr⟩)
   (QNE P K r (if o.op.allocs then nid + 1 else nid) (acc ++ [([],[])]) ⟨QEE σ.T o.dst (.tup []),σ.H⟩)

def QCz (p q:List Nat × List Nat):Bool:=p.2.any q.1.contains || p.1.any q.2.contains

def QBB (bs:List Nat) (fps:List (List Nat × List Nat)):Bool:=
 fps.zipIdx.all fun q=>fps.zipIdx.all fun p=>!(decide (p.2 < q.2)) || !(QCz p.1 q.1) || (bs.getD q.2 0).testBit p.2

def QLM:List QD2 → Nat
 | []=>0
 | o :: r=>(if o.op.allocs then 1 else 0) + QLM r

def QRY (P:Program) (l:List QD2) (bs:List Nat) (Q:St → Prop) (σ:St):Prop:=
 QNE P (fun fps s=>QBB bs fps = true ∧ Q s) l σ.H.length [] ⟨σ.T,σ.H ++ List.replicate (QLM l) .unborn⟩

def QPp (P:Program) (o:Oper) (T:List AV) (pre wr:List (Nat × AObj)) (val:AV):Prop:=
 ∀ (c:Cx) (a:Act),Rel c → (∀ x ∈ o.op.operands.toList,Val c ((opd x).ev T) (a.eval x)) → (∀ p ∈ pre,c.H[p.1]? = some p.2) → ∀ (next:Act → World → Prop) (Q:Exit → Act → World → Prop),
  (∀ v c',Rel c' → Ext c c' → c'.H = QGC c.H wr → Val c' val v → next (a.put o.dst v) c'.w) → o.wp P a c.w next Q

def QPq (ops:Array Oper) (o:Oper):Option Nat:=match o.guard with | some (j,_)=>(ops[j]?).bind (·.dst) | none=>none

def QFT (ops:Array Oper) (o:Oper) (T:List AV) (b:Bool):Prop:=
 ∀ (c:Cx) (a:Act),T.length = a.tmps.size → (∀ d,QPq ops o = some d → Val c ((T[d]?).getD .junk) (a.tmps.getD d undef)) → Region.wanted o (yielded ops a.tmps) = b

inductive QOH (P:Program) (ops:Array Oper):List Oper → St → List Eff → St → Prop
 | nil (σ:St):QOH P ops [] σ [] σ
 | run (o:Oper) (r:List Oper) (σ:St) (pre wr:List (Nat × AObj)) (val:AV) (effs:List Eff) (σ':St):QFT ops o σ.T true → QPp P o σ.T pre wr val → (∀ p ∈ pre,σ.H[p.1]? = some p.2) → (∀ p ∈ wr,p.1 ∈ pre.map (·.1)) →
   QOH P ops r ⟨QEE σ.T o.dst val,QGC σ.H wr⟩ effs σ' → QOH P ops (o :: r) σ (⟨true,val,pre,wr⟩ :: effs) σ'
 | skip (o:Oper) (r:List Oper) (σ:St) (effs:List Eff) (σ':St):QFT ops o σ.T false → QOH P ops r ⟨QEE σ.T o.dst (.tup []),σ.H⟩ effs σ' → QOH P ops (o :: r) σ (⟨false,.tup [],[],[]⟩ :: effs) σ'

theorem LStep.cstep {P:Program} {o:Oper} {T:List AV} {pre wr:List (Nat × AObj)} {val:AV} (h:LStep P o T pre wr val):QPp P o T pre wr val:=fun c a hr ho hp next Q hn=>
 let ⟨v,c',h1,h2,h3,h4,h5⟩:=h c a hr ho hp
 h5 next Q (hn v c' h1 h2 h3 h4)

theorem QOI {P:Program} {o:Oper} {T:List AV} {H:List AObj} {fo:Operand} {args:Array Operand} {ts:Array TypeId} {K:SK}
  (ho:o.op = .call ⟨.value fo,args,ts⟩) (h:QPo P ((opd fo).ev T) (args.toList.map fun x=>(opd x).ev T) H K):
  ∃ pre wr val,K pre wr val ∧ (∀ p ∈ pre,H[p.1]? = some p.2) ∧ (∀ p ∈ wr,p.1 ∈ pre.map (·.1)) ∧ QPp P o T pre wr val:=by
 unfold QPo at h
 split at h
 ·rename_i f first caps hf
  obtain ⟨pre,wr,val,h1,h2,h3,hK⟩:=h
  refine ⟨pre,wr,val,hK,h1,h2,fun c a hr hop hp next Q hn=>?_⟩
  have hmem:∀ x ∈ args.toList,x ∈ o.op.operands.toList:=fun x hx=>by simp [ho,Op.operands,Call.operands]; exact .inr (by simpa using hx)
  have h4:=hop fo (by simp [ho,Op.operands,Call.operands])
  rw [hf] at h4
  simp only [Val] at h4
  obtain ⟨vf,vc,h5,h6,h7⟩:=h4
  have h8:∀ l:List Operand,(∀ x ∈ l,x ∈ args.toList) → QA3 c (l.map fun x=>(opd x).ev T) (l.map a.eval):=by
   intro l
   induction l with
   | nil=>intro _; simp [QA3]
   | cons x l ih=>intro hl; simp only [List.map_cons,QA3]; exact ⟨_,_,rfl,hop x (hmem x (hl x (by simp))),ih fun y hy=>hl y (by simp [hy])⟩
  have happ:∀ (l r:List AV) (vs ws:List Value),QA3 c l vs → QA3 c r ws → QA3 c (l ++ r) (vs ++ ws):=by
   intro l
   induction l with
   | nil=>intro r vs ws h1 h2; simp only [QA3] at h1; subst h1; exact h2
   | cons x l ih=>
    intro r vs ws h1 h2
    simp only [QA3] at h1
    obtain ⟨v,vs',rfl,h6,h7⟩:=h1
    simp only [List.cons_append,QA3]
    exact ⟨_,_,rfl,h6,ih r vs' ws h7 h2⟩
  obtain ⟨hb,hC⟩:=h3 c.H hp
  have hcall:=hC c _ rfl hr (happ _ _ _ _ (happ _ _ _ _ h6 (h8 args.toList fun _ h=>h)) h7)
  unfold Oper.wp
  have hrun:(execOp a.eval o).run P c.w = .ok (.enter f (vf.toList ++ args.toList.map a.eval ++ vc.toList).toArray) c.w:=by
   have e:(vf.toList ++ args.toList.map a.eval ++ vc.toList).toArray = vf ++ args.map a.eval ++ vc:=by
    apply Array.ext'
    simp
   rw [e]
   simp only [execOp,ho,resolve,Sem.run_bind,h5,Deferred.ofValue,Sem.run_pure,Result.andThen_ok,invoke,QHO hb]
  rw [hrun]
  refine hcall.mono fun e w' hq=>?_
  obtain ⟨v,c',rfl,rfl,k6,k7,k8,k9⟩:=hq
  exact hn v c' k7 k8 k6 k9
 ·exact h.elim

theorem QMN {P:Program} {own:List Nat} {ops:Array Oper} {K:List (List Nat × List Nat) → St → Prop}:∀ (l:List Oper) (al:List QD2) (nid:Nat) (acc:List (List Nat × List Nat)) (σ:St),QB3 P own ops l = some al →
  QNE P K al nid acc σ → ∃ effs σ',QOH P ops l σ effs σ' ∧ K (acc ++ effs.map Eff.fp) σ'
 | [],al,nid,acc,σ,hc,h=>by
  simp [QB3] at hc
  subst hc
  exact ⟨[],σ,.nil σ,by simpa [QNE] using h⟩
 | o :: r,al,nid,acc,σ,hc,h=>by
  unfold QB3 at hc
  split at hc
  ·rename_i op g hop hg
   cases hr':QB3 P own ops r with
   | none=>simp [hr'] at hc
   | some l=>
    simp [hr'] at hc
    subst hc
    simp only [QNE] at h
    have runs:QCK P op σ.T σ.H nid (fun pre wr v=>QNE P K l (if op.allocs then nid + 1 else nid) (acc ++ [(pre.map (·.1),wr.map (·.1))]) ⟨QEE σ.T o.dst v,QGC σ.H wr⟩) → QFT ops o σ.T true →
      ∃ effs σ',QOH P ops (o :: r) σ effs σ' ∧ K (acc ++ effs.map Eff.fp) σ':=by
     intro he hw
     have fin:∀ pre wr val,QNE P K l (if op.allocs then nid + 1 else nid) (acc ++ [(pre.map (·.1),wr.map (·.1))]) ⟨QEE σ.T o.dst val,QGC σ.H wr⟩ → QPp P o σ.T pre wr val → (∀ p ∈ pre,σ.H[p.1]? = some p.2) → (∀ p ∈ wr,p.1 ∈ pre.map (·.1)) →
       ∃ effs σ',QOH P ops (o :: r) σ effs σ' ∧ K (acc ++ effs.map Eff.fp) σ':=fun pre wr val hk hS hp hwr=>by
      obtain ⟨effs,σ',h1,h2⟩:=QMN r l _ _ _ hr' hk
      exact ⟨_,σ',.run o r σ pre wr val effs σ' hw hS hp hwr h1,by simpa [Eff.fp] using h2⟩
     unfold QCK at he
     split at he
     ·obtain ⟨fo,as,ts,h1,rfl,rfl⟩:=QHP hop
      obtain ⟨pre,wr,val,hk,hp,hwr,hS⟩:=QOI h1 (by simpa [List.map_map,Function.comp_def] using he)
      exact fin pre wr val hk hS hp hwr
     ·obtain ⟨hal,he⟩:=he
      obtain ⟨pre,wr,val,hk,hp,hwr,hc',hL⟩:=QNl hop he
      have hp':∀ p ∈ pre,σ.H[p.1]? = some p.2:=by
       rcases hc' with h | ⟨ha,_⟩
       ·exact h
       ·intro p hpm
        rw [if_pos ha] at hal
        rcases hp p hpm with h | rfl
        ·exact h
        ·exact hal
      exact fin pre wr val hk hL.cstep hp' hwr
    have skips:QNE P K l (if op.allocs then nid + 1 else nid) (acc ++ [([],[])]) ⟨QEE σ.T o.dst (.tup []),σ.H⟩ → QFT ops o σ.T false → ∃ effs σ',QOH P ops (o :: r) σ effs σ' ∧ K (acc ++ effs.map Eff.fp) σ':=by
     intro hk hw
     obtain ⟨effs,σ',h1,h2⟩:=QMN r l _ _ _ hr' hk
     exact ⟨_,σ',.skip o r σ effs σ' hw h1,by simpa [Eff.fp] using h2⟩
    cases hgd:o.guard with
    | none=>
     simp only [hgd,QDP,Option.some.injEq] at hg
     subst hg
     simp only [QFi] at h
     exact runs h fun c a _ _=>QH6 hgd _
    | some gd=>
     obtain ⟨j,want⟩:=gd
     simp only [hgd,QDP] at hg
     split at hg
     ·rename_i d hd
      simp only [Option.some.injEq] at hg
      subst hg
      have hs:QPq ops o = some d:=by simp only [QPq,hgd]; exact hd
      have hw:∀ (a:Act),Region.wanted o (yielded ops a.tmps) = (yielded ops a.tmps j == some want):=fun a=>by simp [Region.wanted,hgd]
      have hy:∀ (a:Act),yielded ops a.tmps j = (match a.tmps[d]? with | some (.bool b)=>some b | _=>none):=fun a=>by unfold yielded; rw [hd]; rfl
      simp only [QFi] at h
      split at h
      ·rename_i b hb
       have hav:∀ {c:Cx} {a:Act},σ.T.length = a.tmps.size → Val c ((σ.T[d]?).getD .junk) (a.tmps.getD d undef) → a.tmps[d]? = some (.bool b):=fun {c a} hl hF=>by
        rw [hb] at hF
        simp only [Option.getD_some,Val] at hF
        have hlt:d < a.tmps.size:=by rw [← hl]; exact (List.getElem?_eq_some_iff.1 hb).1
        simp only [Array.getD_eq_getD_getElem?,Array.getElem?_eq_getElem hlt,Option.getD_some] at hF
        rw [Array.getElem?_eq_getElem hlt,hF]
       by_cases hbw:b = want
       ·rw [if_pos hbw] at h
        exact runs h fun c a hl hF=>by simp [hw,hy,hav hl (hF d hs),hbw]
       ·rw [if_neg hbw] at h
        exact skips h fun c a hl hF=>by simp [hw,hy,hav hl (hF d hs),hbw]
      ·rename_i hb
       refine skips h fun c a hl hF=>?_
       have hv:=hF d hs
       rw [hb] at hv
       simp only [Option.getD_some,Val,QA3] at hv
       obtain ⟨vs,h3,h4⟩:=hv
       have hlt:d < a.tmps.size:=by rw [← hl]; exact (List.getElem?_eq_some_iff.1 hb).1
       simp only [Array.getD_eq_getD_getElem?,Array.getElem?_eq_getElem hlt,Option.getD_some] at h3
       rw [hw,hy,Array.getElem?_eq_getElem hlt,h3]
       rfl
      ·exact h.elim
     ·cases hg
  ·cases hc

def dE (dst:Option Nat) (v:AV):List (Nat × AV):=match dst with | some d=>[(d,v)] | none=>[]
def tE (l:List Oper) (effs:List Eff):List (List (Nat × AV)):=(l.zip effs).map fun p=>dE p.1.dst p.2.val
def hE (effs:List Eff):List (List (Nat × AObj)):=effs.map (·.wr)

theorem QKF (o:Oper) (r:List Oper) (e:Eff) (es:List Eff):tE (o :: r) (e :: es) = dE o.dst e.val :: tE r es:=rfl
theorem QKG (e:Eff) (es:List Eff):hE (e :: es) = e.wr :: hE es:=rfl

theorem QGz (T:List AV) (dst:Option Nat) (v:AV):QEE T dst v = QKC T (dE dst v):=by cases dst <;> rfl

theorem QCZ {α:Type} (L:Nat → Bool):∀ (es:List (List (Nat × α))) (k:Nat) (x:List α),QDU L (k + 1) es x = QDU (fun i=>L (i + 1)) k es x
 | [],_,_=>rfl
 | e :: r,k,x=>by rw [QDU,QDU,QCZ L r]

theorem QRZ {P:Program} {ops:Array Oper} {l:List Oper} {σ σ':St} {effs:List Eff} (h:QOH P ops l σ effs σ'):effs.length = l.length:=by
 induction h with
 | nil=>rfl
 | run=>simp [*]
 | skip=>simp [*]

theorem QRa {P:Program} {ops:Array Oper} {l:List Oper} {σ σ':St} {effs:List Eff} (h:QOH P ops l σ effs σ'):σ'.T = QDU (fun _=>true) 0 (tE l effs) σ.T ∧ σ'.H = QDU (fun _=>true) 0 (hE effs) σ.H:=by
 induction h with
 | nil=>exact ⟨rfl,rfl⟩
 | run o r σ pre wr val effs σ' _ _ _ _ _ ih=>
  refine ⟨?_,?_⟩
  ·rw [ih.1,QKF,QDU,if_pos rfl,QCZ,QGz]
  ·rw [ih.2,QKG,QDU,if_pos rfl,QCZ,QKD]
 | skip o r σ effs σ' _ _ ih=>
  refine ⟨?_,?_⟩
  ·rw [ih.1,QKF,QDU,if_pos rfl,QCZ,QGz]
  ·rw [ih.2,QKG,QDU,if_pos rfl,QCZ]; rfl

theorem QT5 {P:Program} {ops:Array Oper} {l:List Oper} {σ σ':St} {effs:List Eff} (h:QOH P ops l σ effs σ'):∀ (j:Nat) (o:Oper) (e:Eff),l[j]? = some o → effs[j]? = some e →
  (QFT ops o (QDU (fun i=>decide (i < j)) 0 (tE l effs) σ.T) true ∧ QPp P o (QDU (fun i=>decide (i < j)) 0 (tE l effs) σ.T) e.pre e.wr e.val ∧ (∀ p ∈ e.pre,(QDU (fun i=>decide (i < j)) 0 (hE effs) σ.H)[p.1]? = some p.2) ∧ (∀ p ∈ e.wr,p.1 ∈ e.pre.map (·.1))) ∨
  (QFT ops o (QDU (fun i=>decide (i < j)) 0 (tE l effs) σ.T) false ∧ e.val = .tup [] ∧ e.pre = [] ∧ e.wr = []):=by
 have f0:∀ {α:Type} (es:List (List (Nat × α))) (k:Nat) (x:List α),QDU (fun i=>decide (i < 0)) k es x = x:=by
  intro α es
  induction es with
  | nil=>intro k x; rfl
  | cons e es ih=>intro k x; rw [QDU,if_neg (by simp),ih]
 induction h with
 | nil=>intro j o e hj; simp at hj
 | run o r σ pre wr val effs σ' hw hS hp hwr _ ih=>
  intro j o' e hj he
  cases j with
  | zero=>
   simp at hj he
   subst hj he
   rw [f0,f0]
   exact .inl ⟨hw,hS,hp,hwr⟩
  | succ j=>
   simp at hj he
   have:=ih j o' e hj he
   rw [QKF,QDU,if_pos (by simp),QKG,QDU,if_pos (by simp),QCZ,QCZ,← QGz,← QKD]
   simpa [Nat.succ_lt_succ_iff] using this
 | skip o r σ effs σ' hw _ ih=>
  intro j o' e hj he
  cases j with
  | zero=>
   simp at hj he
   subst hj he
   rw [f0,f0]
   exact .inr ⟨hw,rfl,rfl,rfl⟩
  | succ j=>
   simp at hj he
   have:=ih j o' e hj he
   rw [QKF,QDU,if_pos (by simp),QKG,QDU,if_pos (by simp),QCZ,QCZ,← QGz]
   simpa [Nat.succ_lt_succ_iff,QKC] using this

end Go.Ab
namespace Go.Ab
open Go
set_option linter.unusedSectionVars false
variable [Glob]

theorem QHW {ops:Array Oper} (h:QJr ops = true) {i j:Nat} {oi oj:Oper} (hi:ops[i]? = some oi) (hj:ops[j]? = some oj) (hij:i < j):oi.apart ops oj = true ∨ ((Region.before ops).getD j 0).testBit i = true:=by
 have h1:=(List.all_eq_true.1 h) (oj,j) (by rw [List.mem_zipIdx_iff_getElem?]; simpa using hj)
 have h2:=(List.all_eq_true.1 h1) (oi,i) (by rw [List.mem_zipIdx_iff_getElem?]; simpa using hi)
 simp only [hij,decide_true,Bool.not_true,Bool.false_or,Bool.or_eq_true] at h2
 exact h2

theorem QIT {bs:List Nat} {fps:List (List Nat × List Nat)} (h:QBB bs fps = true) {i j:Nat} {p q:List Nat × List Nat} (hi:fps[i]? = some p) (hj:fps[j]? = some q) (hij:i < j):QCz p q = false ∨ (bs.getD j 0).testBit i = true:=by
 have h1:=(List.all_eq_true.1 h) (q,j) (by rw [List.mem_zipIdx_iff_getElem?]; exact hj)
 have h2:=(List.all_eq_true.1 h1) (p,i) (by rw [List.mem_zipIdx_iff_getElem?]; exact hi)
 simp only [hij,decide_true,Bool.not_true,Bool.false_or,Bool.or_eq_true,Bool.not_eq_true'] at h2
 exact h2

theorem QLN {ops:Array Oper} (h:QJs ops = true) {j:Nat} {o:Oper} (hj:ops[j]? = some o) {e:Edge} (he:e ∈ o.after) (hb:Region.binds .any e = true):e.on < j:=by
 have h1:=(List.all_eq_true.1 h) (o,j) (by rw [List.mem_zipIdx_iff_getElem?]; simpa using hj)
 have h2:=(Array.all_eq_true_iff_forall_mem.1 h1) e he
 simpa [hb] using h2

def unl (ops:Array Oper) (listed:Array Bool):Nat:=((List.range ops.size).filter fun i=>!listed.getD i false).length

theorem QLO {α:Type} {p q:α → Bool}:∀ {l:List α} {x:α},x ∈ l → (∀ y,q y = true → p y = true) → p x = true → q x = false → (l.filter q).length < (l.filter p).length
 | [],_,h,_,_,_=>by simp at h
 | y :: l,x,h,hq,hp,hx=>by
  have hle:∀ l:List α,(l.filter q).length ≤ (l.filter p).length:=by
   intro l
   induction l with
   | nil=>simp
   | cons z l ih=>
    simp only [List.filter_cons]
    cases hz:q z
    ·cases p z <;> simp <;> omega
    ·rw [hq z hz]; simpa using ih
  simp only [List.filter_cons]
  rcases List.mem_cons.1 h with rfl | h
  ·rw [hp,hx]
   have:=hle l
   simp
   omega
  ·have ih:=QLO h hq hp hx
   cases hz:q y
   ·cases p y <;> simp <;> omega
   ·rw [hq y hz]; simpa using ih

theorem QPr {P:Program} {ops:Array Oper} {σ σ':St} {effs:List Eff} (hto:QJr ops = true) (heo:QJs ops = true) (hT:QOH P ops ops.toList σ effs σ') (hoo:QBB (Region.before ops).toList (effs.map Eff.fp) = true)
  {Q:Exit → Act → World → Prop}:∀ (fuel:Nat) (listed:Array Bool) (c:Cx) (a:Act),listed.size = ops.size → QY2 ops listed → unl ops listed ≤ fuel → Rel c →
   c.H = QDU (fun i=>listed.getD i false) 0 (hE effs) σ.H → Fr c (QDU (fun i=>listed.getD i false) 0 (tE ops.toList effs) σ.T) a →
   (∀ c' a',Rel c' → Ext c c' → c'.H = σ'.H → Fr c' σ'.T a' → Q .normal a' c'.w) → wpAny P .any ops Q fuel listed a c.w:=by
 have hel:=QRZ hT
 have heff:∀ {j:Nat} {o:Oper},ops[j]? = some o → ∃ e,effs[j]? = some e ∧ (tE ops.toList effs)[j]? = some (dE o.dst e.val) ∧ (hE effs)[j]? = some e.wr:=fun {j o} hj=>by
  have hlt:j < effs.length:=by rw [hel]; exact (List.getElem?_eq_some_iff.1 (show ops.toList[j]? = some o by simpa using hj)).1
  refine ⟨effs[j],List.getElem?_eq_getElem hlt,?_,?_⟩
  ·rw [tE,List.getElem?_map,(List.getElem?_zip_eq_some (z:=(o,effs[j]))).2 ⟨show ops.toList[j]? = some o by simpa using hj,List.getElem?_eq_getElem hlt⟩]; rfl
  ·rw [hE,List.getElem?_map,List.getElem?_eq_getElem hlt]; rfl
 have htE:∀ {i:Nat} {e:List (Nat × AV)},(tE ops.toList effs)[i]? = some e → ∃ o ef,ops[i]? = some o ∧ effs[i]? = some ef ∧ e = dE o.dst ef.val:=fun {i e} hi=>by
  have hlt:i < ops.size:=by
   have:=(List.getElem?_eq_some_iff.1 hi).1
   rw [tE,List.length_map,List.length_zip,hel] at this
   simpa using this
  obtain ⟨ef,h1,h2,_⟩:=heff (Array.getElem?_eq_getElem hlt)
  rw [h2] at hi
  exact ⟨_,ef,Array.getElem?_eq_getElem hlt,h1,(Option.some.inj hi).symm⟩
 have hhE:∀ {i:Nat} {e:List (Nat × AObj)},(hE effs)[i]? = some e → ∃ ef,effs[i]? = some ef ∧ e = ef.wr:=fun {i e} hi=>by
  rw [hE,List.getElem?_map,Option.map_eq_some_iff] at hi
  obtain ⟨ef,h1,h2⟩:=hi
  exact ⟨ef,h1,h2.symm⟩
 have hmem_dE:∀ {t:Nat} {dst:Option Nat} {v:AV},t ∈ (dE dst v).map (·.1) → dst = some t:=fun {t dst v} h=>by
  cases dst <;> simp [dE] at h ⊢
  exact h.symm
 have hbsz:∀ (j i:Nat),((Region.before ops).toList.getD j 0).testBit i = ((Region.before ops).getD j 0).testBit i:=fun j i=>by
  simp [List.getD_eq_getElem?_getD,Array.getD_eq_getD_getElem?]
 have final:∀ (listed:Array Bool) (c:Cx) (a:Act),(∀ i,i < ops.size → listed.getD i false = true) → Rel c → c.H = QDU (fun i=>listed.getD i false) 0 (hE effs) σ.H → Fr c (QDU (fun i=>listed.getD i false) 0 (tE ops.toList effs) σ.T) a →
   (∀ c' a',Rel c' → Ext c c' → c'.H = σ'.H → Fr c' σ'.T a' → Q .normal a' c'.w) → Q .normal a c.w:=by
  intro listed c a hall hr hH hF hQ
  obtain ⟨e1,e2⟩:=QRa hT
  have a1:QDU (fun i=>listed.getD i false) 0 (tE ops.toList effs) σ.T = σ'.T:=by
   rw [e1]
   apply List.ext_getElem?
   intro t
   refine QDH _ 0 _ _ t rfl rfl fun i e hi _=>?_
   obtain ⟨o,_,ho,_⟩:=htE hi
   rw [Nat.zero_add]
   exact hall i (Array.getElem?_eq_some_iff.1 ho).1
  have a2:QDU (fun i=>listed.getD i false) 0 (hE effs) σ.H = σ'.H:=by
   rw [e2]
   apply List.ext_getElem?
   intro t
   refine QDH _ 0 _ _ t rfl rfl fun i e hi _=>?_
   obtain ⟨ef,hef,_⟩:=hhE hi
   rw [Nat.zero_add]
   exact hall i (by have:=(List.getElem?_eq_some_iff.1 hef).1; rw [hel] at this; simpa using this)
  exact hQ c a hr (.refl c) (hH.trans a2) (a1 ▸ hF)
 have noready:∀ (listed:Array Bool),listed.size = ops.size → Region.ready .any ops listed = [] → ∀ i,i < ops.size → listed.getD i false = true:=by
  intro listed hls hnil i
  induction i using Nat.strongRecOn with
  | _ i ih=>
   intro hi
   cases hl:listed.getD i false with
   | true=>rfl
   | false=>
    exfalso
    have:i ∈ Region.ready .any ops listed:=by
     rw [mem_ready]
     refine ⟨?_,_,Array.getElem?_eq_getElem hi,fun e he hb=>?_⟩
     ·have hil:i < listed.size:=by omega
      simpa [Array.getD_eq_getD_getElem?,hil] using hl
     ·have:=QLN heo (Array.getElem?_eq_getElem hi) he hb
      exact ih e.on this (by omega)
    rw [hnil] at this
    cases this
 intro fuel
 induction fuel with
 | zero=>
  intro listed c a hls hsh hu hr hH hF hQ
  have hall:∀ i,i < ops.size → listed.getD i false = true:=by
   intro i hi
   cases hl:listed.getD i false with
   | true=>rfl
   | false=>
    have:i ∈ (List.range ops.size).filter fun i=>!listed.getD i false:=List.mem_filter.2 ⟨List.mem_range.2 hi,by rw [hl]; rfl⟩
    have:=List.length_pos_of_mem this
    simp only [unl] at hu
    omega
  refine ⟨?_,final listed c a hall hr hH hF hQ⟩
  cases hrd:Region.ready .any ops listed with
  | nil=>rfl
  | cons x xs=>
   have hx:x ∈ Region.ready .any ops listed:=by rw [hrd]; simp
   rw [mem_ready] at hx
   obtain ⟨h1,o,ho,_⟩:=hx
   have hxl:=(Array.getElem?_eq_some_iff.1 ho).1
   have h2:=hall x hxl
   have hil:x < listed.size:=by omega
   simp [Array.getD_eq_getD_getElem?,hil] at h1 h2
   rw [h1] at h2; cases h2
 | succ fuel ih=>
  intro listed c a hls hsh hu hr hH hF hQ
  refine ⟨fun hnil=>final listed c a (noready listed hls hnil) hr hH hF hQ,fun j hj=>?_⟩
  have hj':=hj
  rw [mem_ready] at hj'
  obtain ⟨hjl,o,ho,_⟩:=hj'
  have hjsz:j < ops.size:=(Array.getElem?_eq_some_iff.1 ho).1
  have hjlt:j < listed.size:=by omega
  have hLj:listed.getD j false = false:=by simpa [Array.getD_eq_getD_getElem?,hjlt] using hjl
  obtain ⟨ef,hef,hte,hhe⟩:=heff ho
  -- who comes before, who comes later
  have early:∀ {i:Nat},((Region.before ops).getD j 0).testBit i = true → listed.getD i false = true:=fun h=>QJN hsh hj h
  have late:∀ {i:Nat},((Region.before ops).getD i 0).testBit j = true → listed.getD i false = false:=fun {i} h=>by
   cases hl:listed.getD i false with
   | false=>rfl
   | true=>have:=hsh i j hl h; rw [hLj] at this; cases this
  have tdec:∀ {i:Nat} {oi:Oper},ops[i]? = some oi → (∃ t,oi.dst = some t ∧ (t ∈ o.looksAt ops ∨ o.dst = some t)) → i ≠ j → listed.getD i false = decide (i < j):=fun {i oi} hoi ⟨t,ht,hc⟩ hne=>by
   rcases Nat.lt_or_gt_of_ne hne with hlt | hgt
   ·rcases QHW hto hoi ho hlt with h | h
    ·obtain ⟨g1,g2,g3⟩:=Oper.apart_spec h
     rcases hc with hc | hc
     ·exact (g1 t ht hc).elim
     ·exact (g2 t ht hc).elim
    ·rw [early h]; simp [hlt]
   ·rcases QHW hto ho hoi hgt with h | h
    ·obtain ⟨g1,g2,g3⟩:=Oper.apart_spec h
     rcases hc with hc | hc
     ·exact (g3 t ht hc).elim
     ·exact (g2 t hc ht).elim
    ·rw [late h]; have:¬ i < j:=by omega
     simp [this]
  have odec:∀ {i:Nat} {ei:Eff},effs[i]? = some ei → (∃ t,t ∈ ei.wr.map (·.1) ∧ t ∈ ef.pre.map (·.1)) → i ≠ j → listed.getD i false = decide (i < j):=fun {i ei} hei ⟨t,ht1,ht2⟩ hne=>by
   have hi':(effs.map Eff.fp)[i]? = some ei.fp:=by rw [List.getElem?_map,hei]; rfl
   have hj':(effs.map Eff.fp)[j]? = some ef.fp:=by rw [List.getElem?_map,hef]; rfl
   rcases Nat.lt_or_gt_of_ne hne with hlt | hgt
   ·rcases QIT hoo hi' hj' hlt with h | h
    ·simp only [QCz,Bool.or_eq_false_iff,List.any_eq_false,Eff.fp] at h
     exact (h.1 t ht1 (by simpa using ht2)).elim
    ·rw [hbsz] at h
     rw [early h]; simp [hlt]
   ·rcases QIT hoo hj' hi' hgt with h | h
    ·simp only [QCz,Bool.or_eq_false_iff,List.any_eq_false,Eff.fp] at h
     exact (h.2 t ht2 (by simpa using ht1)).elim
    ·rw [hbsz] at h
     rw [late h]; have:¬ i < j:=by omega
     simp [this]
  -- the temporaries and objects that the operation looks at
  have seeT:∀ t ∈ o.looksAt ops,(QDU (fun i=>listed.getD i false) 0 (tE ops.toList effs) σ.T)[t]? = (QDU (fun i=>decide (i < j)) 0 (tE ops.toList effs) σ.T)[t]?:=fun t ht=>
   QDH _ 0 _ _ t rfl rfl fun i e hi hte'=>by
    obtain ⟨oi,ei,hoi,_,rfl⟩:=htE hi
    rw [Nat.zero_add]
    by_cases hij:i = j
    ·subst hij; rw [hLj]; simp
    ·exact tdec hoi ⟨t,hmem_dE hte',.inl ht⟩ hij
  have seeH:∀ t ∈ ef.pre.map (·.1),(QDU (fun i=>listed.getD i false) 0 (hE effs) σ.H)[t]? = (QDU (fun i=>decide (i < j)) 0 (hE effs) σ.H)[t]?:=fun t ht=>
   QDH _ 0 _ _ t rfl rfl fun i e hi hte'=>by
    obtain ⟨ei,hei,rfl⟩:=hhE hi
    rw [Nat.zero_add]
    by_cases hij:i = j
    ·subst hij; rw [hLj]; simp
    ·exact odec hei ⟨t,hte',ht⟩ hij
  -- the effects with the operation
  have hset:∀ i,i ≠ j → (listed.setIfInBounds j true).getD i false = listed.getD i false:=fun i hi=>getD_set_ne false (Ne.symm hi)
  have hsetj:(listed.setIfInBounds j true).getD j false = true:=by simp [hjlt]
  have addT:QDU (fun i=>(listed.setIfInBounds j true).getD i false) 0 (tE ops.toList effs) σ.T = QKC (QDU (fun i=>listed.getD i false) 0 (tE ops.toList effs) σ.T) (dE o.dst ef.val):=
   QKE hte hsetj hset fun i e' t hi he' ht1 ht2=>by
    obtain ⟨oi,ei,hoi,_,rfl⟩:=htE he'
    have:=tdec hoi ⟨t,hmem_dE ht1,.inr (hmem_dE ht2)⟩ (by omega)
    rw [this]; have:¬ i < j:=by omega
    simp [this]
  have hsh':=QRX hsh hj
  have hu':unl ops (listed.setIfInBounds j true) ≤ fuel:=by
   have:unl ops (listed.setIfInBounds j true) < unl ops listed:=QLO (x:=j) (by simpa using hjsz) (fun y hy=>by
    by_cases hyj:y = j
    ·subst hyj; simp [hLj]
    ·rw [hset y hyj] at hy; exact hy) (by simp [hLj]) (by simp [hjlt])
   omega
  have hlen:(QDU (fun i=>decide (i < j)) 0 (tE ops.toList effs) σ.T).length = a.tmps.size:=by rw [← hF.1]; simp
  have hgs:∀ d,QPq ops o = some d → d ∈ o.looksAt ops:=fun d hd=>by
   simp only [Oper.looksAt,List.mem_append]
   refine .inr ?_
   simp only [QPq] at hd
   split at hd
   ·rename_i g w hg; simp [hg,hd]
   ·cases hd
  unfold wpOp
  simp only [ho]
  rcases QT5 hT j o ef (by simpa using ho) hef with ⟨hw,hS,hp,hwr⟩ | ⟨hw,hval,hpre,hwr⟩
  ·have hwant:=hw c a hlen fun d hd=>by rw [← seeT d (hgs d hd)]; exact hF.2.2 d
   rw [if_pos hwant]
   refine .inl (hS c a hr (fun x hx=>?_) (fun p hpp=>?_) _ _ fun v c' h1 h2 h3 h4=>?_)
   ·cases x with
    | tmp t=>
     have ht:t ∈ o.looksAt ops:=by
      simp only [Oper.looksAt,List.mem_append,List.mem_filterMap]
      exact .inl ⟨.tmp t,hx,rfl⟩
     show Val c (((QDU (fun i=>decide (i < j)) 0 (tE ops.toList effs) σ.T)[t]?).getD .junk) _
     rw [← seeT t ht]
     exact hF.2.2 t
    | const v=>exact QDE c v
    | global g=>simp [opd,Opd.ev,Act.eval,Val]
    | func f=>simp [opd,Opd.ev,Act.eval,Val,QA3]
   ·rw [hH,seeH p.1 (List.mem_map.2 ⟨p,hpp,rfl⟩)]; exact hp p hpp
   ·refine ih _ c' _ (by simpa using hls) hsh' hu' h1 ?_ ?_ fun c2 a2 k1 k2 k3 k4=>hQ c2 a2 k1 (h2.trans k2) k3 k4
    ·rw [h3,hH,QKD]
     refine (QKE hhe hsetj hset fun i e' t hi he' ht1 ht2=>?_).symm
     obtain ⟨ei,hei,rfl⟩:=hhE he'
     obtain ⟨q,hq,hqe⟩:=List.mem_map.1 ht2
     have:=odec hei ⟨t,ht1,by rw [← hqe]; exact hwr q hq⟩ (by omega)
     rw [this]; have:¬ i < j:=by omega
     simp [this]
    ·rw [addT,← QGz]
     exact QM0 (QI6 h2 hr hF) h4 o.dst
  ·have hwant:=hw c a hlen fun d hd=>by rw [← seeT d (hgs d hd)]; exact hF.2.2 d
   rw [if_neg (by simp [hwant])]
   refine ih _ c _ (by simpa using hls) hsh' hu' hr ?_ ?_ hQ
   ·rw [hH]
    have:=QKE (x:=σ.H) hhe hsetj hset fun i e' t hi he' ht1 ht2=>by rw [hwr] at ht2; simp at ht2
    rw [this,hwr]; rfl
   ·rw [addT,← QGz,hval]
    exact QM0 hF (by simp only [Val,QA3]; exact ⟨#[],rfl,rfl⟩) o.dst

theorem QJO {c:Cx} (hr:Rel c):∀ n:Nat,∃ c',c'.w = c.w ∧ c'.H = c.H ++ List.replicate n .unborn ∧ Rel c' ∧ Ext c c'
 | 0=>⟨c,rfl,by simp,hr,.refl c⟩
 | n + 1=>by
  obtain ⟨c1,h1,h2,h3,h4⟩:=QJO hr n
  obtain ⟨g1,g2⟩:=QDa h3
  exact ⟨{ c1 with μ:=c1.μ ++ [.pointer none],H:=c1.H ++ [.unborn] },h1,by show c1.H ++ [AObj.unborn] = _; rw [h2,List.append_assoc,List.replicate_succ'],g1,h4.trans g2⟩

theorem QRb {P:Program} {k:Nat} {l:List QD2} {bs:List Nat} {Q:Exit → St → Prop} {σ:St} (h:QRY P l bs (Q .normal) σ):awp P k (.draw l bs) Q σ:=by
 intro own code hc
 cases code <;> simp only [QAd,Option.map_eq_some_iff,reduceCtorEq,and_false,exists_false] at hc
 case region id ops draw=>
  cases draw
  ·simp only [Bool.false_and,Bool.false_eq_true,if_false,Option.map_eq_some_iff,reduceCtorEq,and_false,exists_false] at hc
  ·split at hc
   ·cases hc
   ·rename_i hchk
    simp only [Bool.true_and,Bool.not_eq_true',Bool.not_eq_false,Bool.and_eq_true] at hchk
    obtain ⟨⟨hmix,hto⟩,heo⟩:=hchk
    simp only [if_true,Option.map_eq_some_iff,ACode.draw.injEq] at hc
    obtain ⟨l',hl,rfl,rfl⟩:=hc
    obtain ⟨effs,σ',hT,hoo,hQ⟩:=QMN ops.toList _ _ _ _ hl h
    refine fun c a hr hH hF Q' hQ'=>wp_region_any hmix ?_
    obtain ⟨c1,h1,h2,h3,h4⟩:=QJO hr (QLM l')
    obtain ⟨g1,g2⟩:=QND h3
    have hw:{ c.w with drawn:=c.w.drawn + 1 } = ({ c1 with w:=c1.w.drew }:Cx).w:=by show _ = c1.w.drew; rw [h1]; rfl
    rw [hw]
    have f0:∀ {α:Type} (es:List (List (Nat × α))) (k:Nat) (x:List α),QDU (fun i=>(Array.replicate ops.size false).getD i false) k es x = x:=by
     intro α es
     induction es with
     | nil=>intro k x; rfl
     | cons e es ih=>intro k x; rw [QDU,if_neg (by simp [Array.getD_eq_getD_getElem?,Array.getElem?_replicate]; split <;> simp),ih]
    refine QPr hto heo hT (by simpa using hoo) ops.size (Array.replicate ops.size false) { c1 with w:=c1.w.drew } a (by simp) ?_ ?_ g1 ?_ ?_ fun c' a' k1 k2 k3 k4=>hQ' .normal σ' c' a' hQ k1 (((h4.trans g2).trans k2).toN k) k3 k4
    ·intro j i hj
     simp [Array.getD_eq_getD_getElem?,Array.getElem?_replicate] at hj
     split at hj <;> simp at hj
    ·exact Nat.le_trans (List.length_filter_le _ _) (by simp)
    ·rw [f0]; show c1.H = _; rw [h2,hH]
    ·rw [f0]; exact QI6 (h4.trans g2) hr hF
 all_goals first | (cases hc; done) | (split at hc <;> (cases hc; done)) | (obtain ⟨_,_,hc⟩:=hc; first | (cases hc; done) | (split at hc <;> (cases hc; done)))

end Go.Ab
namespace Go.Ab
open Go
set_option linter.unusedSectionVars false
variable [Glob]

def QGR (P:Program) (k:Nat):ACode → (Exit → St → Prop) → St → Prop
 | .skip,Q,σ=>Q .normal σ
 | .ops l,Q,σ=>QD4 P l (Q .normal) σ
 | .draw l bs,Q,σ=>QRY P l bs (Q .normal) σ
 | .seq a b,Q,σ=>QGR P k a (QJt (QGR P k b Q) Q) σ
 | .cond c a b,Q,σ=>QN4 (c.ev σ.T) (QGR P k a Q σ) (QGR P k b Q σ)
 | .block id c,Q,σ=>QGR P k c (QH8 id Q) σ
 | .loop c,Q,σ=>awp P k (.loop c) Q σ
 | .exit id,Q,σ=>Q (.exit id) σ
 | .ret,Q,σ=>Q .ret σ

theorem QDg {P:Program} {k:Nat} {ac:ACode}:∀ {Q:Exit → St → Prop} {σ:St},QGR P k ac Q σ → awp P k ac Q σ:=by
 induction ac with
 | skip=>exact fun h=>QJv.1 h
 | ops l=>exact fun h=>QTq h
 | draw l bs=>exact fun h=>QRb h
 | seq a b ha hb=>exact fun {Q σ} h=>QJu (QDM (ha h) fun e s hs=>by cases e <;> first | exact hb hs | exact hs)
 | cond c a b ha hb=>
  intro Q σ h
  refine QRF ?_
  simp only [QGR] at h
  unfold QN4 at *
  split at h
  ·rename_i b hb'
   cases b
   ·simp only [Bool.false_eq_true,if_false] at h ⊢; exact hb h
   ·simp only [if_true] at h ⊢; exact ha h
  ·exact h
 | block id c ih=>exact fun h=>QBZ (ih h)
 | loop c ih=>exact fun h=>h
 | exit id=>exact fun h=>QJv.2.2 id h
 | ret=>exact fun h=>QJv.2.1 h

def cv1 (H:List AObj) (m:Nat) (x y:AV):Prop:=
 y = .junk ∨ (x = y ∧ QAE m y = true) ∨ (match x,y with
  | .own o n,.imm l=>m ≤ o ∧ n = l.length ∧ (∃ e sz,H[o]? = some (.reg e sz l)) ∧ QAb m l = true
  | .nils,.imm l=>l = []
  | _,_=>False)

def cvT (H:List AObj) (m:Nat):List AV → List AV → Prop
 | [],[]=>True
 | x :: xs,y :: ys=>cv1 H m x y ∧ cvT H m xs ys
 | _,_=>False

def cvA (H:List AObj) (m:Nat) (x y:AV):Prop:=
 match x,y with
 | .agg xs,.agg ys=>cvT H m xs ys
 | x,y=>cv1 H m x y

def QY3 (H:List AObj) (m:Nat):List AV → List AV → Prop
 | [],[]=>True
 | x :: xs,y :: ys=>cvA H m x y ∧ QY3 H m xs ys
 | _,_=>False

def cvR (H:List AObj) (m:Nat) (x y:AV):Prop:=
 match x,y with
 | .tup xs,.tup ys=>QY3 H m xs ys
 | x,y=>cvA H m x y

def cvO (H:List AObj) (m:Nat) (x y:AObj):Prop:=
 match x,y with
 | .unborn,.unborn=>True
 | .dead,.dead=>True
 | .box e cs,.box e' cs'=>e' = e ∧ cvT H m cs cs'
 | .reg e sz l,.reg e' sz' l'=>e' = e ∧ sz' = sz ∧ l' = l ∧ QAb m l = true
 | .map kvs,.map kvs'=>kvs' = kvs ∧ (kvs.all fun p=>QAE m p.1 && QAE m p.2) = true
 | .iter o s l,.iter o' s' l'=>o' = o ∧ s' = s ∧ l' = l ∧ o < m
 | _,_=>False

def cvH (H:List AObj) (m:Nat):List AObj → List AObj → Prop
 | _,[]=>True
 | x :: xs,y :: ys=>cvO H m x y ∧ cvH H m xs ys
 | [],_ :: _=>False

theorem QKH {H:List AObj} {m:Nat} {x y:AV} (h:cv1 H m x y):Conv H m [] x y:=by
 rcases h with rfl | ⟨rfl,h⟩ | h
 ·exact .junk _
 ·exact .same _ h
 ·split at h
  ·obtain ⟨h1,h2,⟨e,sz,h3⟩,h4⟩:=h
   exact .frz _ _ e sz _ _ h1 (by simp) h3 h2 (QBY h4)
  ·subst h; exact .nils
  ·exact h.elim

theorem QGS {H:List AObj} {m:Nat}:∀ {xs ys:List AV},cvT H m xs ys → QEJ H m [] xs ys
 | [],[],_=>.nil
 | _ :: _,_ :: _,h=>.cons _ _ _ _ (QKH h.1) (QGS h.2)
 | [],_ :: _,h=>h.elim
 | _ :: _,[],h=>h.elim

theorem QNF {H:List AObj} {m:Nat} {x y:AV} (h:cvA H m x y):Conv H m [] x y:=by
 unfold cvA at h
 split at h
 ·exact .agg _ _ (QGS h)
 ·exact QKH h

theorem QLP {H:List AObj} {m:Nat}:∀ {xs ys:List AV},QY3 H m xs ys → QEJ H m [] xs ys
 | [],[],_=>.nil
 | _ :: _,_ :: _,h=>.cons _ _ _ _ (QNF h.1) (QLP h.2)
 | [],_ :: _,h=>h.elim
 | _ :: _,[],h=>h.elim

theorem QRc {H:List AObj} {m:Nat} {x y:AV} (h:cvR H m x y):Conv H m [] x y:=by
 unfold cvR at h
 split at h
 ·exact .tup _ _ (QLP h)
 ·exact QNF h

theorem QRd {H:List AObj} {m:Nat} {x y:AObj} (h:cvO H m x y):QFt H m [] x y:=by
 cases x <;> cases y <;> simp only [cvO] at h <;> simp only [QFt]
 ·exact ⟨h.1,QGS h.2⟩
 ·obtain ⟨rfl,rfl,rfl,h⟩:=h; exact ⟨rfl,rfl,QBY h⟩
 ·obtain ⟨rfl,h⟩:=h
  refine ⟨rfl,fun p hp _=>?_⟩
  have:=(List.all_eq_true.1 h) p hp
  simpa using this
 ·exact h

theorem QNG {H:List AObj} {m:Nat}:∀ {xs ys:List AObj},cvH H m xs ys → ys.length ≤ xs.length ∧ ∀ (o:Nat) (x y:AObj),xs[o]? = some x → ys[o]? = some y → QFt H m [] x y
 | _,[],_=>⟨by simp,by simp⟩
 | x :: xs,y :: ys,h=>by
  obtain ⟨h1,h2⟩:=QNG h.2
  refine ⟨by simp; exact h1,fun o a b ha hb=>?_⟩
  cases o with
  | zero=>simp at ha hb; subst ha hb; exact QRd h.1
  | succ o=>simp at ha hb; exact h2 o a b ha hb
 | [],_ :: _,h=>h.elim

theorem QLQ {H H':List AObj} (h:cvH H H'.length H H'):QEY H H'.length [] H':=by
 obtain ⟨h1,h2⟩:=QNG h
 exact ⟨h1,by simp,List.nodup_nil,by simp,fun o x y _ hx hy=>h2 o x y hx hy,by simp⟩

theorem Wk.cut {k:Nat} {T T':List AV} {H H':List AObj} (hk:k ≤ H'.length) (hT:cvT H H'.length T T') (hH:cvH H H'.length H H'):Wk k ⟨T,H⟩ ⟨T',H'⟩:=fun c a hr hHc hF=>by
 have hHc':c.H = H:=hHc
 subst hHc'
 have hC:=QLQ hH
 have hlen:T.length = T'.length:=(QDQ (QGS hT)).symm
 have hE:=QL7 (c0:={ c with H:=c.H.take H'.length,μ:=c.μ.take H'.length }) hr hC
 refine ⟨QHm c H'.length [] H',rfl,QJx hr hC,?_,rfl,?_⟩
 ·refine ⟨fun b hb=>.inl hb,fun b hb=>?_,fun b _ _=>rfl,Nat.le_refl _,rfl,rfl,rfl,fun o b ho=>?_,fun o x ho hx=>?_⟩
  ·rcases hb with hb | ⟨o,_,_,h3⟩
   ·exact .inl hb
   ·exact .inr (.inr ⟨o,h3⟩)
  ·obtain ⟨p,h1,_⟩:=QDl hr hC ho
   exact .inr ⟨p,h1⟩
  ·exact (QGF hr hC).obj o x (by omega) hx
 ·refine ⟨by rw [← hlen]; exact hF.1,hF.2.1,fun n=>?_⟩
  have key:∀ (xs ys:List AV),cvT c.H H'.length xs ys → ∀ n:Nat,cv1 c.H H'.length ((xs[n]?).getD .junk) ((ys[n]?).getD .junk):=by
   intro xs
   induction xs with
   | nil=>intro ys h n; cases ys with | nil=>exact .inl rfl | cons y ys=>exact h.elim
   | cons x xs ih=>
    intro ys h n
    cases ys with
    | nil=>exact h.elim
    | cons y ys=>
     cases n with
     | zero=>exact h.1
     | succ n=>exact ih ys h.2 n
  exact QFO hr hC (QKH (key T T' hT n)) (hF.2.2 n)

theorem Wk.nilT {k:Nat} {T:List AV} {H:List AObj} (n e sz:Nat) (hn:T[n]? = some .nils) (hk:k ≤ H.length):Wk k ⟨T,H⟩ ⟨T.set n (.own H.length 0),H ++ [.reg e sz []]⟩:=fun c a hr hH hF=>by
 have hH':c.H = H:=hH
 subst hH'
 obtain ⟨h1,h2⟩:=QDa hr
 have hu:(c.H ++ [AObj.unborn])[c.H.length]? = some .unborn:=by simp
 have hm:((c.μ ++ [Value.pointer none]).set c.H.length (.slice none 0 0))[c.H.length]? = some (.slice none 0 0):=by
  rw [← hr.len]; simp
 have hN:=QC3 h1 (o:=c.H.length) (x':=.reg e sz []) (v':=.slice none 0 0) (F':=c.F) (w':=c.w) hu (by simp [OStep]) (fun _ h=>h) (fun _ h=>.inl h) (fun _ _ _=>rfl) (Nat.le_refl _) rfl rfl rfl
  (fun b _ hb=>by simp [blk] at hb) (fun _=>⟨.slice none 0 0,hm,.inl ⟨rfl,rfl⟩⟩)
 have hset:(c.H ++ [AObj.unborn]).set c.H.length (.reg e sz []) = c.H ++ [.reg e sz []]:=by simp
 refine ⟨⟨c.F,(c.μ ++ [Value.pointer none]).set c.H.length (.slice none 0 0),(c.H ++ [AObj.unborn]).set c.H.length (.reg e sz []),c.w⟩,rfl,hN.1,(h2.trans hN.2).toN k,hset,?_⟩
 have hF':=QI6 (h2.trans hN.2) hr hF
 refine ⟨by simpa using hF'.1,hF'.2.1,fun j=>?_⟩
 by_cases hj:n = j
 ·subst hj
  have hlt:n < T.length:=(List.getElem?_eq_some_iff.1 hn).1
  have hv:=hF'.2.2 n
  simp only [hn,Option.getD_some,Val] at hv
  rw [List.getElem?_set_self hlt,Option.getD_some,hv]
  simp only [Val]
  refine ⟨⟨_,_,_,rfl⟩,.inl ⟨e,sz,[],?_,Nat.le_refl _,fun _=>hm⟩⟩
  show ((c.H ++ [AObj.unborn]).set c.H.length (.reg e sz []))[c.H.length]? = _
  rw [hset]; simp
 ·have:(T.set n (.own c.H.length 0))[j]? = T[j]?:=by simp [List.getElem?_set_ne hj]
  rw [this]
  exact hF'.2.2 j

theorem Wk.nilB {k:Nat} {T:List AV} {H:List AObj} {eb:Nat} {cs:List AV} (o i e sz:Nat) (ho:H[o]? = some (.box eb cs)) (hi:cs[i]? = some .nils) (hk:k ≤ H.length):
  Wk k ⟨T,H⟩ ⟨T,H.set o (.box eb (cs.set i (.own H.length 0))) ++ [.reg e sz []]⟩:=fun c a hr hH hF=>by
 have hH':c.H = H:=hH
 subst hH'
 obtain ⟨h1,h2⟩:=QDa hr
 have hol:o < c.H.length:=(List.getElem?_eq_some_iff.1 ho).1
 have hu:(c.H ++ [AObj.unborn])[c.H.length]? = some .unborn:=by simp
 have hm:((c.μ ++ [Value.pointer none]).set c.H.length (.slice none 0 0))[c.H.length]? = some (.slice none 0 0):=by
  rw [← hr.len]; simp
 have hN:=QC3 h1 (o:=c.H.length) (x':=.reg e sz []) (v':=.slice none 0 0) (F':=c.F) (w':=c.w) hu (by simp [OStep]) (fun _ h=>h) (fun _ h=>.inl h) (fun _ _ _=>rfl) (Nat.le_refl _) rfl rfl rfl
  (fun b _ hb=>by simp [blk] at hb) (fun _=>⟨.slice none 0 0,hm,.inl ⟨rfl,rfl⟩⟩)
 have hset:(c.H ++ [AObj.unborn]).set c.H.length (.reg e sz []) = c.H ++ [.reg e sz []]:=by simp
 have ho2:((c.H ++ [AObj.unborn]).set c.H.length (.reg e sz []))[o]? = some (.box eb cs):=by
  rw [hset,List.getElem?_append_left hol]; exact ho
 obtain ⟨b,arr,g1,g2,g3,g4⟩:=hN.1.obj o _ ho2
 have hN2:=QC3 hN.1 (o:=o) (x':=.box eb (cs.set i (.own c.H.length 0))) (v':=.pointer (some ⟨b,0,none⟩)) (F':=c.F) (w':=c.w) ho2 (by simp only [OStep]; exact ⟨trivial,g1.symm⟩) (fun _ h=>h) (fun _ h=>.inl h) (fun _ _ _=>rfl) (Nat.le_refl _) rfl rfl rfl
  (fun b' _ hb=>.inr ⟨_,_,ho2,rfl,g1,hb⟩) (fun hE=>by
   refine ⟨b,arr,?_,g2,by simpa using g3,?_⟩
   ·have:=(List.getElem?_eq_some_iff.1 g1).1
    exact set_getElem?_self g1
   ·have g5:=QE2 (hE.vext hN.1) _ _ _ rfl g4
    rw [QCE] at g5 ⊢
    intro j x hj
    by_cases hji:i = j
    ·subst hji
     have hlt:=(List.getElem?_eq_some_iff.1 hi).1
     rw [List.getElem?_set_self hlt] at hj
     cases hj
     obtain ⟨v,k1,k2,k3⟩:=g5 i _ hi
     refine ⟨v,k1,k2,?_⟩
     simp only [Val] at k3
     subst k3
     simp only [Val]
     have hne:o ≠ c.H.length:=by omega
     refine ⟨⟨_,_,_,rfl⟩,.inl ⟨e,sz,[],?_,Nat.le_refl _,fun _=>?_⟩⟩
     ·rw [List.getElem?_set_ne hne,hset]; simp
     ·rw [List.getElem?_set_ne hne]; exact hm
    ·rw [List.getElem?_set_ne hji] at hj
     exact g5 j x hj)
 refine ⟨⟨c.F,((c.μ ++ [Value.pointer none]).set c.H.length (.slice none 0 0)).set o (.pointer (some ⟨b,0,none⟩)),((c.H ++ [AObj.unborn]).set c.H.length (.reg e sz [])).set o (.box eb (cs.set i (.own c.H.length 0))),c.w⟩,rfl,hN2.1,((h2.trans hN.2).trans hN2.2).toN k,?_,QI6 ((h2.trans hN.2).trans hN2.2) hr hF⟩
 show ((c.H ++ [AObj.unborn]).set c.H.length (.reg e sz [])).set o _ = c.H.set o _ ++ [_]
 rw [hset,List.set_append_left _ _ hol]

theorem QG0 {k0:Nat} {res:List QIv} {av:AV} {H':List AObj} {σ:St} (hk:k0 = H'.length) (h:QH9 σ.T σ.H res fun xs=>cvR σ.H k0 (QBG xs) av) (hH:cvH σ.H k0 σ.H H'):QSp k0 res av H' .ret σ ∧ QSp k0 res av H' .normal σ:=by
 subst hk
 have mono:∀ (l:List QIv) (K K':List AV → Prop),(∀ xs,K xs → K' xs) → QH9 σ.T σ.H l K → QH9 σ.T σ.H l K':=by
  intro l
  induction l with
  | nil=>intro K K' hk h; exact hk _ h
  | cons r l ih=>
   intro K K' hk h
   cases r with
   | tmp t=>exact ih _ _ (fun xs hx=>hk _ hx) h
   | cell t n=>
    have ld:∀ (n:Option Nat) (cs:List AV) (K K':AV → Prop),(∀ v,K v → K' v) → ldK n cs K → ldK n cs K':=by
     intro n cs K K' hk h
     unfold ldK at h ⊢
     split at h
     ·split at h
      ·exact hk _ h
      ·exact h
     ·exact ⟨h.1,hk _ h.2⟩
    simp only [QH9] at h ⊢
    unfold QHo at h ⊢
    split at h
    ·split at h
     ·exact ld _ _ _ _ (fun v hv=>ih _ _ (fun xs hx=>hk _ hx) hv) h
     ·exact h
    ·exact ld _ _ _ _ (fun v hv=>ih _ _ (fun xs hx=>hk _ hx) hv) h
    ·split at h
     ·refine ⟨h.1,?_⟩
      have h2:=h.2
      split at h2
      ·exact ld _ _ _ _ (fun v hv=>ih _ _ (fun xs hx=>hk _ hx) hv) h2
      ·exact h2
     ·exact h
    ·exact h
 have:=mono res _ _ (fun xs hx=>(⟨[],QLQ hH,QRc hx⟩:∃ ex,QEY σ.H H'.length ex H' ∧ Conv σ.H H'.length ex (QBG xs) av)) h
 exact ⟨this,this⟩

end Go.Ab
namespace Go.Ab
open Go
set_option linter.unusedSectionVars false
variable [Glob]

def QY4 (k0:Nat) (res:List QIv) (av:AV) (H':List AObj):Exit → St → Prop
 | .normal,σ | .ret,σ=>(QH9 σ.T σ.H res fun xs=>cvR σ.H k0 (QBG xs) av) ∧ cvH σ.H k0 σ.H H'
 | _,_=>False

theorem QAH {P:Program} {own:List Nat} {f:Nat} {fn:AFn} {as:List AV} {H H':List AObj} {av:AV} (hf:QAg P own f = some fn) (hk:H.length = H'.length)
  (h:QGR P H.length fn.body (QY4 H.length fn.res av H') ⟨as ++ List.replicate (fn.nt - as.length) .junk,H⟩):ACalls P f as H av H':=
 QHQ hf (QDM (QDg h) fun e s hs=>by
  cases e with
  | normal=>exact (QG0 hk hs.1 hs.2).2
  | ret=>exact (QG0 hk hs.1 hs.2).1
  | _=>exact hs.elim)

attribute [go_sem] QEI QC4 QBp QED QFK AV.one cellsOf QCs QFH QOA QLM AOp.allocs QGC
 QAE QAB QAb cv1 cvT cvA QY3 cvR cvO cvH QBG QKx QWn

theorem QRe {P:Program} {f:Nat} {as:List AV} {av:AV} {H:List AObj} {K:List AObj → AV → Prop} (h:ACalls P f as [] av []) (ha:QAB 0 as = true) (hv:QAE 0 av = true) (hK:K H av):
  ∃ H' v,ACalls P f as H v H' ∧ K H' v:=⟨H,av,h.pure H ha hv,hK⟩

theorem QPs {P:Program} {f:Nat} {as xs:List AV} {av:AV} {He He' H:List AObj} {K:List AObj → AV → Prop} (is:List Nat) (h:ACalls P f as He av He') (hle:He.length = is.length) (hlen:He'.length = is.length) (hnd:is.Nodup)
  (hx:xs = QBt is as) (hH:∀ (j p:Nat) (x:AObj),is[j]? = some p → He[j]? = some x → H[p]? = some (QBP is x)) (hK:K (QBd H is (He'.map (QBP is))) (ren is av)):
  ∃ H' v,ACalls P f xs H v H' ∧ K H' v:=⟨_,_,hx ▸ h.frame is hle hlen hnd hH,hK⟩

theorem QPt {P:Program} {f:Nat} {as:List AV} {av:AV} {H:List AObj} {K:SK} (h:ACalls P f as [] av []) (ha:QAB 0 as = true) (hv:QAE 0 av = true) (hK:K [] [] av):
  ∃ pre wr v,(∀ p ∈ pre,H[p.1]? = some p.2) ∧ (∀ p ∈ wr,p.1 ∈ pre.map (·.1)) ∧ (∀ H2,(∀ p ∈ pre,H2[p.1]? = some p.2) → ACalls P f as H2 v (QGC H2 wr)) ∧ K pre wr v:=
 ⟨[],[],av,by simp,by simp,fun H2 _=>h.pure H2 ha hv,hK⟩

theorem QFU:∀ (is:List Nat) (xs:List AObj) (H:List AObj),is.length = xs.length → QBd H is xs = QGC H (is.zip xs)
 | [],[],H,_=>by simp [QBd,QGC]
 | [],_ :: _,_,h=>by simp at h
 | _ :: _,[],_,h=>by simp at h
 | i :: is,x :: xs,H,h=>by rw [QBd,List.zip_cons_cons,QGC,QFU is xs _ (by simpa using h)]

theorem QOJ {P:Program} {f:Nat} {as xs:List AV} {av:AV} {He He' H:List AObj} {K:SK} (is:List Nat) (h:ACalls P f as He av He') (hle:He.length = is.length) (hlen:He'.length = is.length) (hnd:is.Nodup)
  (hx:xs = QBt is as) (hH:∀ p ∈ is.zip (He.map (QBP is)),H[p.1]? = some p.2) (hK:K (is.zip (He.map (QBP is))) (is.zip (He'.map (QBP is))) (ren is av)):
  ∃ pre wr v,(∀ p ∈ pre,H[p.1]? = some p.2) ∧ (∀ p ∈ wr,p.1 ∈ pre.map (·.1)) ∧ (∀ H2,(∀ p ∈ pre,H2[p.1]? = some p.2) → ACalls P f xs H2 v (QGC H2 wr)) ∧ K pre wr v:=by
 refine ⟨_,_,_,hH,fun p hp=>?_,fun H2 hH2=>?_,hK⟩
 ·show p.1 ∈ List.map Prod.fst (is.zip (He.map (QBP is)))
  rw [List.map_fst_zip (by simp [hle])]
  exact (List.of_mem_zip hp).1
 ·rw [← QFU _ _ _ (by simp [hlen])]
  subst hx
  refine h.frame is hle hlen hnd fun j p x hj hx=>?_
  have:=hH2 (p,QBP is x) (List.mem_of_getElem? (i:=j) (by rw [List.getElem?_zip_eq_some]; exact ⟨hj,by rw [List.getElem?_map,hx]; rfl⟩))
  exact this

end Go.Ab
namespace Go.Ab
open Go
set_option linter.unusedSectionVars false
variable [Glob]

inductive QCh {α:Type} (a:α):Type
 | mk
def cbv {α:Type} (x:α) (F:α → Prop) (_:QCh F):Prop:=F x
@[go_sem] theorem cbv_eq {α:Type} (x:α) (F:α → Prop) (u:QCh F):cbv x F u = F x:=rfl

def QG1 (x:Option AObj) (K:Nat → List AV → Prop):Prop:=match x with | some (.box e cs)=>K e cs | _=>False
def QBQ (x:Option AObj) (K:Nat → Nat → List (List AV) → Prop):Prop:=match x with | some (.reg e sz l)=>K e sz l | _=>False
def QD3 (x:Option AObj) (K:List (AV × AV) → Prop):Prop:=match x with | some (.map kvs)=>K kvs | _=>False
def QCk {α:Type} (x:Option α) (K:α → Prop):Prop:=match x with | some v=>K v | none=>False
@[go_sem ↓] theorem QW1 (e:Nat) (cs:List AV) (K:Nat → List AV → Prop):QG1 (some (.box e cs)) K = K e cs:=rfl
@[go_sem ↓] theorem QW2 (e sz:Nat) (l:List (List AV)) (K:Nat → Nat → List (List AV) → Prop):QBQ (some (.reg e sz l)) K = K e sz l:=rfl
@[go_sem ↓] theorem QW3 (kvs:List (AV × AV)) (K:List (AV × AV) → Prop):QD3 (some (.map kvs)) K = K kvs:=rfl
@[go_sem ↓] theorem QT6 {α:Type} (v:α) (K:α → Prop):QCk (some v) K = K v:=rfl
def grd (x:AV) (w:Bool) (p q:Prop):Prop:=match x with | .bool b=>if b = w then p else q | .tup []=>q | _=>False

def QKI (P:Program) (f:Nat) (as:List AV) (H:List AObj) (K:List AObj → AV → Prop) (_:QCh K):Prop:=ACallsR P f as H fun v H'=>K H' v
def QT7 (x:AV) (H:List AObj) (K:List AObj → AV → Prop) (_:QCh K):Prop:=QGi x H K
def QNH (x:Option AObj) (K:Nat → Nat → List Nat → Prop):Prop:=match x with | some (.iter m s l)=>K m s l | _=>False
@[go_sem ↓] theorem QT8 (m s:Nat) (l:List Nat) (K:Nat → Nat → List Nat → Prop):QNH (some (.iter m s l)) K = K m s l:=rfl
def QJP (P:Program) (f:Nat) (as:List AV) (H:List AObj) (K:SK) (_:QCh K):Prop:=∃ pre wr v,(∀ p ∈ pre,H[p.1]? = some p.2) ∧ (∀ p ∈ wr,p.1 ∈ pre.map (·.1)) ∧
   (∀ H2,(∀ p ∈ pre,H2[p.1]? = some p.2) → ACalls P f as H2 v (QGC H2 wr)) ∧ K pre wr v
def QT9 (P:Program) (k:Nat) (c:ACode) (Q:Exit → St → Prop) (T:List AV) (H:List AObj) (_:QCh (c,Q)):Prop:=awp P k (.loop c) Q ⟨T,H⟩

section eqs
variable {K:SK} {H:List AObj}
@[go_sem ↓] theorem QSy {P:Program} {K:St → Prop} {σ:St}:QD4 P [] K σ = K σ:=rfl
@[go_sem ↓] theorem QY5 {P:Program} {d:Option Nat} {op:AOp} {g:Option (Nat × Bool)} {r:List QD2} {K:St → Prop} {T:List AV} {H:List AObj}:
  QD4 P (⟨d,op,g⟩ :: r) K ⟨T,H⟩ = QFi g T (QCB P op T H fun H' v=>cbv (QEE T d v) (fun T'=>cbv (H') (fun H''=>QD4 P r K ⟨T',H''⟩) .mk) .mk) (cbv (QEE T d (.tup [])) (fun T'=>QD4 P r K ⟨T',H⟩) .mk):=rfl
@[go_sem ↓] theorem QVv {P:Program} {K:List (List Nat × List Nat) → St → Prop} {n:Nat} {acc:List (List Nat × List Nat)} {σ:St}:QNE P K [] n acc σ = K acc σ:=rfl
@[go_sem ↓] theorem q_awpD {P:Program} {K:List (List Nat × List Nat) → St → Prop} {d:Option Nat} {op:AOp} {g:Option (Nat × Bool)} {r:List QD2} {n:Nat} {acc:List (List Nat × List Nat)} {T:List AV} {H:List AObj}:
  QNE P K (⟨d,op,g⟩ :: r) n acc ⟨T,H⟩ = QFi g T (QCK P op T H n fun pre wr v=>cbv (if op.allocs then n + 1 else n) (fun n'=>cbv (acc ++ [(pre.map (·.1),wr.map (·.1))]) (fun acc'=>cbv (QEE T d v) (fun T'=>cbv (QGC H wr) (fun H'=>QNE P K r n' acc' ⟨T',H'⟩) .mk) .mk) .mk) .mk)
   (cbv (if op.allocs then n + 1 else n) (fun n'=>cbv (acc ++ [([],[])]) (fun acc'=>cbv (QEE T d (.tup [])) (fun T'=>QNE P K r n' acc' ⟨T',H⟩) .mk) .mk) .mk):=rfl
@[go_sem ↓] theorem QZq {P:Program} {l:List QD2} {bs:List Nat} {Q:St → Prop} {T:List AV} {H:List AObj}:
  QRY P l bs Q ⟨T,H⟩ = (cbv (H.length) (fun n=>cbv (H ++ List.replicate (QLM l) .unborn) (fun H'=>QNE P (fun fps s=>QBB bs fps = true ∧ Q s) l n [] ⟨T,H'⟩) .mk) .mk):=rfl
@[go_sem ↓] theorem QSz {T:List AV} {p q:Prop}:QFi none T p q = p:=rfl
@[go_sem ↓] theorem QS0 {T:List AV} {d:Nat} {w:Bool} {p q:Prop}:QFi (some (d,w)) T p q = (cbv (Opd.ev T (.t d)) (fun x=>grd x w p q) .mk):=by
 show (match T[d]? with | some (.bool b)=>_ | some (.tup [])=>_ | _=>False) = grd ((T[d]?).getD .junk) w p q
 unfold grd
 cases T[d]? with
 | none=>rfl
 | some x=>cases x with
  | tup l=>cases l <;> rfl
  | _=>rfl
@[go_sem ↓] theorem QVw {b w:Bool} {p q:Prop}:grd (.bool b) w p q = if b = w then p else q:=rfl
@[go_sem ↓] theorem QVx {w:Bool} {p q:Prop}:grd (.tup []) w p q = q:=rfl
@[go_sem ↓] theorem q_cond {b:Bool} {p q:Prop}:QN4 (.bool b) p q = if b then p else q:=rfl
@[go_sem ↓] theorem QQx {n:St → Prop} {Q:Exit → St → Prop} {s:St}:QJt n Q .normal s = n s:=rfl
@[go_sem ↓] theorem QUA {n:St → Prop} {Q:Exit → St → Prop} {s:St}:QJt n Q .ret s = Q .ret s:=rfl
@[go_sem ↓] theorem QS1 {n:St → Prop} {Q:Exit → St → Prop} {s:St} {i:Nat}:QJt n Q (.exit i) s = Q (.exit i) s:=rfl
@[go_sem ↓] theorem QPu {i:Nat} {Q:Exit → St → Prop} {s:St}:QH8 i Q .normal s = Q .normal s:=rfl
@[go_sem ↓] theorem QS2 {i:Nat} {Q:Exit → St → Prop} {s:St}:QH8 i Q .ret s = Q .ret s:=rfl
@[go_sem ↓] theorem QRf {i j:Nat} {Q:Exit → St → Prop} {s:St}:QH8 i Q (.exit j) s = if j = i then Q .normal s else Q (.exit j) s:=rfl
@[go_sem ↓] theorem QUB {P:Program} {k:Nat} {Q:Exit → St → Prop} {σ:St}:QGR P k .skip Q σ = Q .normal σ:=rfl
@[go_sem ↓] theorem QVy {P:Program} {k:Nat} {l:List QD2} {Q:Exit → St → Prop} {σ:St}:QGR P k (.ops l) Q σ = QD4 P l (Q .normal) σ:=rfl
@[go_sem ↓] theorem QUC {P:Program} {k:Nat} {l:List QD2} {bs:List Nat} {Q:Exit → St → Prop} {σ:St}:QGR P k (.draw l bs) Q σ = QRY P l bs (Q .normal) σ:=rfl
@[go_sem ↓] theorem QVz {P:Program} {k:Nat} {a b:ACode} {Q:Exit → St → Prop} {σ:St}:QGR P k (.seq a b) Q σ = QGR P k a (QJt (QGR P k b Q) Q) σ:=rfl
@[go_sem ↓] theorem QUD {P:Program} {k:Nat} {c:Opd} {a b:ACode} {Q:Exit → St → Prop} {T:List AV} {H:List AObj}:QGR P k (.cond c a b) Q ⟨T,H⟩ = (cbv (c.ev T) (fun v=>QN4 v (QGR P k a Q ⟨T,H⟩) (QGR P k b Q ⟨T,H⟩)) .mk):=rfl
@[go_sem ↓] theorem QS3 {P:Program} {k:Nat} {i:Nat} {c:ACode} {Q:Exit → St → Prop} {σ:St}:QGR P k (.block i c) Q σ = QGR P k c (QH8 i Q) σ:=rfl
@[go_sem ↓] theorem QUE {P:Program} {k:Nat} {i:Nat} {Q:Exit → St → Prop} {σ:St}:QGR P k (.exit i) Q σ = Q (.exit i) σ:=rfl
@[go_sem ↓] theorem QV0 {P:Program} {k:Nat} {Q:Exit → St → Prop} {σ:St}:QGR P k .ret Q σ = Q .ret σ:=rfl
@[go_sem ↓] theorem QUF {P:Program} {k:Nat} {c:ACode} {Q:Exit → St → Prop} {T:List AV} {H:List AObj}:QGR P k (.loop c) Q ⟨T,H⟩ = QT9 P k c Q T H .mk:=rfl
@[go_sem ↓] theorem QZr (x:Opd) {P:Program} {T:List AV} {K:List AObj → AV → Prop}:QCB P (.mov x) T H K = (K (QEI H []) (x.ev T)):=rfl
@[go_sem ↓] theorem QZs (x:Opd) {P:Program} {T:List AV} {nid:Nat}:QCK P (.mov x) T H nid K = (K [] [] (x.ev T)):=true_and _
@[go_sem ↓] theorem QY6 (q a b:Opd) {P:Program} {T:List AV} {K:List AObj → AV → Prop}:QCB P (.pick q a b) T H K = (cbv (q.ev T) (fun qv=>cbv (a.ev T) (fun av=>cbv (b.ev T) (fun bv=>QN9 qv av bv (fun (_ wr:List (Nat × AObj)) v=>K (QEI H wr) v)) .mk) .mk) .mk):=rfl
@[go_sem ↓] theorem QY7 (q a b:Opd) {P:Program} {T:List AV} {nid:Nat}:QCK P (.pick q a b) T H nid K = (cbv (q.ev T) (fun qv=>cbv (a.ev T) (fun av=>cbv (b.ev T) (fun bv=>QN9 qv av bv K) .mk) .mk) .mk):=true_and _
@[go_sem ↓] theorem QW4 (e:Nat) (zero:List AV) {P:Program} {T:List AV} {K:List AObj → AV → Prop}:QCB P (.alloc e zero) T H K = (K (QEI H [(H.length,.box e zero)]) (.ptr H.length 0)):=rfl
@[go_sem ↓] theorem QW5 (e:Nat) (zero:List AV) {P:Program} {T:List AV} {nid:Nat}:QCK P (.alloc e zero) T H nid K = (H[nid]? = some .unborn ∧ K [(nid,.unborn)] [(nid,.box e zero)] (.ptr nid 0)):=rfl
@[go_sem ↓] theorem QZt (e:Nat) (x:Opd) {P:Program} {T:List AV} {K:List AObj → AV → Prop}:QCB P (.box e x) T H K = (cbv (x.ev T) (fun xv=>(QCs xv = true ∧ K (QEI H [(H.length,.box e (cellsOf xv))]) (.ptr H.length 0))) .mk):=rfl
@[go_sem ↓] theorem QZu (e:Nat) (x:Opd) {P:Program} {T:List AV} {nid:Nat}:QCK P (.box e x) T H nid K = (H[nid]? = some .unborn ∧ cbv (x.ev T) (fun xv=>(QCs xv = true ∧ K [(nid,.unborn)] [(nid,.box e (cellsOf xv))] (.ptr nid 0))) .mk):=rfl
@[go_sem ↓] theorem QW6 (zero:List AV) (parts:List (Nat × Nat × Opd)) {P:Program} {T:List AV} {K:List AObj → AV → Prop}:QCB P (.build zero parts) T H K = (cbv (QFH T parts) (fun ps=>QIP zero ps (fun cs=>K (QEI H []) (.agg cs))) .mk):=rfl
@[go_sem ↓] theorem QW7 (zero:List AV) (parts:List (Nat × Nat × Opd)) {P:Program} {T:List AV} {nid:Nat}:QCK P (.build zero parts) T H nid K = (cbv (QFH T parts) (fun ps=>QIP zero ps (fun cs=>K [] [] (.agg cs))) .mk):=true_and _
@[go_sem ↓] theorem QV1 (e sz:Nat) (own:Bool) (parts:List Opd) {P:Program} {T:List AV} {K:List AObj → AV → Prop}:QCB P (.bslice e sz own parts) T H K = (cbv (parts.map fun x=>x.ev T) (fun xs=>QFI e sz own xs H.length (fun (_ wr:List (Nat × AObj)) v=>K (QEI H wr) v)) .mk):=rfl
@[go_sem ↓] theorem QV2 (e sz:Nat) (own:Bool) (parts:List Opd) {P:Program} {T:List AV} {nid:Nat}:QCK P (.bslice e sz own parts) T H nid K = ((if own then H[nid]? = some .unborn else True) ∧ cbv (parts.map fun x=>x.ev T) (fun xs=>QFI e sz own xs nid K) .mk):=rfl
@[go_sem ↓] theorem QY8 (n:Option Nat) (x:Opd) {P:Program} {T:List AV} {K:List AObj → AV → Prop}:QCB P (.load n x) T H K = (cbv (x.ev T) (fun xv=>QHo n xv H (fun (_ wr:List (Nat × AObj)) v=>K (QEI H wr) v)) .mk):=rfl
@[go_sem ↓] theorem QY9 (n:Option Nat) (x:Opd) {P:Program} {T:List AV} {nid:Nat}:QCK P (.load n x) T H nid K = (cbv (x.ev T) (fun xv=>QHo n xv H K) .mk):=true_and _
@[go_sem ↓] theorem QW8 (n:Option Nat) (a x:Opd) {P:Program} {T:List AV} {K:List AObj → AV → Prop}:QCB P (.store n a x) T H K = (cbv (a.ev T) (fun av=>cbv (x.ev T) (fun xv=>QIO n av xv H (fun (_ wr:List (Nat × AObj)) v=>K (QEI H wr) v)) .mk) .mk):=rfl
@[go_sem ↓] theorem QW9 (n:Option Nat) (a x:Opd) {P:Program} {T:List AV} {nid:Nat}:QCK P (.store n a x) T H nid K = (cbv (a.ev T) (fun av=>cbv (x.ev T) (fun xv=>QIO n av xv H K) .mk) .mk):=true_and _
@[go_sem ↓] theorem QV3 (x:Opd) {P:Program} {T:List AV} {K:List AObj → AV → Prop}:QCB P (.nilchk x) T H K = (cbv (x.ev T) (fun xv=>QE4 xv H (fun (_ wr:List (Nat × AObj)) v=>K (QEI H wr) v)) .mk):=rfl
@[go_sem ↓] theorem QV4 (x:Opd) {P:Program} {T:List AV} {nid:Nat}:QCK P (.nilchk x) T H nid K = (cbv (x.ev T) (fun xv=>QE4 xv H K) .mk):=true_and _
@[go_sem ↓] theorem QZv (op:BinOp) (x y:Opd) {P:Program} {T:List AV} {K:List AObj → AV → Prop}:QCB P (.bin op x y) T H K = (cbv (x.ev T) (fun xv=>cbv (y.ev T) (fun yv=>QEW op xv yv (fun (_ wr:List (Nat × AObj)) v=>K (QEI H wr) v)) .mk) .mk):=rfl
@[go_sem ↓] theorem QZw (op:BinOp) (x y:Opd) {P:Program} {T:List AV} {nid:Nat}:QCK P (.bin op x y) T H nid K = (cbv (x.ev T) (fun xv=>cbv (y.ev T) (fun yv=>QEW op xv yv K) .mk) .mk):=true_and _
@[go_sem ↓] theorem QZA (neg:Bool) (x y:Opd) {P:Program} {T:List AV} {K:List AObj → AV → Prop}:QCB P (.binb neg x y) T H K = (cbv (x.ev T) (fun xv=>cbv (y.ev T) (fun yv=>QOB neg xv yv (fun (_ wr:List (Nat × AObj)) v=>K (QEI H wr) v)) .mk) .mk):=rfl
@[go_sem ↓] theorem QZB (neg:Bool) (x y:Opd) {P:Program} {T:List AV} {nid:Nat}:QCK P (.binb neg x y) T H nid K = (cbv (x.ev T) (fun xv=>cbv (y.ev T) (fun yv=>QOB neg xv yv K) .mk) .mk):=true_and _
@[go_sem ↓] theorem QZx (neg:Bool) (ds:List (Option KD)) (x y:Opd) {P:Program} {T:List AV} {K:List AObj → AV → Prop}:QCB P (.eqs neg ds x y) T H K = (cbv (x.ev T) (fun xv=>cbv (y.ev T) (fun yv=>QOX neg ds xv yv (fun (_ wr:List (Nat × AObj)) v=>K (QEI H wr) v)) .mk) .mk):=rfl
@[go_sem ↓] theorem QZy (neg:Bool) (ds:List (Option KD)) (x y:Opd) {P:Program} {T:List AV} {nid:Nat}:QCK P (.eqs neg ds x y) T H nid K = (cbv (x.ev T) (fun xv=>cbv (y.ev T) (fun yv=>QOX neg ds xv yv K) .mk) .mk):=true_and _
@[go_sem ↓] theorem q_a_un (op:UnOp) (x:Opd) {P:Program} {T:List AV} {K:List AObj → AV → Prop}:QCB P (.un op x) T H K = (cbv (x.ev T) (fun xv=>sUn op xv (fun (_ wr:List (Nat × AObj)) v=>K (QEI H wr) v)) .mk):=rfl
@[go_sem ↓] theorem q_d_un (op:UnOp) (x:Opd) {P:Program} {T:List AV} {nid:Nat}:QCK P (.un op x) T H nid K = (cbv (x.ev T) (fun xv=>sUn op xv K) .mk):=true_and _
@[go_sem ↓] theorem QZC (k:IntKind) (x:Opd) {P:Program} {T:List AV} {K:List AObj → AV → Prop}:QCB P (.conv k x) T H K = (cbv (x.ev T) (fun xv=>QOC k xv (fun (_ wr:List (Nat × AObj)) v=>K (QEI H wr) v)) .mk):=rfl
@[go_sem ↓] theorem QZD (k:IntKind) (x:Opd) {P:Program} {T:List AV} {nid:Nat}:QCK P (.conv k x) T H nid K = (cbv (x.ev T) (fun xv=>QOC k xv K) .mk):=true_and _
@[go_sem ↓] theorem QZE (fn:Fn) (first caps:List Opd) {P:Program} {T:List AV} {K:List AObj → AV → Prop}:QCB P (.mkfn fn first caps) T H K = (K (QEI H []) (.fn fn (first.map fun x=>x.ev T) (caps.map fun x=>x.ev T))):=rfl
@[go_sem ↓] theorem QZF (fn:Fn) (first caps:List Opd) {P:Program} {T:List AV} {nid:Nat}:QCK P (.mkfn fn first caps) T H nid K = (K [] [] (.fn fn (first.map fun x=>x.ev T) (caps.map fun x=>x.ev T))):=true_and _
@[go_sem ↓] theorem QXA (off:Nat) (x:Opd) {P:Program} {T:List AV} {K:List AObj → AV → Prop}:QCB P (.faddr off x) T H K = (cbv (x.ev T) (fun xv=>QHV off xv H (fun (_ wr:List (Nat × AObj)) v=>K (QEI H wr) v)) .mk):=rfl
@[go_sem ↓] theorem QXB (off:Nat) (x:Opd) {P:Program} {T:List AV} {nid:Nat}:QCK P (.faddr off x) T H nid K = (cbv (x.ev T) (fun xv=>QHV off xv H K) .mk):=true_and _
@[go_sem ↓] theorem QXC (off:Nat) (n:Option Nat) (x:Opd) {P:Program} {T:List AV} {K:List AObj → AV → Prop}:QCB P (.field off n x) T H K = (cbv (x.ev T) (fun xv=>QJK off n xv (fun (_ wr:List (Nat × AObj)) v=>K (QEI H wr) v)) .mk):=rfl
@[go_sem ↓] theorem QXD (off:Nat) (n:Option Nat) (x:Opd) {P:Program} {T:List AV} {nid:Nat}:QCK P (.field off n x) T H nid K = (cbv (x.ev T) (fun xv=>QJK off n xv K) .mk):=true_and _
@[go_sem ↓] theorem QXE (arr:Option Nat) (sz:Nat) (x i:Opd) {P:Program} {T:List AV} {K:List AObj → AV → Prop}:QCB P (.iaddr arr sz x i) T H K = (cbv (x.ev T) (fun xv=>cbv (i.ev T) (fun iv=>QFk arr sz xv iv H (fun (_ wr:List (Nat × AObj)) v=>K (QEI H wr) v)) .mk) .mk):=rfl
@[go_sem ↓] theorem QXF (arr:Option Nat) (sz:Nat) (x i:Opd) {P:Program} {T:List AV} {nid:Nat}:QCK P (.iaddr arr sz x i) T H nid K = (cbv (x.ev T) (fun xv=>cbv (i.ev T) (fun iv=>QFk arr sz xv iv H K) .mk) .mk):=true_and _
@[go_sem ↓] theorem QZz (x i:Opd) {P:Program} {T:List AV} {K:List AObj → AV → Prop}:QCB P (.idx x i) T H K = (cbv (x.ev T) (fun xv=>cbv (i.ev T) (fun iv=>QVu xv iv (fun (_ wr:List (Nat × AObj)) v=>K (QEI H wr) v)) .mk) .mk):=rfl
@[go_sem ↓] theorem QZ0 (x i:Opd) {P:Program} {T:List AV} {nid:Nat}:QCK P (.idx x i) T H nid K = (cbv (x.ev T) (fun xv=>cbv (i.ev T) (fun iv=>QVu xv iv K) .mk) .mk):=true_and _
@[go_sem ↓] theorem QZ1 (lk:LK) (x:Opd) {P:Program} {T:List AV} {K:List AObj → AV → Prop}:QCB P (.len lk x) T H K = (cbv (x.ev T) (fun xv=>QHr lk xv H (fun (_ wr:List (Nat × AObj)) v=>K (QEI H wr) v)) .mk):=rfl
@[go_sem ↓] theorem QZ2 (lk:LK) (x:Opd) {P:Program} {T:List AV} {nid:Nat}:QCK P (.len lk x) T H nid K = (cbv (x.ev T) (fun xv=>QHr lk xv H K) .mk):=true_and _
@[go_sem ↓] theorem QV5 (e sz bytes:Nat) (x y:Opd) {P:Program} {T:List AV} {K:List AObj → AV → Prop}:QCB P (.append e sz bytes x y) T H K = (cbv (x.ev T) (fun xv=>cbv (y.ev T) (fun yv=>QEg e sz bytes xv yv H H.length (fun (_ wr:List (Nat × AObj)) v=>K (QEI H wr) v)) .mk) .mk):=rfl
@[go_sem ↓] theorem QV6 (e sz bytes:Nat) (x y:Opd) {P:Program} {T:List AV} {nid:Nat}:QCK P (.append e sz bytes x y) T H nid K = (H[nid]? = some .unborn ∧ cbv (x.ev T) (fun xv=>cbv (y.ev T) (fun yv=>QEg e sz bytes xv yv H nid K) .mk) .mk):=rfl
@[go_sem ↓] theorem QUG (x:Opd) (i:Nat) {P:Program} {T:List AV} {K:List AObj → AV → Prop}:QCB P (.extract x i) T H K = (cbv (x.ev T) (fun xv=>QFS xv i (fun (_ wr:List (Nat × AObj)) v=>K (QEI H wr) v)) .mk):=rfl
@[go_sem ↓] theorem QUH (x:Opd) (i:Nat) {P:Program} {T:List AV} {nid:Nat}:QCK P (.extract x i) T H nid K = (cbv (x.ev T) (fun xv=>QFS xv i K) .mk):=true_and _
@[go_sem ↓] theorem QXG  {P:Program} {T:List AV} {K:List AObj → AV → Prop}:QCB P (.mkmap) T H K = (K (QEI H [(H.length,.map [])]) (.map H.length)):=rfl
@[go_sem ↓] theorem QXH  {P:Program} {T:List AV} {nid:Nat}:QCK P (.mkmap) T H nid K = (H[nid]? = some .unborn ∧ K [(nid,.unborn)] [(nid,.map [])] (.map nid)):=rfl
@[go_sem ↓] theorem QV7 (d:KD) (zero:AV) (ok:Bool) (m k:Opd) {P:Program} {T:List AV} {K:List AObj → AV → Prop}:QCB P (.lookup d zero ok m k) T H K = (cbv (m.ev T) (fun mv=>cbv (k.ev T) (fun kv=>QDe d zero ok mv kv H (fun (_ wr:List (Nat × AObj)) v=>K (QEI H wr) v)) .mk) .mk):=rfl
@[go_sem ↓] theorem QV8 (d:KD) (zero:AV) (ok:Bool) (m k:Opd) {P:Program} {T:List AV} {nid:Nat}:QCK P (.lookup d zero ok m k) T H nid K = (cbv (m.ev T) (fun mv=>cbv (k.ev T) (fun kv=>QDe d zero ok mv kv H K) .mk) .mk):=true_and _
@[go_sem ↓] theorem QXI (neg:Bool) (x:Opd) {P:Program} {T:List AV} {K:List AObj → AV → Prop}:QCB P (.eqnil neg x) T H K = (cbv (x.ev T) (fun xv=>QFl neg xv H (fun (_ wr:List (Nat × AObj)) v=>K (QEI H wr) v)) .mk):=rfl
@[go_sem ↓] theorem QXJ (neg:Bool) (x:Opd) {P:Program} {T:List AV} {nid:Nat}:QCK P (.eqnil neg x) T H nid K = (cbv (x.ev T) (fun xv=>QFl neg xv H K) .mk):=true_and _
@[go_sem ↓] theorem QXK (lk:LK) (sz:Nat) (x:Opd) (lo hi:Option Opd) {P:Program} {T:List AV} {K:List AObj → AV → Prop}:QCB P (.slice lk sz x lo hi) T H K = (cbv (x.ev T) (fun xv=>cbv (lo.map fun y=>y.ev T) (fun lov=>cbv (hi.map fun y=>y.ev T) (fun hiv=>QFp lk sz xv lov hiv H (fun (_ wr:List (Nat × AObj)) v=>K (QEI H wr) v)) .mk) .mk) .mk):=rfl
@[go_sem ↓] theorem QXL (lk:LK) (sz:Nat) (x:Opd) (lo hi:Option Opd) {P:Program} {T:List AV} {nid:Nat}:QCK P (.slice lk sz x lo hi) T H nid K = (cbv (x.ev T) (fun xv=>cbv (lo.map fun y=>y.ev T) (fun lov=>cbv (hi.map fun y=>y.ev T) (fun hiv=>QFp lk sz xv lov hiv H K) .mk) .mk) .mk):=true_and _
@[go_sem ↓] theorem QV9 (d:KD) (m k x:Opd) {P:Program} {T:List AV} {K:List AObj → AV → Prop}:QCB P (.mapset d m k x) T H K = (cbv (m.ev T) (fun mv=>cbv (k.ev T) (fun kv=>cbv (x.ev T) (fun xv=>QFb d mv kv xv H (fun (_ wr:List (Nat × AObj)) v=>K (QEI H wr) v)) .mk) .mk) .mk):=rfl
@[go_sem ↓] theorem QWA (d:KD) (m k x:Opd) {P:Program} {T:List AV} {nid:Nat}:QCK P (.mapset d m k x) T H nid K = (cbv (m.ev T) (fun mv=>cbv (k.ev T) (fun kv=>cbv (x.ev T) (fun xv=>QFb d mv kv xv H K) .mk) .mk) .mk):=true_and _
@[go_sem ↓] theorem QZG (d:KD) (m k:Opd) {P:Program} {T:List AV} {K:List AObj → AV → Prop}:QCB P (.mdel d m k) T H K = (cbv (m.ev T) (fun mv=>cbv (k.ev T) (fun kv=>QOb d mv kv H (fun (_ wr:List (Nat × AObj)) v=>K (QEI H wr) v)) .mk) .mk):=rfl
@[go_sem ↓] theorem QZH (d:KD) (m k:Opd) {P:Program} {T:List AV} {nid:Nat}:QCK P (.mdel d m k) T H nid K = (cbv (m.ev T) (fun mv=>cbv (k.ev T) (fun kv=>QOb d mv kv H K) .mk) .mk):=true_and _
@[go_sem ↓] theorem QWB (x:Opd) {P:Program} {T:List AV} {K:List AObj → AV → Prop}:QCB P (.mrange x) T H K = (cbv (x.ev T) (fun xv=>QJf xv H H.length (fun (_ wr:List (Nat × AObj)) v=>K (QEI H wr) v)) .mk):=rfl
@[go_sem ↓] theorem QWC (x:Opd) {P:Program} {T:List AV} {nid:Nat}:QCK P (.mrange x) T H nid K = (H[nid]? = some .unborn ∧ cbv (x.ev T) (fun xv=>QJf xv H nid K) .mk):=rfl
@[go_sem ↓] theorem QZI (e sz bytes:Nat) (zero:List AV) (x y:Opd) {P:Program} {T:List AV} {K:List AObj → AV → Prop}:QCB P (.mksl e sz bytes zero x y) T H K = (cbv (x.ev T) (fun xv=>cbv (y.ev T) (fun yv=>QOc e sz bytes zero xv yv H.length (fun (_ wr:List (Nat × AObj)) v=>K (QEI H wr) v)) .mk) .mk):=rfl
@[go_sem ↓] theorem QZJ (e sz bytes:Nat) (zero:List AV) (x y:Opd) {P:Program} {T:List AV} {nid:Nat}:QCK P (.mksl e sz bytes zero x y) T H nid K = (H[nid]? = some .unborn ∧ cbv (x.ev T) (fun xv=>cbv (y.ev T) (fun yv=>QOc e sz bytes zero xv yv nid K) .mk) .mk):=rfl
@[go_sem ↓] theorem q_mksl {e sz bytes nid:Nat} {zero:List AV} {k k':IntKind} {n m:Int}:QOc e sz bytes zero (.int k n) (.int k' m) nid K = (n = m ∧ 0 ≤ n ∧ QOA bytes n.toNat ∧ cbv (List.replicate n.toNat zero) (fun l=>cbv n.toNat (fun q=>K [(nid,.unborn)] [(nid,.reg e sz l)] (.own nid q)) .mk) .mk):=rfl
@[go_sem ↓] theorem QWD (x:Opd) {P:Program} {T:List AV} {K:List AObj → AV → Prop}:QCB P (.mentry x) T H K = (cbv (x.ev T) (fun xv=>QJg xv H (fun (_ wr:List (Nat × AObj)) v=>K (QEI H wr) v)) .mk):=rfl
@[go_sem ↓] theorem QWE (x:Opd) {P:Program} {T:List AV} {nid:Nat}:QCK P (.mentry x) T H nid K = (cbv (x.ev T) (fun xv=>QJg xv H K) .mk):=true_and _
@[go_sem ↓] theorem QZK (f:Opd) (args:List Opd) {P:Program} {T:List AV} {K:List AObj → AV → Prop}:QCB P (.call f args) T H K = (cbv (f.ev T) (fun fv=>cbv (args.map fun x=>x.ev T) (fun as=>QO9 P fv as H K) .mk) .mk):=rfl
@[go_sem ↓] theorem QZL (f:Opd) (args:List Opd) {P:Program} {T:List AV} {nid:Nat}:QCK P (.call f args) T H nid K = (cbv (f.ev T) (fun fv=>cbv (args.map fun x=>x.ev T) (fun as=>QPo P fv as H K) .mk) .mk):=rfl
@[go_sem ↓] theorem QZ3 {P:Program} {f:Nat} {first caps args:List AV} {K:List AObj → AV → Prop}:QO9 P (.fn (.func f) first caps) args H K = QKI P f (first ++ args ++ caps) H K .mk:=rfl
@[go_sem ↓] theorem QZ4 {P:Program} {f:Nat} {first caps args:List AV}:QPo P (.fn (.func f) first caps) args H K = QJP P f (first ++ args ++ caps) H K .mk:=rfl
@[go_sem ↓] theorem q_pick {q:Bool} {a b:AV}:QN9 (.bool q) a b K = K [] [] (if q then a else b):=by cases q <;> rfl
@[go_sem] theorem QWF {c:Prop} [Decidable c] {a b:Bool}:(if c then AV.bool a else .bool b) = .bool (if c then a else b):=by split <;> rfl
@[go_sem] theorem QXM {c:Prop} [Decidable c] {k:IntKind} {a b:Int}:(if c then AV.int k a else .int k b) = .int k (if c then a else b):=by split <;> rfl
@[go_sem] theorem QXN {c:Prop} [Decidable c] {a b:List UInt8}:(if c then AV.str a else .str b) = .str (if c then a else b):=by split <;> rfl
@[go_sem ↓] theorem QZM {x:AV} {cs:List AV} {K:AV → Prop}:ldK none (x :: cs) K = K x:=rfl
@[go_sem ↓] theorem QXO {n:Nat} {cs:List AV} {K:AV → Prop}:ldK (some n) cs K = (n ≤ cs.length ∧ K (.agg (cs.take n))):=rfl
@[go_sem ↓] theorem QWG {n:Option Nat} {o off:Nat}:QHo n (.ptr o off) H K = (cbv (H[o]?) (fun x=>QG1 x fun e cs=>cbv (cs.drop off) (fun ds=>ldK n ds (K [(o,.box e cs)] [])) .mk) .mk):=by
 show (match H[o]? with | some (.box e cs)=>_ | _=>False) = QG1 H[o]? _
 unfold QG1; cases H[o]? with | none=>rfl | some x=>cases x <;> rfl
@[go_sem ↓] theorem QUI {n:Option Nat} {cs:List AV}:QHo n (.iptr cs) H K = ldK n cs (K [] []):=rfl
@[go_sem ↓] theorem QUJ {n:Option Nat} {o m i off:Nat}:QHo n (.eptr o m i off) H K = (cbv (H[o]?) (fun x=>QBQ x fun e sz l=>m = l.length ∧ cbv (l[i]?) (fun y=>QCk y fun r=>cbv (r.drop off) (fun ds=>ldK n ds (K [(o,.reg e sz l)] [])) .mk) .mk) .mk):=by
 show (match H[o]? with | some (.reg e sz l)=>_ | _=>False) = QBQ H[o]? _
 unfold QBQ cbv QCk; cases H[o]? with | none=>rfl | some x=>cases x <;> first | rfl | (simp only; congr 1; split <;> simp_all)
@[go_sem ↓] theorem QZN {x:AV} {K:List AV → Prop}:stK none x K = (x.one = true ∧ K [x]):=rfl
@[go_sem ↓] theorem QXP {n:Nat} {xs:List AV} {K:List AV → Prop}:stK (some n) (.agg xs) K = (xs.length = n ∧ K xs):=rfl
@[go_sem ↓] theorem QUK {n:Option Nat} {o off:Nat} {x:AV}:QIO n (.ptr o off) x H K = (cbv (H[o]?) (fun y=>QG1 y fun e cs=>stK n x fun xs=>off + xs.length ≤ cs.length ∧ cbv (cs.take off ++ xs ++ cs.drop (off + xs.length)) (fun ds=>K [(o,.box e cs)] [(o,.box e ds)] .junk) .mk) .mk):=by
 show (match H[o]? with | some (.box e cs)=>_ | _=>False) = QG1 H[o]? _
 unfold QG1; cases H[o]? with | none=>rfl | some x=>cases x <;> rfl
@[go_sem ↓] theorem QS4 {n:Option Nat} {o m i off:Nat} {x:AV}:QIO n (.eptr o m i off) x H K = (cbv (H[o]?) (fun y=>QBQ y fun e sz l=>m = l.length ∧ cbv (l[i]?) (fun y'=>QCk y' fun r=>stK n x fun xs=>off + xs.length ≤ r.length ∧ cbv (r.take off ++ xs ++ r.drop (off + xs.length)) (fun ds=>K [(o,.reg e sz l)] [(o,.reg e sz (l.set i ds))] .junk) .mk) .mk) .mk):=by
 show (match H[o]? with | some (.reg e sz l)=>_ | _=>False) = QBQ H[o]? _
 unfold QBQ cbv QCk; cases H[o]? with | none=>rfl | some x=>cases x <;> first | rfl | (simp only; congr 1; split <;> simp_all)
@[go_sem ↓] theorem QUL {off o k:Nat}:QHV off (.ptr o k) H K = K [] [] (.ptr o (k + off)):=rfl
@[go_sem ↓] theorem QS5 {off:Nat} {cs:List AV}:QHV off (.iptr cs) H K = K [] [] (.iptr (cs.drop off)):=rfl
@[go_sem ↓] theorem QS6 {off o n i k:Nat}:QHV off (.eptr o n i k) H K = (cbv (H[o]?) (fun x=>QBQ x fun e sz l=>n = l.length ∧ K [(o,.reg e sz l)] [] (.eptr o n i (k + off))) .mk):=by
 show (match H[o]? with | some (.reg e sz l)=>_ | _=>False) = QBQ H[o]? _
 unfold QBQ; cases H[o]? with | none=>rfl | some x=>cases x <;> rfl
@[go_sem ↓] theorem QZ5 {off:Nat} {n:Option Nat} {cs:List AV}:QJK off n (.agg cs) K = (cbv (cs.drop off) (fun ds=>ldK n ds (K [] [])) .mk):=rfl
@[go_sem ↓] theorem QUM {sz:Nat} {l:List (List AV)} {k:IntKind} {n:Int}:QFk none sz (.imm l) (.int k n) H K = (0 ≤ n ∧ cbv (l[n.toNat]?) (fun x=>QCk x fun r=>r.length = sz ∧ K [] [] (.iptr r)) .mk):=by
 show (0 ≤ n ∧ match l[n.toNat]? with | some r=>_ | none=>False) = (0 ≤ n ∧ QCk l[n.toNat]? _)
 unfold QCk; cases l[n.toNat]? <;> rfl
@[go_sem ↓] theorem QUN {sz o m:Nat} {k:IntKind} {n:Int}:QFk none sz (.own o m) (.int k n) H K = (0 ≤ n ∧ cbv (H[o]?) (fun x=>QBQ x fun e sz' l=>m = l.length ∧ sz' = sz ∧ n.toNat < m ∧ K [(o,.reg e sz' l)] [] (.eptr o m n.toNat 0)) .mk):=by
 show (0 ≤ n ∧ match H[o]? with | some (.reg e sz l)=>_ | _=>False) = (0 ≤ n ∧ QBQ H[o]? _)
 unfold QBQ; cases H[o]? with | none=>rfl | some x=>cases x <;> rfl
@[go_sem ↓] theorem QS7 {len sz o off:Nat} {k:IntKind} {n:Int}:QFk (some len) sz (.ptr o off) (.int k n) H K = (0 ≤ n ∧ n.toNat < len ∧ K [] [] (.ptr o (off + n.toNat * sz))):=rfl
@[go_sem ↓] theorem QS8 {len sz:Nat} {cs:List AV} {k:IntKind} {n:Int}:QFk (some len) sz (.iptr cs) (.int k n) H K = (0 ≤ n ∧ n.toNat < len ∧ K [] [] (.iptr (cs.drop (n.toNat * sz)))):=rfl
@[go_sem ↓] theorem q_idx {s:List UInt8} {k:IntKind} {n:Int}:QVu (.str s) (.int k n) K = (0 ≤ n ∧ cbv (s[n.toNat]?) (fun x=>QCk x fun b=>K [] [] (.int .u8 b.toNat)) .mk):=by
 show (0 ≤ n ∧ match s[n.toNat]? with | some r=>_ | none=>False) = (0 ≤ n ∧ QCk s[n.toNat]? _)
 unfold QCk; cases s[n.toNat]? <;> rfl
@[go_sem ↓] theorem QXQ {s:List UInt8}:QHr .str (.str s) H K = K [] [] (.int .i64 s.length):=rfl
@[go_sem ↓] theorem QWH:QHr .sl .nils H K = K [] [] (.int .i64 0):=rfl
@[go_sem ↓] theorem QXR {l:List (List AV)}:QHr .sl (.imm l) H K = K [] [] (.int .i64 l.length):=rfl
@[go_sem ↓] theorem QXS {o n:Nat}:QHr .sl (.own o n) H K = (cbv (H[o]?) (fun x=>QBQ x fun e sz l=>n = l.length ∧ K [(o,.reg e sz l)] [] (.int .i64 n)) .mk):=by
 show (match H[o]? with | some (.reg e sz l)=>_ | _=>False) = QBQ H[o]? _
 unfold QBQ; cases H[o]? with | none=>rfl | some x=>cases x <;> rfl
@[go_sem ↓] theorem QWI:QHr .mp .nilm H K = K [] [] (.int .i64 0):=rfl
@[go_sem ↓] theorem QXT {o:Nat}:QHr .mp (.map o) H K = (cbv (H[o]?) (fun x=>QD3 x fun kvs=>K [(o,.map kvs)] [] (.int .i64 (QIk kvs))) .mk):=by
 show (match H[o]? with | some (.map kvs)=>_ | _=>False) = QD3 H[o]? _
 unfold QD3; cases H[o]? with | none=>rfl | some x=>cases x <;> rfl
@[go_sem ↓] theorem QUO {K:List (Nat × AObj) → List (List AV) → Prop}:QGQ .nils H K = K [] []:=rfl
@[go_sem ↓] theorem QWJ {l:List (List AV)} {K:List (Nat × AObj) → List (List AV) → Prop}:QGQ (.imm l) H K = K [] l:=rfl
@[go_sem ↓] theorem QWK {o n:Nat} {K:List (Nat × AObj) → List (List AV) → Prop}:QGQ (.own o n) H K = (cbv (H[o]?) (fun x=>QBQ x fun e sz l=>n = l.length ∧ K [(o,.reg e sz l)] l) .mk):=by
 show (match H[o]? with | some (.reg e sz l)=>_ | _=>False) = QBQ H[o]? _
 unfold QBQ; cases H[o]? with | none=>rfl | some x=>cases x <;> rfl
@[go_sem ↓] theorem QWL {o lo n m:Nat} {K:List (Nat × AObj) → List (List AV) → Prop}:QGQ (.pre o lo n m) H K = (cbv (H[o]?) (fun x=>QBQ x fun e sz l=>m = l.length ∧ K [(o,.reg e sz l)] ((l.drop lo).take n)) .mk):=by
 show (match H[o]? with | some (.reg e sz l)=>_ | _=>False) = QBQ H[o]? _
 unfold QBQ; cases H[o]? with | none=>rfl | some x=>cases x <;> rfl
@[go_sem ↓] theorem QUP {neg:Bool} {o lo n m:Nat}:QFl neg (.pre o lo n m) H K = (cbv (H[o]?) (fun x=>QBQ x fun e sz l=>m = l.length ∧ n ≠ 0 ∧ K [(o,.reg e sz l)] [] (.bool neg)) .mk):=by
 show (match H[o]? with | some (.reg e sz l)=>_ | _=>False) = QBQ H[o]? _
 unfold QBQ; cases H[o]? with | none=>rfl | some x=>cases x <;> rfl
@[go_sem ↓] theorem QWM {a:Option Addr} {cp:Nat} {K:List (Nat × AObj) → List (List AV) → Prop}:QGQ (.raw (.slice a 0 cp)) H K = K [] []:=rfl
@[go_sem ↓] theorem QS9 {neg:Bool}:QFl neg .nils H K = K [] [] (.bool (!neg)):=rfl
@[go_sem ↓] theorem QUQ {neg:Bool} {l:List (List AV)}:QFl neg (.imm l) H K = (l ≠ [] ∧ K [] [] (.bool neg)):=rfl
@[go_sem ↓] theorem QUR {neg:Bool} {a:Option Addr} {n cp:Nat}:QFl neg (.raw (.slice a n cp)) H K = K [] [] (.bool (if neg then !a.isNone else a.isNone)):=rfl
@[go_sem ↓] theorem QUS {neg:Bool} {o n:Nat}:QFl neg (.own o n) H K = (cbv (H[o]?) (fun x=>QBQ x fun e sz l=>n = l.length ∧ l ≠ [] ∧ K [(o,.reg e sz l)] [] (.bool neg)) .mk):=by
 show (match H[o]? with | some (.reg e sz l)=>_ | _=>False) = QBQ H[o]? _
 unfold QBQ; cases H[o]? with | none=>rfl | some x=>cases x <;> rfl
@[go_sem ↓] theorem QRg {e sz b nid:Nat} {y:AV}:QEg e sz b .nils y H nid K = QGQ y H fun pre ys=>(∀ r ∈ ys,r.length = sz) ∧ QOA b ys.length ∧ K ((nid,.unborn) :: pre) [(nid,.reg e sz ys)] (.own nid ys.length):=rfl
@[go_sem ↓] theorem QTA {e sz b nid o n:Nat} {y:AV}:QEg e sz b (.own o n) y H nid K = QGQ y H fun pre ys=>(∀ r ∈ ys,r.length = sz) ∧ cbv (H[o]?) (fun x=>QBQ x fun e' sz' l=>n = l.length ∧ e' = e ∧ sz' = sz ∧ QOA b (l.length + ys.length) ∧ cbv (l ++ ys) (fun l'=>K ((o,.reg e' sz' l) :: pre) [(o,.reg e sz l')] (.own o (l.length + ys.length))) .mk) .mk:=by
 unfold QEg
 rfl
@[go_sem ↓] theorem QTB {e sz b nid o lo n m:Nat} {y:AV}:QEg e sz b (.pre o lo n m) y H nid K = QGQ y H fun pre ys=>(∀ r ∈ ys,r.length = sz) ∧ cbv (H[o]?) (fun x=>QBQ x fun e' sz' l=>m = l.length ∧ lo + n = m ∧ e' = e ∧ sz' = sz ∧ sz ≠ 1 ∧ QOA b (n + ys.length) ∧ cbv (l.drop lo ++ ys) (fun l'=>K ((o,.reg e' sz' l) :: (nid,.unborn) :: pre) [(o,.dead),(nid,.reg e sz l')] (.own nid (n + ys.length))) .mk) .mk:=by
 unfold QEg
 rfl
@[go_sem ↓] theorem QWN {cs:List AV} {K:List AV → Prop}:QIP cs [] K = K cs:=rfl
@[go_sem ↓] theorem QUT {cs:List AV} {off size:Nat} {x:AV} {r:List (Nat × Nat × AV)} {K:List AV → Prop}:QIP cs ((off,size,x) :: r) K = (QCs x = true ∧ (cellsOf x).length = size ∧ off + size ≤ cs.length ∧ cbv (cs.take off ++ cellsOf x ++ cs.drop (off + size)) (fun ds=>QIP ds r K) .mk):=rfl
@[go_sem ↓] theorem QXU {k:IntKind} {a b:Int}:QEW .add (.int k a) (.int k b) K = K [] [] (.int k (k.wrap (a + b))):=by simp [QEW]
@[go_sem ↓] theorem QXV {k:IntKind} {a b:Int}:QEW .sub (.int k a) (.int k b) K = K [] [] (.int k (k.wrap (a - b))):=by simp [QEW]
@[go_sem ↓] theorem QXW {k:IntKind} {a b:Int}:QEW .mul (.int k a) (.int k b) K = K [] [] (.int k (k.wrap (a * b))):=by simp [QEW]
@[go_sem ↓] theorem QXX {k:IntKind} {a b:Int}:QEW .eql (.int k a) (.int k b) K = K [] [] (.bool (a == b)):=by simp [QEW]
@[go_sem ↓] theorem QXY {k:IntKind} {a b:Int}:QEW .neq (.int k a) (.int k b) K = K [] [] (.bool (a != b)):=by simp [QEW]
@[go_sem ↓] theorem QXZ {k:IntKind} {a b:Int}:QEW .lss (.int k a) (.int k b) K = K [] [] (.bool (decide (a < b))):=by simp [QEW]
@[go_sem ↓] theorem QXa {k:IntKind} {a b:Int}:QEW .leq (.int k a) (.int k b) K = K [] [] (.bool (decide (a ≤ b))):=by simp [QEW]
@[go_sem ↓] theorem QXb {k:IntKind} {a b:Int}:QEW .gtr (.int k a) (.int k b) K = K [] [] (.bool (decide (a > b))):=by simp [QEW]
@[go_sem ↓] theorem QXc {k:IntKind} {a b:Int}:QEW .geq (.int k a) (.int k b) K = K [] [] (.bool (decide (a ≥ b))):=by simp [QEW]
@[go_sem ↓] theorem QXd {k:IntKind} {a b:Int}:QEW .and (.int k a) (.int k b) K = K [] [] (.int k (bits .and k a b)):=by simp [QEW]
@[go_sem ↓] theorem QZO {k:IntKind} {a b:Int}:QEW .or (.int k a) (.int k b) K = K [] [] (.int k (bits .or k a b)):=by simp [QEW]
@[go_sem ↓] theorem QXe {k:IntKind} {a b:Int}:QEW .xor (.int k a) (.int k b) K = K [] [] (.int k (bits .xor k a b)):=by simp [QEW]
@[go_sem ↓] theorem QXf {k:IntKind} {a b:Int}:QEW .quo (.int k a) (.int k b) K = (b ≠ 0 ∧ K [] [] (.int k (k.wrap (a.tdiv b)))):=by simp [QEW]
@[go_sem ↓] theorem QXg {k:IntKind} {a b:Int}:QEW .rem (.int k a) (.int k b) K = (b ≠ 0 ∧ K [] [] (.int k (a.tmod b))):=by simp [QEW]
@[go_sem ↓] theorem QXh {a b:List UInt8}:QEW .add (.str a) (.str b) K = (a.length + b.length ≤ 9223372036854775807 ∧ K [] [] (.str (a ++ b))):=rfl
@[go_sem ↓] theorem QXi {a b:List UInt8}:QEW .eql (.str a) (.str b) K = K [] [] (.bool (a == b)):=rfl
@[go_sem ↓] theorem QXj {a b:List UInt8}:QEW .neq (.str a) (.str b) K = K [] [] (.bool (!(a == b))):=rfl
@[go_sem ↓] theorem QXk {a b:List UInt8}:QEW .lss (.str a) (.str b) K = K [] [] (.bool (Op.bytesLess a b)):=rfl
@[go_sem ↓] theorem QXl {a b:List UInt8}:QEW .leq (.str a) (.str b) K = K [] [] (.bool (Op.bytesLess a b || a == b)):=rfl
@[go_sem ↓] theorem QXm {a b:List UInt8}:QEW .gtr (.str a) (.str b) K = K [] [] (.bool (!(Op.bytesLess a b || a == b))):=rfl
@[go_sem ↓] theorem QXn {a b:List UInt8}:QEW .geq (.str a) (.str b) K = K [] [] (.bool (!Op.bytesLess a b)):=rfl
@[go_sem ↓] theorem q_binb {neg a b:Bool}:QOB neg (.bool a) (.bool b) K = K [] [] (.bool (if neg then !(a == b) else a == b)):=rfl
@[go_sem ↓] theorem q_eqs {neg:Bool} {ds:List (Option KD)} {xs ys:List AV}:QOX neg ds (.agg xs) (.agg ys) K = (QED ds xs = true ∧ cbv (QBp xs ys) (fun x=>QCk x fun b=>K [] [] (.bool (if neg then !b else b))) .mk):=by
 show (_ ∧ match QBp xs ys with | some b=>_ | none=>False) = (_ ∧ QCk (QBp xs ys) _)
 unfold QCk; cases QBp xs ys <;> rfl
@[go_sem ↓] theorem q_not {b:Bool}:sUn .not (.bool b) K = K [] [] (.bool !b):=rfl
@[go_sem ↓] theorem q_neg {k:IntKind} {n:Int}:sUn .neg (.int k n) K = K [] [] (.int k (k.wrap (0 - n))):=rfl
@[go_sem ↓] theorem q_conv {k k':IntKind} {n:Int}:QOC k (.int k' n) K = K [] [] (.int k (k.wrap n)):=rfl
@[go_sem ↓] theorem QXo {vs:List AV} {i:Nat}:QFS (.tup vs) i K = (cbv (vs[i]?) (fun x=>QCk x fun v=>K [] [] v) .mk):=by
 show (match vs[i]? with | some b=>_ | none=>False) = QCk vs[i]? _
 unfold QCk; cases vs[i]? <;> rfl
@[go_sem ↓] theorem QTC {o off:Nat}:QE4 (.ptr o off) H K = K [] [] (.ptr o off):=rfl
@[go_sem ↓] theorem QRh {cs:List AV}:QE4 (.iptr cs) H K = K [] [] (.iptr cs):=rfl
@[go_sem ↓] theorem QRi {o n i k:Nat}:QE4 (.eptr o n i k) H K = (cbv (H[o]?) (fun x=>QBQ x fun e sz l=>n = l.length ∧ K [(o,.reg e sz l)] [] (.eptr o n i k)) .mk):=by
 show (match H[o]? with | some (.reg e sz l)=>_ | _=>False) = QBQ H[o]? _
 unfold QBQ; cases H[o]? with | none=>rfl | some x=>cases x <;> rfl
@[go_sem ↓] theorem QTD {d:KD} {zero:AV} {k:AV}:QDe d zero false .nilm k H K = (QFK d k = true ∧ K [] [] zero):=rfl
@[go_sem ↓] theorem QPv {d:KD} {zero:AV} {k:AV}:QDe d zero true .nilm k H K = (QFK d k = true ∧ K [] [] (.tup [zero,.bool false])):=rfl
@[go_sem ↓] theorem QZP {d:KD} {zero:AV} {o:Nat} {k:AV}:QDe d zero false (.map o) k H K = (cbv (H[o]?) (fun x=>QD3 x fun kvs=>QHg d k kvs ∧ K [(o,.map kvs)] [] ((QDT k kvs).getD zero)) .mk):=by
 show (match H[o]? with | some (.map kvs)=>_ | _=>False) = QD3 H[o]? _
 unfold QD3; cases H[o]? with | none=>rfl | some x=>cases x <;> rfl
@[go_sem ↓] theorem QUU {d:KD} {zero:AV} {o:Nat} {k:AV}:QDe d zero true (.map o) k H K = (cbv (H[o]?) (fun x=>QD3 x fun kvs=>QHg d k kvs ∧ K [(o,.map kvs)] [] (.tup [(QDT k kvs).getD zero,.bool (QDT k kvs).isSome])) .mk):=by
 show (match H[o]? with | some (.map kvs)=>_ | _=>False) = QD3 H[o]? _
 unfold QD3; cases H[o]? with | none=>rfl | some x=>cases x <;> rfl
@[go_sem ↓] theorem QXp (x:Opd) {P:Program} {T:List AV} {K:List AObj → AV → Prop}:QCB P (.mnext x) T H K = (cbv (x.ev T) (fun xv=>QT7 xv H K .mk) .mk):=rfl
@[go_sem ↓] theorem QZ6 {o nid:Nat}:QJf (.map o) H nid K = (cbv (H[o]?) (fun y=>QD3 y fun kvs=>K [(o,.map kvs),(nid,.unborn)] [(nid,.iter o kvs.length [])] (.it nid)) .mk):=by
 show (match H[o]? with | some (.map kvs)=>_ | _=>False) = QD3 H[o]? _
 unfold QD3; cases H[o]? with | none=>rfl | some x=>cases x <;> rfl
@[go_sem ↓] theorem QZ7 {i:Nat}:QJg (.it i) H K = (cbv (H[i]?) (fun y=>QNH y fun m s l=>cbv (H[m]?) (fun z=>QD3 z fun kvs=>s = kvs.length ∧ cbv (l.getLast?) (fun lj=>QCk lj fun j=>cbv (kvs[j]?) (fun lp=>QCk lp fun p=>QB7 p.1 = false ∧ K [(i,.iter m s l),(m,.map kvs)] [] (.tup [p.1,p.2])) .mk) .mk) .mk) .mk):=by
 show (match H[i]? with | some (.iter m s l)=>_ | _=>False) = QNH H[i]? _
 unfold QNH; cases H[i]? with
 | none=>rfl
 | some x=>cases x with
  | iter m s l=>
   show (match H[m]? with | some (.map kvs)=>_ | _=>False) = QD3 H[m]? _
   unfold QD3; cases H[m]? with
   | none=>rfl
   | some z=>cases z with
    | map kvs=>
     show (_ ∧ (match l.getLast? with | some j=>_ | none=>False)) = (_ ∧ QCk l.getLast? _)
     unfold QCk; cases l.getLast? with
     | none=>rfl
     | some j=>simp only [cbv]; cases kvs[j]? <;> rfl
    | _=>rfl
  | _=>rfl
@[go_sem ↓] theorem q_mdel {d:KD} {o:Nat} {k:AV}:QOb d (.map o) k H K = (cbv (H[o]?) (fun y=>QD3 y fun kvs=>QHg d k kvs ∧ cbv (QDx k kvs) (fun kvs'=>K [(o,.map kvs)] [(o,.map kvs')] (.tup [])) .mk) .mk):=by
 show (match H[o]? with | some (.map kvs)=>_ | _=>False) = QD3 H[o]? _
 unfold QD3; cases H[o]? with | none=>rfl | some x=>cases x <;> rfl
@[go_sem ↓] theorem QZQ {d:KD} {o:Nat} {k x:AV}:QFb d (.map o) k x H K = (cbv (H[o]?) (fun y=>QD3 y fun kvs=>QHg d k kvs ∧ cbv (QCt k x kvs) (fun kvs'=>K [(o,.map kvs)] [(o,.map kvs')] .junk) .mk) .mk):=by
 show (match H[o]? with | some (.map kvs)=>_ | _=>False) = QD3 H[o]? _
 unfold QD3; cases H[o]? with | none=>rfl | some x=>cases x <;> rfl
@[go_sem ↓] theorem QTE {e sz nid:Nat} {xs:List AV}:QFI e sz true xs nid K = ((∀ x ∈ xs,QCs x = true ∧ (cellsOf x).length = sz) ∧ K [(nid,.unborn)] [(nid,.reg e sz (xs.map cellsOf))] (.own nid xs.length)):=rfl
@[go_sem ↓] theorem QTF {e sz nid:Nat} {xs:List AV}:QFI e sz false xs nid K = ((∀ x ∈ xs,QCs x = true ∧ (cellsOf x).length = sz) ∧ K [] [] (.imm (xs.map cellsOf))):=by
 unfold QFI; simp
@[go_sem ↓] theorem QTG {k0:Nat} {res:List QIv} {av:AV} {H':List AObj} {T:List AV}:QY4 k0 res av H' .normal ⟨T,H⟩ = ((QH9 T H res fun xs=>cvR H k0 (QBG xs) av) ∧ cvH H k0 H H'):=rfl
@[go_sem ↓] theorem QXq {k0:Nat} {res:List QIv} {av:AV} {H':List AObj} {T:List AV}:QY4 k0 res av H' .ret ⟨T,H⟩ = ((QH9 T H res fun xs=>cvR H k0 (QBG xs) av) ∧ cvH H k0 H H'):=rfl
@[go_sem ↓] theorem QXr {T:List AV} {K:List AV → Prop}:QH9 T H [] K = K []:=rfl
@[go_sem ↓] theorem QXs {T:List AV} {t:Nat} {r:List QIv} {K:List AV → Prop}:QH9 T H (.tmp t :: r) K = (cbv (Opd.ev T (.t t)) (fun x=>QH9 T H r fun xs=>K (x :: xs)) .mk):=rfl
@[go_sem ↓] theorem QWO {T:List AV} {t:Nat} {n:Option Nat} {r:List QIv} {K:List AV → Prop}:QH9 T H (.cell t n :: r) K = (cbv (Opd.ev T (.t t)) (fun x=>QHo n x H fun _ _ v=>QH9 T H r fun xs=>K (v :: xs)) .mk):=rfl
@[go_sem ↓] theorem QXt {d:Nat} {K:Nat → Prop}:bdK none d K = K d:=rfl
@[go_sem ↓] theorem QXu {k:IntKind} {n:Int} {d:Nat} {K:Nat → Prop}:bdK (some (.int k n)) d K = (0 ≤ n ∧ cbv (n.toNat) (fun a=>K a) .mk):=rfl
@[go_sem ↓] theorem QUV {sz:Nat} {l:List (List AV)} {lo hi:Option AV}:QFp .sl sz (.imm l) lo hi H K = bdK lo 0 fun a=>bdK hi l.length fun b=>a ≤ b ∧ b ≤ l.length ∧ (∀ r ∈ l,r.length = sz) ∧ cbv ((l.take b).drop a) (fun l'=>K [] [] (.imm l')) .mk:=rfl
@[go_sem ↓] theorem QUW {sz:Nat} {l:List UInt8} {lo hi:Option AV}:QFp .str sz (.str l) lo hi H K = bdK lo 0 fun a=>bdK hi l.length fun b=>a ≤ b ∧ b ≤ l.length ∧ cbv ((l.take b).drop a) (fun l'=>K [] [] (.str l')) .mk:=rfl
@[go_sem ↓] theorem QUX {sz o n:Nat} {lo hi:Option AV}:QFp .sl sz (.own o n) lo hi H K = (cbv (H[o]?) (fun x=>QBQ x fun e sz' l=>n = l.length ∧ sz' = sz ∧ bdK lo 0 fun a=>bdK hi n fun b=>a ≤ b ∧ b ≤ n ∧ K [(o,.reg e sz' l)] [] (.pre o a (b - a) n)) .mk):=by
 show (match H[o]? with | some (.reg e sz' l)=>_ | _=>False) = QBQ H[o]? _
 unfold QBQ; cases H[o]? with | none=>rfl | some x=>cases x <;> rfl
@[go_sem ↓] theorem QUY {sz o p q m:Nat} {lo hi:Option AV}:QFp .sl sz (.pre o p q m) lo hi H K = (cbv (H[o]?) (fun x=>QBQ x fun e sz' l=>m = l.length ∧ sz' = sz ∧ bdK lo 0 fun a=>bdK hi q fun b=>a ≤ b ∧ b ≤ q ∧ K [(o,.reg e sz' l)] [] (.pre o (p + a) (b - a) m)) .mk):=by
 show (match H[o]? with | some (.reg e sz' l)=>_ | _=>False) = QBQ H[o]? _
 unfold QBQ; cases H[o]? with | none=>rfl | some x=>cases x <;> rfl
@[go_sem ↓] theorem QXv {o lo n m:Nat}:QHr .sl (.pre o lo n m) H K = (cbv (H[o]?) (fun x=>QBQ x fun e sz l=>m = l.length ∧ K [(o,.reg e sz l)] [] (.int .i64 n)) .mk):=by
 show (match H[o]? with | some (.reg e sz l)=>_ | _=>False) = QBQ H[o]? _
 unfold QBQ; cases H[o]? with | none=>rfl | some x=>cases x <;> rfl
@[go_sem ↓] theorem QUZ {sz o lo q m:Nat} {k:IntKind} {n:Int}:QFk none sz (.pre o lo q m) (.int k n) H K = (0 ≤ n ∧ cbv (H[o]?) (fun x=>QBQ x fun e sz' l=>m = l.length ∧ sz' = sz ∧ n.toNat < q ∧ K [(o,.reg e sz' l)] [] (.eptr o m (lo + n.toNat) 0)) .mk):=by
 show (0 ≤ n ∧ (match H[o]? with | some (.reg e sz' l)=>_ | _=>False)) = (0 ≤ n ∧ QBQ H[o]? _)
 unfold QBQ; cases H[o]? with | none=>rfl | some x=>cases x <;> rfl
@[go_sem ↓] theorem QTH {sz:Nat} {lo hi:Option AV}:QFp .sl sz .nils lo hi H K = bdK lo 0 fun a=>bdK hi 0 fun b=>a ≤ b ∧ b ≤ 0 ∧ K [] [] .nils:=rfl
@[go_sem ↓] theorem QZ8 (k:XK) (xs:List Opd) {P:Program} {T:List AV} {K:List AObj → AV → Prop}:QCB P (.ext k xs) T H K = (cbv (xs.map fun x=>x.ev T) (fun vs=>QFr k vs H (fun (_ wr:List (Nat × AObj)) v=>K (QEI H wr) v)) .mk):=rfl
@[go_sem ↓] theorem QZ9 (k:XK) (xs:List Opd) {P:Program} {T:List AV} {nid:Nat}:QCK P (.ext k xs) T H nid K = (cbv (xs.map fun x=>x.ev T) (fun vs=>QFr k vs H K) .mk):=true_and _
@[go_sem ↓] theorem QZR (s:List UInt8) (K:List UInt8 → Prop):onS (some s) K = K s:=rfl
@[go_sem ↓] theorem QWP:QFr .b2s [.nils] H K = K [] [] (.str []):=rfl
@[go_sem ↓] theorem QXw {l:List (List AV)}:QFr .b2s [.imm l] H K = (cbv (unb l) (fun x=>onS x fun s=>K [] [] (.str s)) .mk):=rfl
@[go_sem ↓] theorem QXx {o n:Nat}:QFr .b2s [.own o n] H K = (cbv (H[o]?) (fun x=>QBQ x fun e sz l=>n = l.length ∧ cbv (unb l) (fun y=>onS y fun s=>K [(o,.reg e sz l)] [] (.str s)) .mk) .mk):=by
 show (match H[o]? with | some (.reg e sz l)=>_ | _=>False) = QBQ H[o]? _
 unfold QBQ; cases H[o]? with | none=>rfl | some x=>cases x <;> rfl
@[go_sem ↓] theorem QXy {o lo n:Nat}:QFr .b2s [.win o lo n] H K = (cbv (H[o]?) (fun x=>QG1 x fun e cs=>lo + n ≤ cs.length ∧ cbv (unb (((cs.drop lo).take n).map fun x=>[x])) (fun y=>onS y fun s=>K [(o,.box e cs)] [] (.str s)) .mk) .mk):=by
 show (match H[o]? with | some (.box e cs)=>_ | _=>False) = QG1 H[o]? _
 unfold QG1; cases H[o]? with | none=>rfl | some x=>cases x <;> rfl
@[go_sem ↓] theorem q_s2b {s:List UInt8}:QFr .s2b [.str s] H K = K [] [] (.imm (s.map QF9)):=rfl
@[go_sem ↓] theorem q_shl {k k':IntKind} {a n:Int}:QFr (.shift true) [.int k a,.int k' n] H K = (0 ≤ n ∧ K [] [] (.int k (k.wrap (a * 2 ^ (min n.toNat k.bits))))):=rfl
@[go_sem ↓] theorem q_shr {k k':IntKind} {a n:Int}:QFr (.shift false) [.int k a,.int k' n] H K = (0 ≤ n ∧ K [] [] (.int k (a.fdiv (2 ^ (min n.toNat k.bits))))):=rfl
@[go_sem ↓] theorem QZS {e o n:Nat} {s:List UInt8}:QFr (.appStr e) [.own o n,.str s] H K = (cbv (H[o]?) (fun x=>QBQ x fun e' sz' l=>n = l.length ∧ e' = e ∧ sz' = 1 ∧ QOA 1 (l.length + s.length) ∧ cbv (l ++ s.map QF9) (fun l'=>K [(o,.reg e' sz' l)] [(o,.reg e 1 l')] (.own o (l.length + s.length))) .mk) .mk):=by
 show (match H[o]? with | some (.reg e sz l)=>_ | _=>False) = QBQ H[o]? _
 unfold QBQ; cases H[o]? with | none=>rfl | some x=>cases x <;> rfl
@[go_sem ↓] theorem QWQ {t:Nat} {k:IntKind} {n:Int}:QFr (.mkif t) [.int k n] H K = K [] [] (.raw (.iface t (.int k n))):=rfl
@[go_sem ↓] theorem QWR {t:Nat} {s:List UInt8}:QFr (.mkif t) [.str s] H K = K [] [] .ifc:=rfl
@[go_sem ↓] theorem QUa {t:Nat} {b:Bool}:QFr (.mkif t) [.bool b] H K = K [] [] .ifc:=rfl
@[go_sem ↓] theorem QUb {t:Nat}:QFr (.mkif t) [.junk] H K = K [] [] .ifc:=rfl
@[go_sem ↓] theorem QWS {t o off:Nat}:QFr (.mkif t) [.ptr o off] H K = K [] [] .ifc:=rfl
@[go_sem ↓] theorem QWT {t:Nat} {v:Value}:QFr (.mkif t) [.raw v] H K = K [] [] .ifc:=rfl
@[go_sem ↓] theorem QWU {t o n:Nat}:QFr (.mkif t) [.own o n] H K = K [] [] (.ifv t (.own o n)):=rfl
@[go_sem ↓] theorem QWV {t:Nat} {cs:List AV}:QFr (.mkif t) [.agg cs] H K = K [] [] .ifc:=rfl
@[go_sem ↓] theorem q_ifeq {neg:Bool} {ts:List Nat} {t u:Nat} {k k':IntKind} {a b:Int}:QFr (.ifeq neg ts) [.raw (.iface t (.int k a)),.raw (.iface u (.int k' b))] H K = (t = u ∧ k = k' ∧ ts.contains t = true ∧ K [] [] (.bool ((a == b) != neg))):=rfl
@[go_sem ↓] theorem q_stop:QFr .stop [] H K = False:=rfl
@[go_sem ↓] theorem q_cut {n o:Nat} {k k':IntKind} {a b:Int}:QFr (.cut n) [.ptr o 0,.int k a,.int k' b] H K = (cbv (H[o]?) (fun x=>QG1 x fun e cs=>cs.length = n ∧ 0 ≤ a ∧ a ≤ b ∧ a < n ∧ b ≤ n ∧ cbv (a.toNat) (fun lo=>cbv ((b - a).toNat) (fun m=>K [(o,.box e cs)] [] (.win o lo m)) .mk) .mk) .mk):=by
 show (match H[o]? with | some (.box e cs)=>_ | _=>False) = QG1 H[o]? _
 unfold QG1; cases H[o]? with | none=>rfl | some x=>cases x <;> rfl
@[go_sem ↓] theorem QaA {k k':IntKind} {a b:Int}:QFr .least [.int k a,.int k' b] H K = K [] [] (.int k (if b < a then b else a)):=rfl
@[go_sem ↓] theorem q_most {k k':IntKind} {a b:Int}:QFr .most [.int k a,.int k' b] H K = K [] [] (.int k (if b > a then b else a)):=rfl
@[go_sem ↓] theorem QWW {neg:Bool}:QFr (.pnil neg) [.nilp] H K = K [] [] (.bool (!neg)):=rfl
@[go_sem ↓] theorem QWX {neg:Bool} {o off:Nat}:QFr (.pnil neg) [.ptr o off] H K = K [] [] (.bool neg):=rfl
@[go_sem ↓] theorem QUc {neg:Bool} {cs:List AV}:QFr (.pnil neg) [.iptr cs] H K = K [] [] (.bool neg):=rfl
@[go_sem ↓] theorem QUd {neg:Bool}:QFr (.ifnil neg) [.raw .nilIface] H K = K [] [] (.bool (!neg)):=rfl
@[go_sem ↓] theorem QTI {neg:Bool} {t:TypeId} {v:Value}:QFr (.ifnil neg) [.raw (.iface t v)] H K = K [] [] (.bool neg):=rfl
@[go_sem ↓] theorem QUe {neg:Bool}:QFr (.ifnil neg) [.ifc] H K = K [] [] (.bool neg):=rfl
@[go_sem ↓] theorem QaB {o n:Nat}:QFr .sdata [.own o n] H K = (cbv (H[o]?) (fun x=>QBQ x fun e sz l=>n = l.length ∧ l ≠ [] ∧ K [(o,.reg e sz l)] [] (.eptr o n 0 0)) .mk):=by
 show (match H[o]? with | some (.reg e sz l)=>_ | _=>False) = QBQ H[o]? _
 unfold QBQ; cases H[o]? with | none=>rfl | some x=>cases x <;> rfl
@[go_sem ↓] theorem q_ustr {e o n:Nat} {m:Int}:QFr (.ustr e) [.eptr o n 0 0,.int .i64 m] H K = (cbv (H[o]?) (fun x=>QBQ x fun e' sz l=>e' = e ∧ n = l.length ∧ m = l.length ∧ sz = 1 ∧ l ≠ [] ∧ cbv (unb l) (fun y=>onS y fun s=>K [(o,.reg e' sz l)] [(o,.dead)] (.str s)) .mk) .mk):=by
 show (match H[o]? with | some (.reg e sz l)=>_ | _=>False) = QBQ H[o]? _
 unfold QBQ; cases H[o]? with | none=>rfl | some x=>cases x <;> rfl
@[go_sem] theorem q_ev_v {T:List AV} {x:AV}:Opd.ev T (.v x) = x:=rfl
@[go_sem] theorem QWY {T:List AV} {x:AV}:QEE T none x = T:=rfl
end eqs

end Go.Ab
