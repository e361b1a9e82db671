/- Code: the compiler, the abstract weakest precondition, and that it is sound. -/
import Derived.Test.YtneghlianebffaaGreatDoorA2
namespace Go.Ab
open Go
set_option linter.unusedSectionVars false
variable [Glob]

structure St where
 T:List AV
 H:List AObj

def QEE (T:List AV) (dst:Option Nat) (v:AV):List AV:=
 match dst with
 | some d=>T.set d v
 | none=>T

structure QD2 where
 dst:Option Nat
 op:AOp
 guard:Option (Nat × Bool)

inductive ACode where
 | skip
 | ops (l:List QD2)
 | draw (l:List QD2) (bs:List Nat)
 | seq (a b:ACode)
 | cond (c:Opd) (a b:ACode)
 | block (id:Nat) (c:ACode)
 | loop (c:ACode)
 | exit (id:Nat)
 | ret

def QDP (ops:Array Oper):Option (Nat × Bool) → Option (Option (Nat × Bool))
 | none=>some none
 | some (j,w)=>(match (ops[j]?).bind (·.dst) with | some d=>some (some (d,w)) | none=>none)

def QTp (own:List Nat) (o:Oper):Bool:=match o.dst with | some d=>own.contains d | none=>false

def QB3 (P:Program) (own:List Nat) (ops:Array Oper):List Oper → Option (List QD2)
 | []=>some []
 | o :: r=>(match QDy P (QTp own o) o,QDP ops o.guard with
  | some op,some g=>(QB3 P own ops r).map fun l=>⟨o.dst,op,g⟩ :: l
  | _,_=>none)

def QJr (ops:Array Oper):Bool:=
 ops.toList.zipIdx.all fun q=>ops.toList.zipIdx.all fun p=>!(decide (p.2 < q.2)) || p.1.apart ops q.1 || ((Region.before ops).getD q.2 0).testBit p.2

def QJs (ops:Array Oper):Bool:=ops.toList.zipIdx.all fun q=>q.1.after.all fun e=>!(Region.binds .any e) || decide (e.on < q.2)

def QAd (P:Program) (own:List Nat):Code → Option ACode
 | .skip=>some .skip
 | .region _ ops draw=>if draw && !(P.follows .mixedOrders && QJr ops && QJs ops) then none else (QB3 P own ops ops.toList).map fun l=>if draw then .draw l (Region.before ops).toList else .ops l
 | .seq a b=>(match QAd P own a,QAd P own b with | some x,some y=>some (.seq x y) | _,_=>none)
 | .cond c a b=>(match QAd P own a,QAd P own b with | some x,some y=>some (.cond (opd c) x y) | _,_=>none)
 | .block id c=>(QAd P own c).map (.block id)
 | .loop c=>(QAd P own c).map .loop
 | .exit id=>some (.exit id)
 | .ret=>some .ret
 | _=>none

def QEH (P:Program) (f:Nat):Bool:=
 match P.funcs[f]? with
 | some fn=>fn.name != "runtime.NumGoroutine" && fn.body.isSome
 | none=>false

def ACalls (P:Program) (f:Nat) (as:List AV) (H:List AObj) (av:AV) (H':List AObj):Prop:=
 QEH P f = true ∧ ∀ (c:Cx) (vs:List Value),c.H = H → Rel c → QA3 c as vs →
  Calls P f vs.toArray c.w fun e w'=>∃ v c',e = .returned v ∧ c'.w = w' ∧ c'.H = H' ∧ Rel c' ∧ Ext c c' ∧ Val c' av v

def ACallsR (P:Program) (f:Nat) (as:List AV) (H:List AObj) (R:AV → List AObj → Prop):Prop:=
 QEH P f = true ∧ ∀ (c:Cx) (vs:List Value),c.H = H → Rel c → QA3 c as vs →
  Calls P f vs.toArray c.w fun e w'=>∃ v c' av,e = .returned v ∧ c'.w = w' ∧ R av c'.H ∧ Rel c' ∧ Ext c c' ∧ Val c' av v

theorem ACalls.toR {P:Program} {f:Nat} {as:List AV} {H H':List AObj} {av:AV} (h:ACalls P f as H av H'):ACallsR P f as H (fun v G=>v = av ∧ G = H'):=
 ⟨h.1,fun c vs hH hr hv=>(h.2 c vs hH hr hv).mono fun _ _ ⟨v,c',h1,h2,h3,h4,h5,h6⟩=>⟨v,c',av,h1,h2,⟨rfl,h3⟩,h4,h5,h6⟩⟩
theorem ACallsR.mono {P:Program} {f:Nat} {as:List AV} {H:List AObj} {R R':AV → List AObj → Prop} (h:ACallsR P f as H R) (hR:∀ v G,R v G → R' v G):ACallsR P f as H R':=
 ⟨h.1,fun c vs hH hr hv=>(h.2 c vs hH hr hv).mono fun _ _ ⟨v,c',av,h1,h2,h3,h4⟩=>⟨v,c',av,h1,h2,hR _ _ h3,h4⟩⟩
theorem ACallsR.one {P:Program} {f:Nat} {as:List AV} {H H':List AObj} {av:AV} (h:ACallsR P f as H (fun v G=>v = av ∧ G = H')):ACalls P f as H av H':=
 ⟨h.1,fun c vs hH hr hv=>(h.2 c vs hH hr hv).mono fun _ _ ⟨v,c',_,h1,h2,⟨h3,h4⟩,h5,h6,h7⟩=>⟨v,c',h1,h2,h4,h5,h6,h3 ▸ h7⟩⟩

def QO9 (P:Program) (fv:AV) (args:List AV) (H:List AObj) (K:List AObj → AV → Prop):Prop:=
 match fv with
 | .fn (.func f) first caps=>ACallsR P f (first ++ args ++ caps) H fun v H'=>K H' v
 | _=>False

def QEI (H:List AObj):List (Nat × AObj) → List AObj
 | []=>H
 | p :: r=>QEI (if p.1 < H.length then H.set p.1 p.2 else H ++ [p.2]) r

def QCB (P:Program) (op:AOp) (T:List AV) (H:List AObj) (K:List AObj → AV → Prop):Prop:=
 match op with
 | .call f args=>QO9 P (f.ev T) (args.map fun x=>x.ev T) H K
 | .mnext x=>QGi (x.ev T) H K
 | op=>QKe op T H H.length fun _ wr v=>K (QEI H wr) v

def QFi (g:Option (Nat × Bool)) (T:List AV) (run skip:Prop):Prop:=
 match g with
 | none=>run
 | some (d,want)=>(match T[d]? with
  | some (.bool b)=>if b = want then run else skip
  | some (.tup [])=>skip
  | _=>False)

def QD4 (P:Program):List QD2 → (St → Prop) → St → Prop
 | [],K,σ=>K σ
 | o :: r,K,σ=>QFi o.guard σ.T (QCB P o.op σ.T σ.H fun H' v=>QD4 P r K ⟨QEE σ.T o.dst v,H'⟩) (QD4 P r K ⟨QEE σ.T o.dst (.tup []),σ.H⟩)

def SStep (P:Program) (o:Oper) (T:List AV) (H H':List AObj) (val:AV):Prop:=
 ∀ (c:Cx) (a:Act),Rel c → c.H = H → Fr c T a → ∀ (next:Act → World → Prop) (Q:Exit → Act → World → Prop),
  (∀ v c',Rel c' → Ext c c' → c'.H = H' → Val c' val v → next (a.put o.dst v) c'.w) → o.wp P a c.w next Q

theorem QPA:∀ (wr:List (Nat × AObj)) (H:List AObj),(∀ p ∈ wr,p.1 < H.length) → QEI H wr = QGC H wr
 | [],_,_=>rfl
 | p :: r,H,h=>by
  simp only [QEI,QGC,if_pos (h p (by simp))]
  exact QPA r _ fun q hq=>by simpa using h q (by simp [hq])

theorem QWm:∀ (wr0:List (Nat × AObj)) (H:List AObj) (x:AObj),(∀ p ∈ wr0,p.1 < H.length) → QGC (H ++ [.unborn]) (wr0 ++ [(H.length,x)]) = QEI H (wr0 ++ [(H.length,x)])
 | [],H,x,_=>by simp [QGC,QEI]
 | p :: r,H,x,h=>by
  have hp:=h p (by simp)
  simp only [List.cons_append,QEI,QGC,if_pos hp,List.set_append_left _ _ hp]
  have:=QWm r (H.set p.1 p.2) x fun q hq=>by simpa using h q (by simp [hq])
  simpa using this

theorem QRE {P:Program} {o:Oper} {T:List AV} {H:List AObj} {al:Bool} {K:SK} (h:Out P o T H H.length al K):∃ pre wr val,K pre wr val ∧ SStep P o T H (QEI H wr) val:=by
 obtain ⟨pre,wr,val,hK,hpre,hwr,hc,hL⟩:=h
 refine ⟨pre,wr,val,hK,fun c a hr hH hF next Q hn=>?_⟩
 have hops:∀ {c':Cx},Ext c c' → ∀ x ∈ o.op.operands.toList,Val c' ((opd x).ev T) (a.eval x):=fun hE x _=>hE.val hr (QIL hF x)
 rcases hc with hc | ⟨_,wr0,x,rfl,hw0⟩
 ·obtain ⟨v,c',h1,h2,h3,h4,h5⟩:=hL c a hr (hops (.refl c)) (fun p hp=>by rw [hH]; exact hc p hp)
  refine h5 next Q (hn v c' h1 h2 ?_ h4)
  rw [h3,hH,QPA]
  intro p hp
  obtain ⟨q,hq,hqe⟩:=List.mem_map.1 (hwr p hp)
  rw [← hqe]
  exact (List.getElem?_eq_some_iff.1 (hc q hq)).1
 ·obtain ⟨hr1,hE1⟩:=QDa hr
  obtain ⟨v,c',h1,h2,h3,h4,h5⟩:=hL _ a hr1 (hops hE1) (fun p hp=>by
   show (c.H ++ [AObj.unborn])[p.1]? = some p.2
   rw [hH]
   rcases hpre p hp with h | rfl
   ·rw [List.getElem?_append_left (List.getElem?_eq_some_iff.1 h).1]; exact h
   ·simp)
  refine h5 next Q (hn v c' h1 (hE1.trans h2) ?_ h4)
  rw [h3]
  show QGC (c.H ++ [AObj.unborn]) _ = _
  rw [hH]
  exact QWm wr0 H x hw0

theorem SStep.toR {P:Program} {o:Oper} {T:List AV} {H H':List AObj} {val:AV} {X:List AObj → AV → Prop} (h:SStep P o T H H' val) (hX:X H' val):QNk P o T H X:=
 fun c a hr hH hF next Q hn=>h c a hr hH hF next Q fun v c' h1 h2 h3 h4=>hn v c' val (h3 ▸ hX) h1 h2 h4

theorem QI6 {c c':Cx} (h:Ext c c') (hr:Rel c) {T:List AV} {a:Act} (hF:Fr c T a):Fr c' T a:=
 ⟨hF.1,hF.2.1,fun n=>h.val hr (hF.2.2 n)⟩

theorem QM0 {c:Cx} {T:List AV} {a:Act} (hF:Fr c T a) {val:AV} {v:Value} (hv:Val c val v) (dst:Option Nat):Fr c (QEE T dst val) (a.put dst v):=by
 cases dst with
 | none=>exact hF
 | some d=>
  refine ⟨by simp [QEE,Act.put,hF.1],by simp [Act.put,hF.2.1],fun n=>?_⟩
  simp only [QEE,Act.put]
  by_cases hn:d = n
  ·subst hn
   by_cases hd:d < T.length
   ·have hd':d < a.tmps.size:=by rw [← hF.1]; exact hd
    simp [hd,hd',Array.getD]
    exact hv
   ·have hd':¬ d < a.tmps.size:=by rw [← hF.1]; exact hd
    simp [hd,QDN]
  ·have h1:(T.set d val)[n]? = T[n]?:=by simp [List.getElem?_set_ne hn]
   have h2:(a.tmps.setIfInBounds d v).getD n undef = a.tmps.getD n undef:=by
    simp only [Array.getD_eq_getD_getElem?,Array.getElem?_setIfInBounds_ne hn]
   rw [h1,h2]
   exact hF.2.2 n

theorem QHO {P:Program} {f:Nat} (h:QEH P f = true) (args:Array Value) (w:World):(callFunc f args).run P w = .ok (.enter f args) w:=by
 unfold QEH at h
 split at h
 ·rename_i fn hf
  simp only [Bool.and_eq_true,bne_iff_ne,ne_eq] at h
  have hb:fn.body.isNone = false:=by cases hb:fn.body <;> simp_all
  simp [callFunc,hf,h.1]
  intro hn
  simp [hn] at hb
 ·cases h

theorem QPB {P:Program} {o:Oper} {T:List AV} {H:List AObj} {fo:Operand} {args:Array Operand} {ts:Array TypeId} {K:List AObj → AV → Prop}
  (ho:o.op = .call ⟨.value fo,args,ts⟩) (h:QO9 P ((opd fo).ev T) (args.toList.map fun x=>(opd x).ev T) H K):QNk P o T H K:=by
 unfold QO9 at h
 split at h
 ·rename_i f first caps hf
  obtain ⟨hb,hC⟩:=h
  intro c a hr hH hF next Q hn
  have h1:=QIL hF fo
  rw [hf] at h1
  simp only [Val] at h1
  obtain ⟨vf,vc,h2,h3,h4⟩:=h1
  have h5:∀ l:List Operand,QA3 c (l.map fun x=>(opd x).ev T) (l.map a.eval):=by
   intro l
   induction l with
   | nil=>simp [QA3]
   | cons x l ih=>simp only [List.map_cons,QA3]; exact ⟨_,_,rfl,QIL hF x,ih⟩
  have happ:∀ (l r:List AV) (vs ws:List Value),QA3 c l vs → QA3 c r ws → QA3 c (l ++ r) (vs ++ ws):=by
   intro l
   induction l with
   | nil=>intro r vs ws h1 h2; simp only [QA3] at h1; subst h1; exact h2
   | cons x l ih=>
    intro r vs ws h1 h2
    simp only [QA3] at h1
    obtain ⟨v,vs',rfl,h6,h7⟩:=h1
    simp only [List.cons_append,QA3]
    exact ⟨_,_,rfl,h6,ih r vs' ws h7 h2⟩
  have hargs:=happ _ _ _ _ (happ _ _ _ _ h3 (h5 args.toList)) h4
  have hcall:=hC c _ hH hr hargs
  unfold Oper.wp
  have hrun:(execOp a.eval o).run P c.w = .ok (.enter f (vf.toList ++ args.toList.map a.eval ++ vc.toList).toArray) c.w:=by
   have e:(vf.toList ++ args.toList.map a.eval ++ vc.toList).toArray = vf ++ args.map a.eval ++ vc:=by
    apply Array.ext'
    simp
   rw [e]
   simp only [execOp,ho,resolve,Sem.run_bind,h2,Deferred.ofValue,Sem.run_pure,Result.andThen_ok,invoke,QHO hb]
  rw [hrun]
  refine hcall.mono fun e w' hq=>?_
  obtain ⟨v,c',av,rfl,rfl,h6,h7,h8,h9⟩:=hq
  exact hn v c' av h6 h7 h8 h9
 ·exact h.elim

/-! ### What code does to abstract states -/
def Wk (k:Nat) (σ σ':St):Prop:=
 ∀ (c:Cx) (a:Act),Rel c → c.H = σ.H → Fr c σ.T a → ∃ c',c'.w = c.w ∧ Rel c' ∧ ExtN k c c' ∧ c'.H = σ'.H ∧ Fr c' σ'.T a

theorem Wk.refl (k:Nat) (σ:St):Wk k σ σ:=fun c _ hr hH hF=>⟨c,rfl,hr,.refl k c,hH,hF⟩
theorem Wk.trans {n:Nat} {a b c:St} (h:Wk n a b) (k:Wk n b c):Wk n a c:=fun x y hr hH hF=>by
 obtain ⟨x1,h1,h2,h3,h4,h5⟩:=h x y hr hH hF
 obtain ⟨x2,h6,h7,h8,h9,h10⟩:=k x1 y h2 h4 h5
 exact ⟨x2,h6.trans h1,h7,h3.trans h8,h9,h10⟩

def awp (P:Program) (k:Nat) (ac:ACode) (Q:Exit → St → Prop) (σ:St):Prop:=
 ∀ own code,QAd P own code = some ac → ∀ (c:Cx) (a:Act),Rel c → c.H = σ.H → Fr c σ.T a → ∀ (Q':Exit → Act → World → Prop),
  (∀ e σ' c' a',Q e σ' → Rel c' → ExtN k c c' → c'.H = σ'.H → Fr c' σ'.T a' → Q' e a' c'.w) → code.wp P Q' a c.w

theorem QH6 {o:Oper} (h:o.guard = none) (y:Nat → Option Bool):Region.wanted o y = true:=by simp [Region.wanted,h]

theorem QHP {P:Program} {own:Bool} {o:Oper} {f:Opd} {args:List Opd} (hop':QDy P own o = some (.call f args)):
  ∃ fo as ts,o.op = .call ⟨.value fo,as,ts⟩ ∧ opd fo = f ∧ as.toList.map opd = args:=by
 have hop:QA7 P own o = some (.call f args):=by
  unfold QDy at hop'
  split at hop'
  ·rename_i a h
   obtain ⟨k,xs,rfl⟩:=QFs h
   cases hop'
  ·exact hop'
 cases ho:o.op with
 | call c=>
  simp only [QA7,ho] at hop
  unfold QEn at hop
  split at hop
  ·simp at hop
  ·split at hop
   ·split at hop
    ·split at hop
     ·split at hop <;> simp at hop
     ·simp at hop
    ·simp at hop
   ·simp at hop
  ·split at hop
   ·simp at hop
   ·simp at hop
  ·rename_i fo as ts
   simp at hop
   exact ⟨fo,as,ts,rfl,hop.1,hop.2⟩
  ·simp at hop
 | binOp op t x y t'=>
  simp only [QA7,ho,QFc] at hop
  repeat' split at hop
  all_goals simp at hop
 | makeMap t r=>cases r <;> simp [QA7,ho] at hop
 | next y b=>cases b <;> simp [QA7,ho] at hop
 | slice t y lo hi m=>
  cases m with
  | some _=>simp [QA7,ho] at hop
  | none=>
   simp only [QA7,ho] at hop
   repeat' split at hop
   all_goals first | (simp at hop; done) | (simp only [Option.map_eq_some_iff] at hop; obtain ⟨_,_,hop⟩:=hop; cases hop)
 | _=>
  simp only [QA7,ho] at hop
  first
   | (simp at hop; done)
   | ((repeat' split at hop); all_goals first | (simp at hop; done) | skip)

theorem QKt {P:Program} {own:Bool} {o:Oper} {x:Opd} (hop':QDy P own o = some (.mnext x)):∃ y,o.op = .next y false ∧ opd y = x:=by
 have hop:QA7 P own o = some (.mnext x):=by
  unfold QDy at hop'
  split at hop'
  ·rename_i a h
   obtain ⟨k,xs,rfl⟩:=QFs h
   cases hop'
  ·exact hop'
 cases ho:o.op with
 | next y b=>cases b <;> simp [QA7,ho] at hop; exact ⟨y,rfl,hop⟩
 | call c=>
  simp only [QA7,ho] at hop
  unfold QEn at hop
  repeat' split at hop
  all_goals first | (simp at hop; done) | (simp only [Option.map_eq_some_iff] at hop; obtain ⟨_,_,hop⟩:=hop; cases hop)
 | binOp op t x y t'=>
  simp only [QA7,ho,QFc] at hop
  repeat' split at hop
  all_goals simp at hop
 | makeMap t r=>cases r <;> simp [QA7,ho] at hop
 | slice t y lo hi m=>
  cases m with
  | some _=>simp [QA7,ho] at hop
  | none=>
   simp only [QA7,ho] at hop
   repeat' split at hop
   all_goals first | (simp at hop; done) | (simp only [Option.map_eq_some_iff] at hop; obtain ⟨_,_,hop⟩:=hop; cases hop)
 | _=>
  simp only [QA7,ho] at hop
  first
   | (simp at hop; done)
   | ((repeat' split at hop); all_goals first | (simp at hop; done) | skip)

def QZo (P:Program) (ops:Array Oper) (l:List Oper) (K:St → Prop) (σ:St):Prop:=
 ∀ (c:Cx) (a:Act),Rel c → c.H = σ.H → Fr c σ.T a → ∀ (Q:Exit → Act → World → Prop),
   (∀ σ' c' a',K σ' → Rel c' → Ext c c' → c'.H = σ'.H → Fr c' σ'.T a' → Q .normal a' c'.w) → ∀ k,(∀ j,l[j]? = ops[k + j]?) → wpOps P ops Q (List.range' k l.length) a c.w
theorem QH7 {P:Program} {own:List Nat} {ops:Array Oper}:∀ (l:List Oper) (al:List QD2) (K:St → Prop) (σ:St),QB3 P own ops l = some al → QD4 P al K σ → QZo P ops l K σ
 | [],al,K,σ,hc,h=>by
  simp [QB3] at hc
  subst hc
  intro c a hr hH hF Q hQ k _
  simp only [List.length_nil,List.range'_zero,wpOps]
  exact hQ σ c a h hr (.refl c) hH hF
 | o :: r,al,K,σ,hc,h=>by
  unfold QB3 at hc
  split at hc
  ·rename_i op g hop hg
   cases hr':QB3 P own ops r with
   | none=>simp [hr'] at hc
   | some l=>
    simp [hr'] at hc
    subst hc
    simp only [QD4] at h
    -- what one operation does
    have step:QNk P o σ.T σ.H (fun H' val=>QD4 P l K ⟨QEE σ.T o.dst val,H'⟩) →
      ∀ (c:Cx) (a:Act),Rel c → c.H = σ.H → Fr c σ.T a → ∀ (Q:Exit → Act → World → Prop),
       (∀ σ' c' a',K σ' → Rel c' → Ext c c' → c'.H = σ'.H → Fr c' σ'.T a' → Q .normal a' c'.w) → ∀ k,(∀ j,(o :: r)[j]? = ops[k + j]?) → o.wp P a c.w (wpOps P ops Q (List.range' (k + 1) r.length)) Q:=by
     intro hS c a hr hH hF Q hQ k hj
     refine hS c a hr hH hF _ Q fun v c' val hk h3 h4 h6=>?_
     refine QH7 r l K _ hr' hk c' _ h3 rfl (QM0 (QI6 h4 hr hF) h6 o.dst) Q (fun σ2 c2 a2 h7 h8 h9 h10 h11=>hQ σ2 c2 a2 h7 h8 (h4.trans h9) h10 h11) (k + 1) fun j=>?_
     have:=hj (j + 1)
     rw [show k + (j + 1) = k + 1 + j from by omega] at this
     simpa using this
    have skip:QD4 P l K ⟨QEE σ.T o.dst (.tup []),σ.H⟩ →
      ∀ (c:Cx) (a:Act),Rel c → c.H = σ.H → Fr c σ.T a → ∀ (Q:Exit → Act → World → Prop),
       (∀ σ' c' a',K σ' → Rel c' → Ext c c' → c'.H = σ'.H → Fr c' σ'.T a' → Q .normal a' c'.w) → ∀ k,(∀ j,(o :: r)[j]? = ops[k + j]?) → wpOps P ops Q (List.range' (k + 1) r.length) (a.put o.dst undef) c.w:=by
     intro hk c a hr hH hF Q hQ k hj
     refine QH7 r l K _ hr' hk c _ hr hH (QM0 hF (by simp only [Val,QA3]; exact ⟨#[],rfl,rfl⟩) o.dst) Q hQ (k + 1) fun j=>?_
     have:=hj (j + 1)
     rw [show k + (j + 1) = k + 1 + j from by omega] at this
     simpa using this
    have run:QCB P op σ.T σ.H (fun H' v=>QD4 P l K ⟨QEE σ.T o.dst v,H'⟩) →
      ∀ (c:Cx) (a:Act),Rel c → c.H = σ.H → Fr c σ.T a → ∀ (Q:Exit → Act → World → Prop),
       (∀ σ' c' a',K σ' → Rel c' → Ext c c' → c'.H = σ'.H → Fr c' σ'.T a' → Q .normal a' c'.w) → ∀ k,(∀ j,(o :: r)[j]? = ops[k + j]?) → o.wp P a c.w (wpOps P ops Q (List.range' (k + 1) r.length)) Q:=by
     intro he
     unfold QCB at he
     split at he
     ·rename_i f args
      have:=QHP hop
      obtain ⟨fo,as,ts,h1,rfl,rfl⟩:=this
      exact step (QPB h1 (by simpa [List.map_map,Function.comp_def] using he))
     ·obtain ⟨y,h1,rfl⟩:=QKt hop
      exact step (QQh h1 rfl he)
     ·obtain ⟨pre,wr,val,hk,hS⟩:=QRE (QNl hop he)
      exact step (hS.toR hk)
    -- the guard
    intro c a hr hH hF Q hQ k hj
    have h0:ops[k]? = some o:=by have:=hj 0; simpa using this.symm
    rw [List.length_cons,List.range'_succ]
    cases hgd:o.guard with
    | none=>
     simp only [hgd,QDP,Option.some.injEq] at hg
     subst hg
     simp only [QFi] at h
     simp only [wpOps,h0,QH6 hgd,if_true]
     exact .inl (run h c a hr hH hF Q hQ k hj)
    | some gd=>
     obtain ⟨j,want⟩:=gd
     simp only [hgd,QDP] at hg
     split at hg
     ·rename_i d hd
      simp only [Option.some.injEq] at hg
      subst hg
      have hw:∀ (a:Act),Region.wanted o (yielded ops a.tmps) = (yielded ops a.tmps j == some want):=fun a=>by simp [Region.wanted,hgd]
      have hy:∀ (a:Act),yielded ops a.tmps j = (match a.tmps[d]? with | some (.bool b)=>some b | _=>none):=fun a=>by unfold yielded; rw [hd]; rfl
      simp only [QFi] at h
      split at h
      ·rename_i b hb
       have hav:a.tmps[d]? = some (.bool b):=by
        have:=hF.2.2 d
        rw [hb] at this
        simp only [Option.getD_some,Val] at this
        have hlt:d < a.tmps.size:=by rw [← hF.1]; exact (List.getElem?_eq_some_iff.1 hb).1
        simp only [Array.getD_eq_getD_getElem?,Array.getElem?_eq_getElem hlt,Option.getD_some] at this
        rw [Array.getElem?_eq_getElem hlt,this]
       by_cases hbw:b = want
       ·rw [if_pos hbw] at h
        simp only [wpOps,h0,hw,hy,hav,hbw,beq_self_eq_true,if_true]
        exact .inl (run h c a hr hH hF Q hQ k hj)
       ·rw [if_neg hbw] at h
        have hne:(some b == some want) = false:=by simp [hbw]
        simp only [wpOps,h0,hw,hy,hav,hne,Bool.false_eq_true,if_false]
        exact skip h c a hr hH hF Q hQ k hj
      ·rename_i hb
       have hav:a.tmps[d]? = some undef:=by
        have:=hF.2.2 d
        rw [hb] at this
        simp only [Option.getD_some,Val,QA3] at this
        obtain ⟨vs,h3,h4⟩:=this
        have hlt:d < a.tmps.size:=by rw [← hF.1]; exact (List.getElem?_eq_some_iff.1 hb).1
        simp only [Array.getD_eq_getD_getElem?,Array.getElem?_eq_getElem hlt,Option.getD_some] at h3
        rw [Array.getElem?_eq_getElem hlt,h3,Array.toList_eq_nil_iff.1 h4]
        rfl
       simp only [wpOps,h0,hw,hy,hav,undef]
       exact skip h c a hr hH hF Q hQ k hj
      ·exact h.elim
     ·cases hg
  ·cases hc

end Go.Ab
namespace Go.Ab
open Go
set_option linter.unusedSectionVars false
variable [Glob]

def QJt (n:St → Prop) (Q:Exit → St → Prop):Exit → St → Prop
 | .normal,s=>n s
 | e,s=>Q e s

def QH8 (id:Nat) (Q:Exit → St → Prop):Exit → St → Prop
 | .exit i,s=>if i = id then Q .normal s else Q (.exit i) s
 | e,s=>Q e s

def QN4 (c:AV) (p q:Prop):Prop:=
 match c with
 | .bool b=>if b then p else q
 | _=>False

theorem QJu {P:Program} {k:Nat} {a b:ACode} {Q:Exit → St → Prop} {σ:St} (h:awp P k a (QJt (awp P k b Q) Q) σ):awp P k (.seq a b) Q σ:=by
 intro own code hc
 cases code <;> simp only [QAd,Option.map_eq_some_iff,reduceCtorEq,and_false,exists_false] at hc
 case seq x y=>
  split at hc
  ·rename_i x' y' hx hy
   cases hc
   intro c a hr hH hF Q' hQ
   refine wp_seq (h own x hx c a hr hH hF _ fun e σ1 c' a' h5 h6 h7 h8 h9=>?_)
   cases e with
   | normal=>exact h5 own y hy c' a' h6 h8 h9 Q' fun e2 σ2 c2 a2 k1 k2 k3 k4 k5=>hQ e2 σ2 c2 a2 k1 k2 (h7.trans k3) k4 k5
   | exit i=>exact hQ _ σ1 c' a' h5 h6 h7 h8 h9
   | goto l=>exact hQ _ σ1 c' a' h5 h6 h7 h8 h9
   | ret=>exact hQ _ σ1 c' a' h5 h6 h7 h8 h9
   | panic ch=>exact hQ _ σ1 c' a' h5 h6 h7 h8 h9
   | outgrown=>exact hQ _ σ1 c' a' h5 h6 h7 h8 h9
  ·cases hc
 all_goals first | (cases hc; done) | (split at hc <;> (cases hc; done)) | (obtain ⟨_,_,hc⟩:=hc; first | (cases hc; done) | (split at hc <;> (cases hc; done))) | (split at hc <;> first | (cases hc; done) | (simp only [Option.map_eq_some_iff] at hc; obtain ⟨_,_,hc⟩:=hc; split at hc <;> (cases hc; done)))

theorem QDM {P:Program} {k:Nat} {a:ACode} {Q Q':Exit → St → Prop} {σ:St} (h:awp P k a Q σ) (hq:∀ e s,Q e s → Q' e s):awp P k a Q' σ:=fun own code hc c a hr hH hF R hR=>
 h own code hc c a hr hH hF R fun e s c' a' h1=>hR e s c' a' (hq e s h1)

theorem QFj {P:Program} {k:Nat} {a:ACode} {Q:Exit → St → Prop} {σ σ':St} (hw:Wk k σ σ') (h:awp P k a Q σ'):awp P k a Q σ:=fun own code hc c a hr hH hF R hR=>by
 obtain ⟨c1,k1,k2,k3,k4,k5⟩:=hw c a hr hH hF
 rw [← k1]
 exact h own code hc c1 a k2 k4 k5 R fun e s c' a' m0 m1 m2 m3 m4=>hR e s c' a' m0 m1 (k3.trans m2) m3 m4

theorem QTq {P:Program} {k:Nat} {l:List QD2} {Q:Exit → St → Prop} {σ:St} (h:QD4 P l (Q .normal) σ):awp P k (.ops l) Q σ:=by
 intro own code hc
 cases code <;> simp only [QAd,Option.map_eq_some_iff,reduceCtorEq,and_false,exists_false] at hc
 case region id ops draw=>
  cases draw
  ·simp only [Bool.false_and,Bool.false_eq_true,if_false,Option.map_eq_some_iff] at hc
   obtain ⟨l',hl,hc⟩:=hc
   cases hc
   intro c a hr hH hF Q' hQ
   refine wp_region ?_
   have:=QH7 ops.toList _ (Q .normal) σ hl h c a hr hH hF Q' (fun σ' c' a' k0 k1 k2 k3 k4=>hQ .normal σ' c' a' k0 k1 (k2.toN k) k3 k4) 0 (by simp)
   rwa [List.range_eq_range',← Array.length_toList]
  ·split at hc
   ·cases hc
   ·simp only [if_true,Option.map_eq_some_iff,reduceCtorEq,and_false,exists_false] at hc
 all_goals first | (cases hc; done) | (split at hc <;> (cases hc; done)) | (obtain ⟨_,_,hc⟩:=hc; first | (cases hc; done) | (split at hc <;> (cases hc; done))) | (split at hc <;> first | (cases hc; done) | (simp only [Option.map_eq_some_iff] at hc; obtain ⟨_,_,hc⟩:=hc; split at hc <;> (cases hc; done)))

theorem QRF {P:Program} {k:Nat} {x:Opd} {a b:ACode} {Q:Exit → St → Prop} {σ:St} (h:QN4 (x.ev σ.T) (awp P k a Q σ) (awp P k b Q σ)):awp P k (.cond x a b) Q σ:=by
 intro own code hc
 cases code <;> simp only [QAd,Option.map_eq_some_iff,reduceCtorEq,and_false,exists_false] at hc
 case cond y p q=>
  split at hc
  ·rename_i x' y' hx hy
   cases hc
   unfold QN4 at h
   split at h
   ·rename_i t ht
    have ev:∀ {c:Cx} {a:Act},Fr c σ.T a → a.eval y = .bool t:=fun {c a} hF=>by
     have:=QIL hF y
     rw [ht] at this; simpa only [Val] using this
    cases t
    ·simp only [Bool.false_eq_true,if_false] at h
     exact fun c a hr hH hF Q hQ=>wp_cond_false (ev hF) (h own q hy c a hr hH hF Q hQ)
    ·simp only [if_true] at h
     exact fun c a hr hH hF Q hQ=>wp_cond_true (ev hF) (h own p hx c a hr hH hF Q hQ)
   ·exact h.elim
  ·cases hc
 all_goals first | (cases hc; done) | (split at hc <;> (cases hc; done)) | (obtain ⟨_,_,hc⟩:=hc; first | (cases hc; done) | (split at hc <;> (cases hc; done))) | (split at hc <;> first | (cases hc; done) | (simp only [Option.map_eq_some_iff] at hc; obtain ⟨_,_,hc⟩:=hc; split at hc <;> (cases hc; done)))

theorem QBZ {P:Program} {k:Nat} {id:Nat} {a:ACode} {Q:Exit → St → Prop} {σ:St} (h:awp P k a (QH8 id Q) σ):awp P k (.block id a) Q σ:=by
 intro own code hc
 cases code <;> simp only [QAd,Option.map_eq_some_iff,reduceCtorEq,and_false,exists_false] at hc
 case block i x=>
  obtain ⟨x',hx,hc⟩:=hc
  cases hc
  intro c a hr hH hF Q' hQ
  refine wp_block (h own x hx c a hr hH hF _ fun e s c' a' h1 k1 k2 k3 k4=>?_)
  cases e with
  | exit i=>
   unfold QH8 at h1
   by_cases hi:i = id
   ·simp only [hi,if_true] at h1
    simp only [Exit.inBlock,hi,if_true]
    exact hQ .normal s c' a' h1 k1 k2 k3 k4
   ·simp only [hi,if_false] at h1
    simp only [Exit.inBlock,hi,if_false]
    exact hQ _ s c' a' h1 k1 k2 k3 k4
  | normal=>exact hQ _ s c' a' h1 k1 k2 k3 k4
  | goto l=>exact hQ _ s c' a' h1 k1 k2 k3 k4
  | ret=>exact hQ _ s c' a' h1 k1 k2 k3 k4
  | panic ch=>exact hQ _ s c' a' h1 k1 k2 k3 k4
  | outgrown=>exact hQ _ s c' a' h1 k1 k2 k3 k4
 all_goals first | (cases hc; done) | (split at hc <;> (cases hc; done)) | (obtain ⟨_,_,hc⟩:=hc; first | (cases hc; done) | (split at hc <;> (cases hc; done))) | (split at hc <;> first | (cases hc; done) | (simp only [Option.map_eq_some_iff] at hc; obtain ⟨_,_,hc⟩:=hc; split at hc <;> (cases hc; done)))

theorem QKu {P:Program} {own:List Nat} {code:Code} (hc:QAd P own code = some .skip):code = .skip:=by
 cases code <;> simp only [QAd,Option.map_eq_some_iff,reduceCtorEq,and_false,exists_false] at hc <;> try first | rfl | (exfalso; cases hc; done) | (split at hc <;> (cases hc; done)) | (obtain ⟨_,_,hc⟩:=hc; first | (cases hc; done) | (split at hc <;> (cases hc; done))) | (split at hc <;> first | (cases hc; done) | (simp only [Option.map_eq_some_iff] at hc; obtain ⟨_,_,hc⟩:=hc; split at hc <;> (cases hc; done)))
theorem QL6 {P:Program} {own:List Nat} {code:Code} (hc:QAd P own code = some .ret):code = .ret:=by
 cases code <;> simp only [QAd,Option.map_eq_some_iff,reduceCtorEq,and_false,exists_false] at hc <;> first | rfl | (exfalso; cases hc; done) | (split at hc <;> (cases hc; done)) | (obtain ⟨_,_,hc⟩:=hc; first | (cases hc; done) | (split at hc <;> (cases hc; done))) | (split at hc <;> first | (cases hc; done) | (simp only [Option.map_eq_some_iff] at hc; obtain ⟨_,_,hc⟩:=hc; split at hc <;> (cases hc; done)))
theorem QKv {P:Program} {own:List Nat} {code:Code} {id:Nat} (hc:QAd P own code = some (.exit id)):code = .exit id:=by
 cases code <;> simp only [QAd,Option.map_eq_some_iff,reduceCtorEq,and_false,exists_false] at hc <;> first | (cases hc; done) | (cases hc; rfl) | (split at hc <;> (cases hc; done)) | (obtain ⟨_,_,hc⟩:=hc; first | (cases hc; done) | (split at hc <;> (cases hc; done))) | (split at hc <;> first | (cases hc; done) | (simp only [Option.map_eq_some_iff] at hc; obtain ⟨_,_,hc⟩:=hc; split at hc <;> (cases hc; done)))

theorem QJv {P:Program} {k:Nat} {Q:Exit → St → Prop} {σ:St}:(Q .normal σ → awp P k .skip Q σ) ∧ (Q .ret σ → awp P k .ret Q σ) ∧ ∀ id,Q (.exit id) σ → awp P k (.exit id) Q σ:=by
 refine ⟨fun h own code hc=>?_,fun h own code hc=>?_,fun id h own code hc=>?_⟩
 ·cases QKu hc
  exact fun c a hr hH hF Q hQ=>wp_skip (hQ _ σ c a h hr (.refl k c) hH hF)
 ·cases QL6 hc
  exact fun c a hr hH hF Q hQ=>wp_ret (hQ _ σ c a h hr (.refl k c) hH hF)
 ·cases QKv hc
  exact fun c a hr hH hF Q hQ=>wp_exit (hQ _ σ c a h hr (.refl k c) hH hF)

/-! ### Loops -/
def QRG (P:Program) (c:Code) (Q:Exit → Act → World → Prop):Nat → Act → World → Prop
 | 0,_,_=>False
 | n + 1,a,w=>c.wp P (Exit.then (QRG P c Q n) Q) a w

theorem QRH {P:Program} {c:Code} {Q:Exit → Act → World → Prop} {n:Nat} {a:Act} {w:World} (h:QRG P c Q n a w):(Code.loop c).wp P Q a w:=by
 intro b k cs
 have key:∀ n a w,QRG P c Q n a w → ∃ e a' w',Q e a' w' ∧ Arrives P (lone (b.at a (.code c :: .inLoop c :: k)) cs w) b k cs e a' w':=by
  intro n
  induction n with
  | zero=>intro a w h; exact h.elim
  | succ n ih=>
   intro a w h
   obtain ⟨e,a₁,w₁,hq,harr⟩:=h b (.inLoop c :: k) cs
   cases e with
   | normal=>
    obtain ⟨e₂,a₂,w₂,hq₂,harr₂⟩:=ih a₁ w₁ hq
    exact ⟨e₂,a₂,w₂,hq₂,.of_steps (Steps.trans harr (.one step_inLoop)) harr₂⟩
   | exit id=>exact ⟨_,a₁,w₁,hq,.pass (x:=.inLoop c) rfl (fun _ _=>.inl (by simp)) harr⟩
   | goto l=>exact ⟨_,a₁,w₁,hq,.pass (x:=.inLoop c) rfl (fun _ _=>.inl (by simp)) harr⟩
   | ret=>exact ⟨_,a₁,w₁,hq,.pass (x:=.inLoop c) rfl (fun _ _=>.inl (by simp)) harr⟩
   | panic ch=>exact ⟨_,a₁,w₁,hq,.pass (x:=.inLoop c) rfl (fun _ _=>.inl (by simp)) harr⟩
   | outgrown=>exact ⟨_,a₁,w₁,hq,.pass (x:=.inLoop c) rfl (fun _ _=>.inl (by simp)) harr⟩
 obtain ⟨e,a',w',hq,harr⟩:=key n a w h
 exact ⟨e,a',w',hq,.of_steps (.one step_loop) harr⟩

theorem QM1 {P:Program} {k:Nat} {body:ACode} {Q:Exit → St → Prop} {S:Type} (I:S → St) (m:S → Nat) (ok:S → Prop) {σ:St} (s0:S) (h0:ok s0) (hw:Wk k σ (I s0))
  (h:∀ s,ok s → awp P k body (QJt (fun σ1=>∃ s',ok s' ∧ m s' < m s ∧ Wk k σ1 (I s')) Q) (I s)):awp P k (.loop body) Q σ:=by
 refine QFj hw ?_
 intro own code hc
 cases code <;> simp only [QAd,Option.map_eq_some_iff,reduceCtorEq,and_false,exists_false] at hc
 case loop x=>
  obtain ⟨x',hx,hc⟩:=hc
  cases hc
  have key:∀ (n:Nat) (s:S),ok s → m s < n → ∀ (c:Cx) (a:Act),Rel c → c.H = (I s).H → Fr c (I s).T a → ∀ (Q':Exit → Act → World → Prop),
    (∀ e σ' c' a',Q e σ' → Rel c' → ExtN k c c' → c'.H = σ'.H → Fr c' σ'.T a' → Q' e a' c'.w) → QRG P x Q' n a c.w:=by
   intro n
   induction n with
   | zero=>intro s _ hm; omega
   | succ n ih=>
    intro s hok hm c a hr hH hF Q' hQ
    refine h s hok own x hx c a hr hH hF _ fun e σ1 c' a' h1 k1 k2 k3 k4=>?_
    cases e with
    | normal=>
     obtain ⟨s',hok',hlt,hwk⟩:=h1
     obtain ⟨c1,j1,j2,j3,j4,j5⟩:=hwk c' a' k1 k3 k4
     have:=ih s' hok' (by omega) c1 a' j2 j4 j5 Q' fun e2 σ2 c2 a2 i0 i1 i2 i3 i4=>hQ e2 σ2 c2 a2 i0 i1 (k2.trans (j3.trans i2)) i3 i4
     rw [j1] at this
     exact this
    | exit i=>exact hQ _ σ1 c' a' h1 k1 k2 k3 k4
    | goto l=>exact hQ _ σ1 c' a' h1 k1 k2 k3 k4
    | ret=>exact hQ _ σ1 c' a' h1 k1 k2 k3 k4
    | panic ch=>exact hQ _ σ1 c' a' h1 k1 k2 k3 k4
    | outgrown=>exact hQ _ σ1 c' a' h1 k1 k2 k3 k4
  exact fun c a hr hH hF Q hQ=>QRH (key (m s0 + 1) s0 h0 (by omega) c a hr hH hF Q hQ)
 all_goals first | (cases hc; done) | (split at hc <;> (cases hc; done)) | (obtain ⟨_,_,hc⟩:=hc; first | (cases hc; done) | (split at hc <;> (cases hc; done))) | (split at hc <;> first | (cases hc; done) | (simp only [Option.map_eq_some_iff] at hc; obtain ⟨_,_,hc⟩:=hc; split at hc <;> (cases hc; done)))

end Go.Ab
namespace Go.Ab
open Go
set_option linter.unusedSectionVars false
variable [Glob]

inductive QIv where
 | tmp (t:Nat)
 | cell (t:Nat) (n:Option Nat)

structure AFn where
 body:ACode
 nt:Nat
 res:List QIv

def QCW (P:Program):List ResultVar → Option (List QIv)
 | []=>some []
 | .tmp t :: r=>(QCW P r).map (.tmp t :: ·)
 | .cell t ty :: r=>(match QDo P ty,QCW P r with | some n,some l=>some (.cell t n :: l) | _,_=>none)

def QAg (P:Program) (own:List Nat) (f:Nat):Option AFn:=
 match P.funcs[f]? with
 | some fn=>if fn.name = "runtime.NumGoroutine" then none else (match fn.body with
  | some code=>(match QAd P own code,QCW P fn.results.toList with
   | some b,some r=>some ⟨b,fn.ntmps,r⟩
   | _,_=>none)
  | none=>none)
 | none=>none

def QH9 (T:List AV) (H:List AObj):List QIv → (List AV → Prop) → Prop
 | [],K=>K []
 | .tmp t :: r,K=>QH9 T H r fun xs=>K ((T[t]?).getD .junk :: xs)
 | .cell t n :: r,K=>QHo n ((T[t]?).getD .junk) H fun _ _ v=>QH9 T H r fun xs=>K (v :: xs)

def QBG:List AV → AV
 | [x]=>x
 | xs=>.tup xs

/- What a value may be told as, once the function has returned: of the objects, the first k0 stay, then those in 'ex'. -/
mutual
inductive Conv (H:List AObj) (k0:Nat) (ex:List Nat):AV → AV → Prop
 | same (x:AV):QAE k0 x = true → Conv H k0 ex x x
 | junk (x:AV):Conv H k0 ex x .junk
 | frz (o n e sz:Nat) (l l':List (List AV)):k0 ≤ o → o ∉ ex → H[o]? = some (.reg e sz l) → n = l.length → QDB H k0 ex l l' → Conv H k0 ex (.own o n) (.imm l')
 | nils:Conv H k0 ex .nils (.imm [])
 | keep (i o n:Nat):ex[i]? = some o → Conv H k0 ex (.own o n) (.own (k0 + i) n)
 | agg (xs ys:List AV):QEJ H k0 ex xs ys → Conv H k0 ex (.agg xs) (.agg ys)
 | tup (xs ys:List AV):QEJ H k0 ex xs ys → Conv H k0 ex (.tup xs) (.tup ys)
 | fbx (o off e:Nat) (cs cs':List AV):k0 ≤ o → o ∉ ex → H[o]? = some (.box e cs) → QEJ H k0 ex cs cs' → Conv H k0 ex (.ptr o off) (.iptr (cs'.drop off))
 | fn (f:Fn) (fs fs' cs cs':List AV):QEJ H k0 ex fs fs' → QEJ H k0 ex cs cs' → Conv H k0 ex (.fn f fs cs) (.fn f fs' cs')
inductive QEJ (H:List AObj) (k0:Nat) (ex:List Nat):List AV → List AV → Prop
 | nil:QEJ H k0 ex [] []
 | cons (x y:AV) (xs ys:List AV):Conv H k0 ex x y → QEJ H k0 ex xs ys → QEJ H k0 ex (x :: xs) (y :: ys)
inductive QDB (H:List AObj) (k0:Nat) (ex:List Nat):List (List AV) → List (List AV) → Prop
 | nil:QDB H k0 ex [] []
 | cons (x y:List AV) (xs ys:List (List AV)):QEJ H k0 ex x y → QDB H k0 ex xs ys → QDB H k0 ex (x :: xs) (y :: ys)
end

theorem QCQ {H:List AObj} {k0:Nat} {ex:List Nat}:∀ {l:List AV},QAB k0 l = true → QEJ H k0 ex l l
 | [],_=>.nil
 | x :: xs,h=>by simp only [QAB,Bool.and_eq_true] at h; exact .cons _ _ _ _ (.same x h.1) (QCQ h.2)
theorem QBY {H:List AObj} {k0:Nat} {ex:List Nat}:∀ {l:List (List AV)},QAb k0 l = true → QDB H k0 ex l l
 | [],_=>.nil
 | x :: xs,h=>by simp only [QAb,Bool.and_eq_true] at h; exact .cons _ _ _ _ (QCQ h.1) (QBY h.2)

def QFt (H:List AObj) (k0:Nat) (ex:List Nat) (x y:AObj):Prop:=
 match x,y with
 | .unborn,.unborn=>True
 | .dead,.dead=>True
 | .box e cs,.box e' cs'=>e' = e ∧ QEJ H k0 ex cs cs'
 | .reg e sz l,.reg e' sz' l'=>e' = e ∧ sz' = sz ∧ QDB H k0 ex l l'
 | .map kvs,.map kvs'=>kvs' = kvs ∧ ∀ p ∈ kvs,QB7 p.1 = false → QAE k0 p.1 = true ∧ QAE k0 p.2 = true
 | .iter m s l,.iter m' s' l'=>m' = m ∧ s' = s ∧ l' = l ∧ m < k0
 | _,_=>False

structure QEY (H:List AObj) (k0:Nat) (ex:List Nat) (H':List AObj):Prop where
 le:k0 ≤ H.length
 len:H'.length = k0 + ex.length
 nodup:ex.Nodup
 high:∀ o ∈ ex,k0 ≤ o ∧ o < H.length
 low:∀ (o:Nat) (x y:AObj),o < k0 → H[o]? = some x → H'[o]? = some y → QFt H k0 ex x y
 ext:∀ (i o:Nat) (x y:AObj),ex[i]? = some o → H[o]? = some x → H'[k0 + i]? = some y → QFt H k0 ex x y

def QQv (c:Cx) (k0:Nat) (ex:List Nat):List Value:=c.μ.take k0 ++ ex.map fun o=>(c.μ[o]?).getD (.pointer none)

def QHm (c:Cx) (k0:Nat) (ex:List Nat) (H':List AObj):Cx:=
 ⟨fun b=>c.F b ∨ ∃ o,k0 ≤ o ∧ o ∉ ex ∧ QBi c o b,QQv c k0 ex,H',c.w⟩

theorem QJw {c:Cx} {k0 o:Nat} {ex:List Nat} (h:o < k0) (hl:k0 ≤ c.μ.length):(QQv c k0 ex)[o]? = c.μ[o]?:=by
 unfold QQv
 rw [List.getElem?_append_left (by rw [List.length_take]; omega),List.getElem?_take_of_lt h]

theorem QPC {c:Cx} {k0 i o:Nat} {ex:List Nat} (h:ex[i]? = some o) (hl:k0 ≤ c.μ.length) (ho:o < c.μ.length):(QQv c k0 ex)[k0 + i]? = c.μ[o]?:=by
 unfold QQv
 have hlen:(c.μ.take k0).length = k0:=by rw [List.length_take]; omega
 rw [List.getElem?_append_right (by omega),hlen,Nat.add_sub_cancel_left,List.getElem?_map,h]
 simp [ho]

theorem QC0 {H:List AObj} {k0:Nat} {ex:List Nat}:∀ {l l':List (List AV)},QDB H k0 ex l l' → l'.length = l.length
 | _,_,.nil=>rfl
 | _,_,.cons _ _ _ _ _ h=>by simp [QC0 h]
theorem QDQ {H:List AObj} {k0:Nat} {ex:List Nat}:∀ {l l':List AV},QEJ H k0 ex l l' → l'.length = l.length
 | _,_,.nil=>rfl
 | _,_,.cons _ _ _ _ _ h=>by simp [QDQ h]

section ret
variable {c:Cx} {k0:Nat} {ex:List Nat} {H':List AObj}

theorem QI7 (hH:QEY c.H k0 ex H') {o:Nat} {x:AObj} (ho:o < k0) (hx:c.H[o]? = some x):∃ y,H'[o]? = some y ∧ QFt c.H k0 ex x y:=by
 have hlt:o < H'.length:=by rw [hH.len]; omega
 exact ⟨H'[o],List.getElem?_eq_getElem hlt,hH.low o x _ ho hx (List.getElem?_eq_getElem hlt)⟩

theorem QGF (hr:Rel c) (hH:QEY c.H k0 ex H'):QWe k0 c (QHm c k0 ex H'):=by
 refine ⟨fun b hb=>.inl hb,fun b _=>rfl,fun o x ho hx=>?_⟩
 obtain ⟨y,hy,hc⟩:=QI7 hH ho hx
 refine ⟨y,hy,?_⟩
 show OStep x y c.μ[o]? (QQv c k0 ex)[o]?
 rw [QJw ho (by rw [hr.len]; exact hH.le)]
 cases x <;> cases y <;> simp only [QFt] at hc <;> simp only [OStep]
 ·exact ⟨hc.1,trivial⟩
 ·obtain ⟨rfl,rfl,hl⟩:=hc
  have:=QC0 hl
  exact ⟨rfl,rfl,by omega,fun _=>trivial⟩
 ·exact ⟨hc.1,hc.2.1,trivial⟩

mutual
theorem QFO (hr:Rel c) (hH:QEY c.H k0 ex H'):∀ {x y:AV} {v:Value},Conv c.H k0 ex x y → Val c x v → Val (QHm c k0 ex H') y v
 | _,_,v,.same x hc,hv=>QHI (QGF hr hH) x v hc hv
 | _,_,v,.junk x,_=>QDN _ _
 | _,_,v,.frz o n e sz l l' ho hex hx hn hl,hv=>by
  obtain ⟨h1,h2⟩:=QFm hr hv hx hn
  have hll:=QC0 hl
  simp only [Val]
  rcases h2 with ⟨rfl,rfl⟩ | ⟨g,o0,cap,cur,rfl,h3,h4,h5,h6,h7⟩
  ·refine .inr ⟨List.eq_nil_of_length_eq_zero (by simpa using hll),none,0,rfl⟩
  ·exact .inl ⟨g,o0,cap,sz,by rw [hll],.inr ⟨o,ho,hex,_,_,hx,rfl,h1,rfl⟩,by omega,QIA hr hH hl h7⟩
 | _,_,v,.nils,hv=>by simp only [Val] at hv; subst hv; simp only [Val]; exact .inr ⟨trivial,none,0,rfl⟩
 | _,_,v,.keep i o n hi,hv=>by
  simp only [Val] at hv ⊢
  obtain ⟨h0,hv⟩:=hv
  refine ⟨h0,?_⟩
  have hio:=List.mem_of_getElem? hi
  obtain ⟨ho1,ho2⟩:=hH.high o hio
  have hil:i < ex.length:=(List.getElem?_eq_some_iff.1 hi).1
  have hlt:k0 + i < H'.length:=by rw [hH.len]; omega
  have hmu:=QPC (c:=c) (k0:=k0) hi (by rw [hr.len]; exact hH.le) (by rw [hr.len]; exact ho2)
  rcases hv with ⟨e,sz,l,h1,h2,h3⟩ | h1
  ·have hc:=hH.ext i o _ _ hi h1 (List.getElem?_eq_getElem hlt)
   cases hy:H'[k0 + i] <;> rw [hy] at hc <;> simp only [QFt] at hc
   rename_i e' sz' l'
   obtain ⟨rfl,rfl,hl⟩:=hc
   have hll:=QC0 hl
   refine .inl ⟨e',sz',l',?_,by omega,fun hn=>?_⟩
   ·show H'[k0 + i]? = _
    rw [List.getElem?_eq_getElem hlt,hy]
   ·show (QQv c k0 ex)[k0 + i]? = some v
    rw [hmu]; exact h3 (by omega)
  ·have hc:=hH.ext i o _ _ hi h1 (List.getElem?_eq_getElem hlt)
   cases hy:H'[k0 + i] <;> rw [hy] at hc <;> simp only [QFt] at hc
   refine .inr ?_
   show H'[k0 + i]? = _
   rw [List.getElem?_eq_getElem hlt,hy]
 | _,_,v,.agg xs ys h,hv=>by
  simp only [Val] at hv ⊢
  obtain ⟨vs,h1,h2,h3⟩:=hv
  exact ⟨vs,h1,QEy hr hH h h2,h3⟩
 | _,_,v,.tup xs ys h,hv=>by
  simp only [Val] at hv ⊢
  obtain ⟨vs,h1,h2⟩:=hv
  exact ⟨vs,h1,QEy hr hH h h2⟩
 | _,_,v,.fbx o off e cs cs' ho hex hx hl,hv=>by
  simp only [Val] at hv ⊢
  obtain ⟨e',cs0,b,h1,h2,h3⟩:=hv
  rw [hx] at h1; cases h1
  obtain ⟨b',arr,h4,h5,h6,h7⟩:=hr.obj _ _ hx
  rw [h2] at h4; cases h4
  refine ⟨b,off,h3,.inr ⟨o,ho,hex,_,_,hx,rfl,h2,rfl⟩,?_⟩
  have:=QDF (QFP hr hH hl h7) off
  rwa [Nat.zero_add] at this
 | _,_,v,.fn f fs fs' cs cs' h1 h2,hv=>by
  simp only [Val] at hv ⊢
  obtain ⟨vf,vc,h3,h4,h5⟩:=hv
  exact ⟨vf,vc,h3,QEy hr hH h1 h4,QEy hr hH h2 h5⟩
theorem QEy (hr:Rel c) (hH:QEY c.H k0 ex H'):∀ {xs ys:List AV} {vs:List Value},QEJ c.H k0 ex xs ys → QA3 c xs vs → QA3 (QHm c k0 ex H') ys vs
 | _,_,vs,.nil,hv=>by simpa only [QA3] using hv
 | _,_,vs,.cons x y xs ys h hs,hv=>by
  simp only [QA3] at hv ⊢
  obtain ⟨v,vs',h1,h2,h3⟩:=hv
  exact ⟨v,vs',h1,QFO hr hH h h2,QEy hr hH hs h3⟩
theorem QFP (hr:Rel c) (hH:QEY c.H k0 ex H'):∀ {xs ys:List AV} {b off:Nat},QEJ c.H k0 ex xs ys → QBN c xs b off → QBN (QHm c k0 ex H') ys b off
 | _,_,_,_,.nil,_=>by simp only [QBN]
 | _,_,_,_,.cons x y xs ys h hs,hv=>by
  simp only [QBN] at hv ⊢
  obtain ⟨⟨v,h1,h2,h3⟩,h4⟩:=hv
  exact ⟨⟨v,h1,h2,QFO hr hH h h3⟩,QFP hr hH hs h4⟩
theorem QIA (hr:Rel c) (hH:QEY c.H k0 ex H'):∀ {xs ys:List (List AV)} {b off sz:Nat},QDB c.H k0 ex xs ys → QAh c xs b off sz → QAh (QHm c k0 ex H') ys b off sz
 | _,_,_,_,_,.nil,_=>by simp only [QAh]
 | _,_,_,_,_,.cons x y xs ys h hs,hv=>by
  simp only [QAh] at hv ⊢
  exact ⟨by rw [QDQ h]; exact hv.1,QFP hr hH h hv.2.1,QIA hr hH hs hv.2.2⟩
end

theorem QPD (hr:Rel c) (hH:QEY c.H k0 ex H') {i:Nat} {y:AObj} (hy:H'[i]? = some y):∃ o x,c.H[o]? = some x ∧ (QQv c k0 ex)[i]? = c.μ[o]? ∧ QFt c.H k0 ex x y ∧ (i < k0 ∧ o = i ∨ k0 ≤ i ∧ ex[i - k0]? = some o):=by
 have hlt:i < H'.length:=(List.getElem?_eq_some_iff.1 hy).1
 have hle:k0 ≤ c.μ.length:=by rw [hr.len]; exact hH.le
 by_cases hi:i < k0
 ·have hxl:i < c.H.length:=Nat.lt_of_lt_of_le hi hH.le
  exact ⟨i,_,List.getElem?_eq_getElem hxl,QJw hi hle,hH.low i _ _ hi (List.getElem?_eq_getElem hxl) hy,.inl ⟨hi,rfl⟩⟩
 ·have hil:i - k0 < ex.length:=by rw [hH.len] at hlt; omega
  have hio:ex[i - k0]? = some ex[i - k0]:=List.getElem?_eq_getElem hil
  obtain ⟨ho1,ho2⟩:=hH.high _ (List.mem_of_getElem? hio)
  have hki:k0 + (i - k0) = i:=by omega
  have:=QPC (c:=c) (k0:=k0) hio hle (by rw [hr.len]; exact ho2)
  rw [hki] at this
  exact ⟨_,_,List.getElem?_eq_getElem ho2,this,hH.ext _ _ _ _ hio (List.getElem?_eq_getElem ho2) (by rw [hki]; exact hy),.inr ⟨by omega,hio⟩⟩

theorem QDl (hr:Rel c) (hH:QEY c.H k0 ex H') {i b:Nat} (h:QBi (QHm c k0 ex H') i b):∃ o,QBi c o b ∧ (i < k0 ∧ o = i ∨ k0 ≤ i ∧ ex[i - k0]? = some o):=by
 obtain ⟨y,v,h1,h2,h3,h4⟩:=h
 obtain ⟨o,x,h5,h6,h7,h8⟩:=QPD hr hH h1
 refine ⟨o,⟨x,v,h5,?_,h6 ▸ h3,h4⟩,h8⟩
 cases x <;> cases y <;> simp [QFt] at h7 <;> first | rfl | exact h2

theorem QJx (hr:Rel c) (hH:QEY c.H k0 ex H'):Rel (QHm c k0 ex H'):=by
 have hle:k0 ≤ c.μ.length:=by rw [hr.len]; exact hH.le
 refine ⟨?_,?_,?_,?_,?_,hr.gl,hr.gb,fun i b hi=>?_⟩
 ·show (QQv c k0 ex).length = H'.length
  rw [hH.len,QQv,List.length_append,List.length_take,List.length_map]; omega
 ·intro i y hy
  obtain ⟨o,x,h1,h2,h3,h4⟩:=QPD hr hH hy
  have hx:=hr.obj o x h1
  cases x <;> cases y <;> simp only [QFt] at h3
  ·trivial
  ·trivial
  ·obtain ⟨rfl,h3⟩:=h3
   obtain ⟨b,arr,h5,h6,h7,h8⟩:=hx
   exact ⟨b,arr,h2.trans h5,h6,by rw [QDQ h3]; exact h7,QFP hr hH h3 h8⟩
  ·obtain ⟨rfl,rfl,hl⟩:=h3
   obtain ⟨v,h5,h6⟩:=hx
   have hll:=QC0 hl
   refine ⟨v,h2.trans h5,h6.imp ?_ ?_⟩
   ·rintro ⟨rfl,rfl⟩
    exact ⟨rfl,List.eq_nil_of_length_eq_zero (by simpa using hll)⟩
   ·rintro ⟨g,o0,cap,cur,rfl,h7,h8,h9,h10,h11⟩
    exact ⟨g,o0,cap,cur,by rw [hll],h7,by omega,h9,h10,QIA hr hH hl h11⟩
  ·obtain ⟨rfl,hcl⟩:=h3
   obtain ⟨r,es,h5,h6,h7⟩:=hx
   exact ⟨r,es,h2.trans h5,h6,QVb (QGF hr hH) _ _ _ hcl h7⟩
  ·obtain ⟨rfl,rfl,rfl,hlt⟩:=h3
   obtain ⟨b,r,kvs,h5,h6,h7,h9⟩:=hx
   obtain ⟨z,hz,hcz⟩:=QI7 hH hlt h7
   cases z <;> simp only [QFt] at hcz
   exact ⟨b,r,_,h2.trans h5,h6,hz,(QJw hlt hle).trans h9⟩
 ·intro i j b hi hj
  obtain ⟨o,h1,h2⟩:=QDl hr hH hi
  obtain ⟨p,h3,h4⟩:=QDl hr hH hj
  have hop:=hr.inj _ _ _ h1 h3
  subst hop
  rcases h2 with ⟨h5,rfl⟩ | ⟨h5,h6⟩ <;> rcases h4 with ⟨h7,rfl⟩ | ⟨h7,h8⟩
  ·rfl
  ·have:=(hH.high _ (List.mem_of_getElem? h8)).1; omega
  ·have:=(hH.high _ (List.mem_of_getElem? h6)).1; omega
  ·have:=(List.getElem?_inj (List.getElem?_eq_some_iff.1 h6).1 hH.nodup).1 (h6.trans h8.symm)
   omega
 ·intro i b hi hf
  obtain ⟨o,h1,h2⟩:=QDl hr hH hi
  rcases hf with hf | ⟨p,h3,h4,h5⟩
  ·exact hr.free _ _ h1 hf
  ·have hop:=hr.inj _ _ _ h1 h5
   subst hop
   rcases h2 with ⟨h6,rfl⟩ | ⟨h6,h7⟩
   ·omega
   ·exact h4 (List.mem_of_getElem? h7)
 ·intro b hf
  rcases hf with hf | ⟨p,_,_,h5⟩
  ·exact hr.lt b hf
  ·exact QDZ hr h5
 ·obtain ⟨o,h1,_⟩:=QDl hr hH hi
  exact hr.go _ _ h1

theorem QL7 (hr:Rel c) (hH:QEY c.H k0 ex H') {c0:Cx} (hk:c0.H.length = k0) (hE:ExtN k0 c0 c):Ext c0 (QHm c k0 ex H') where
 fr:=fun b hb=>.inl (hE.fr b hb)
 frn:=fun b hb=>by
  rcases hb with hb | ⟨o,_,_,h3⟩
  ·exact hE.frn b hb
  ·exact .inr (hE.own o b h3)
 keep:=hE.keep
 size:=hE.size
 os:=hE.os
 tape:=hE.tape
 output:=hE.output
 own:=fun i b hi=>by
  obtain ⟨o,h1,_⟩:=QDl hr hH hi
  exact hE.own o b h1
 obj:=fun o x hx=>by
  have hlt:o < k0:=by rw [← hk]; exact (List.getElem?_eq_some_iff.1 hx).1
  obtain ⟨y,hy,hs⟩:=hE.obj o x hlt hx
  obtain ⟨z,hz,hs2⟩:=(QGF hr hH).obj o y hlt hy
  exact ⟨z,hz,hs.trans hs2⟩
end ret

def QSp (k0:Nat) (res:List QIv) (av:AV) (H':List AObj):Exit → St → Prop
 | .normal,σ | .ret,σ=>QH9 σ.T σ.H res fun xs=>∃ ex,QEY σ.H k0 ex H' ∧ Conv σ.H k0 ex (QBG xs) av
 | _,_=>False

def QKw (a:Act):ResultVar → Sem Value
 | .tmp t=>Pure.pure (a.tmps.getD t undef)
 | .cell ad t=>do loadVar t (← asAddr (a.tmps.getD ad undef))

theorem QGG {P:Program} {c:Cx} {a:Act} {T:List AV} (hr:Rel c) (hF:Fr c T a):∀ (rs:List ResultVar) (l:List QIv) (K:List AV → Prop),QCW P rs = some l → QH9 T c.H l K →
  ∃ xs vs,K xs ∧ QA3 c xs vs ∧ (rs.mapM (QKw a)).run P c.w = .ok vs c.w
 | [],l,K,hc,h=>by
  simp [QCW] at hc
  subst hc
  exact ⟨[],[],h,by simp [QA3],by simp⟩
 | .tmp t :: r,l,K,hc,h=>by
  simp only [QCW] at hc
  cases hl:QCW P r with
  | none=>simp [hl] at hc
  | some l'=>
   simp [hl] at hc
   subst hc
   obtain ⟨xs,vs,h1,h2,h3⟩:=QGG hr hF r l' _ hl h
   refine ⟨_,a.tmps.getD t undef :: vs,h1,by simp only [QA3]; exact ⟨_,_,rfl,hF.2.2 t,h2⟩,?_⟩
   rw [List.mapM_cons]
   simp only [QKw,Sem.run_bind,Sem.run_pure,Result.andThen_ok,h3]
 | .cell t ty :: r,l,K,hc,h=>by
  simp only [QCW] at hc
  split at hc
  ·rename_i n l' hn hl
   cases hc
   simp only [QH9] at h
   -- the load
   have hV:=hF.2.2 t
   have hload:∃ val,QH9 T c.H l' (fun xs=>K (val :: xs)) ∧ ∃ ad v,a.tmps.getD t undef = .pointer (some ad) ∧ (loadVar ty ad).run P c.w = .ok v c.w ∧ Val c val v:=by
    have strip:∀ {b off:Nat} {v:Value},(Instr.loadAt ty (.pointer (some ⟨b,off,none⟩))).run P c.w = .ok v c.w → (loadVar ty ⟨b,off,none⟩).run P c.w = .ok v c.w:=fun h=>by
     simpa [Instr.loadAt,Instr.sureAddr] using h
    unfold QHo at h
    split at h
    ·rename_i ob off hb
     split at h
     ·rename_i e cs hH
      obtain ⟨val,hk,hld⟩:=QIQ h
      rw [hb] at hV; simp only [Val] at hV
      obtain ⟨e',cs',b,h2,h3,h4⟩:=hV
      obtain ⟨b',arr,h5,h6,h7,h8⟩:=hr.obj _ _ hH
      rw [h3] at h5; simp at h5; subst h5
      have h9:=QDF h8 off
      rw [Nat.zero_add] at h9
      obtain ⟨val',rfl,v,hv1,hv2⟩:=QJL (P:=P) hn h9 hld
      exact ⟨_,hk,_,v,h4,strip hv1,hv2⟩
     ·exact h.elim
    ·rename_i cs hb
     obtain ⟨val,hk,hld⟩:=QIQ h
     rw [hb] at hV; simp only [Val] at hV
     obtain ⟨b,off,h2,h3,h4⟩:=hV
     obtain ⟨val',rfl,v,hv1,hv2⟩:=QJL (P:=P) hn h4 hld
     exact ⟨_,hk,_,v,h2,strip hv1,hv2⟩
    ·rename_i ob m i off hb
     split at h
     ·rename_i e sz l hH
      obtain ⟨hm,h⟩:=h
      split at h
      ·rename_i row hrow
       obtain ⟨val,hk,hld⟩:=QIQ h
       rw [hb] at hV; simp only [Val] at hV
       obtain ⟨_,hV⟩:=hV
       rcases hV with ⟨e',sz',l',h2,h3,h4⟩ | h1
       ·rw [hH] at h2; simp at h2; obtain ⟨rfl,rfl,rfl⟩:=h2
        obtain ⟨g,len,cap,o0,h5,h6⟩:=h4 hm
        obtain ⟨v0,h7,h8⟩:=hr.obj _ _ hH
        rw [h5] at h7; simp at h7; subst h7
        rcases h8 with ⟨h8,_⟩ | ⟨g',o1,cap',cur,h8,h9,h10,h11,h12,h13⟩
        ·cases h8
        ·simp at h8; obtain ⟨⟨rfl,rfl⟩,rfl,rfl⟩:=h8
         have h14:=QDF ((QA9.1 h13 i row hrow).2) off
         rw [Nat.add_assoc] at h14
         obtain ⟨val',rfl,v,hv1,hv2⟩:=QJL (P:=P) hn h14 hld
         exact ⟨_,hk,_,v,h6,strip hv1,hv2⟩
       ·rw [hH] at h1; cases h1
      ·exact h.elim
     ·exact h.elim
    ·exact h.elim
   obtain ⟨val,hk,ad,v,h1,h2,h3⟩:=hload
   obtain ⟨xs,vs,h4,h5,h6⟩:=QGG hr hF r l' _ hl hk
   refine ⟨_,v :: vs,h4,by simp only [QA3]; exact ⟨_,_,rfl,h3,h5⟩,?_⟩
   rw [List.mapM_cons]
   simp only [QKw,Sem.run_bind,h1,asAddr,Sem.run_pure,Result.andThen_ok,h2,h6]
  ·cases hc

theorem QJy {P:Program} {own:List Nat} {f:Nat} {fn:AFn} {as:List AV} {H:List AObj} {R:AV → List AObj → Prop} (hf:QAg P own f = some fn)
  (h:awp P H.length fn.body (fun e σ=>∃ av H',R av H' ∧ QSp H.length fn.res av H' e σ) ⟨as ++ List.replicate (fn.nt - as.length) .junk,H⟩):ACallsR P f as H R:=by
 unfold QAg at hf
 split at hf
 ·rename_i g hg
  split at hf
  ·cases hf
  ·rename_i hname
   split at hf
   ·rename_i code hcode
    split at hf
    ·rename_i b r hb hres
     cases hf
     refine ⟨by simp [QEH,hg,hname,hcode],fun c vs hH hr hv=>?_⟩
     have hlen:=QCN hv
     have hF:Fr c (as ++ List.replicate (g.ntmps - as.length) .junk) { tmps:=vs.toArray ++ Array.replicate (g.ntmps - vs.toArray.size) undef,defers:=[] }:=by
      refine ⟨by simp [hlen],rfl,fun n=>?_⟩
      by_cases hn:n < as.length
      ·have hn':n < vs.length:=by omega
       have:=(QBv.1 hv).2 n _ _ (List.getElem?_eq_getElem hn) (List.getElem?_eq_getElem hn')
       simp only [Array.getD_eq_getD_getElem?]
       rw [List.getElem?_append_left hn,List.getElem?_eq_getElem hn,Array.getElem?_append_left (by simpa using hn')]
       simpa [hn'] using this
      ·rw [List.getElem?_append_right (by omega)]
       have:((List.replicate (g.ntmps - as.length) AV.junk)[n - as.length]?).getD .junk = .junk:=by
        rw [List.getElem?_replicate]; split <;> rfl
       rw [this]
       exact QDN _ _
     have key:∀ (σ':St) (av:AV) (H':List AObj) (c':Cx) (a':Act),R av H' → Rel c' → ExtN H.length c c' → c'.H = σ'.H → Fr c' σ'.T a' → (QH9 σ'.T σ'.H r fun xs=>∃ ex,QEY σ'.H H.length ex H' ∧ Conv σ'.H H.length ex (QBG xs) av) →
       a'.defers = [] ∧ ∃ v,(results g a'.tmps).run P c'.w = .ok v c'.w ∧ ∃ v' c2 av,Ending.returned v = .returned v' ∧ c2.w = c'.w ∧ R av c2.H ∧ Rel c2 ∧ Ext c c2 ∧ Val c2 av v':=by
      intro σ' av H' c' a' hR h1 h2 h3 h4 h5
      rw [← h3] at h5
      obtain ⟨xs,us,⟨ex,h6,h7⟩,h8,h9⟩:=QGG h1 h4 _ _ _ hres h5
      refine ⟨h4.2.1,if h:us.toArray.size = 1 then us.toArray[0] else .tuple us.toArray,?_,?_⟩
      ·have e:results g a'.tmps = (do let vs ← g.results.mapM (QKw a'); Pure.pure (if h:vs.size = 1 then vs[0] else .tuple vs)):=rfl
       rw [e,Array.mapM_eq_mapM_toList]
       simp only [Sem.run_bind,Sem.run_map,h9,Result.andThen_ok,Sem.run_pure]
      ·refine ⟨_,QHm c' H.length ex H',av,rfl,rfl,hR,QJx h1 h6,QL7 h1 h6 (by rw [hH]) h2,QFO h1 h6 h7 ?_⟩
       have hxl:=QCN h8
       match xs,us,h8,hxl with
       | [],[],h8,_=>simp only [QBG,Val]; exact ⟨_,by simp; rfl,by simpa using h8⟩
       | [x],[u],h8,_=>
        simp only [QA3] at h8
        obtain ⟨v,vs',h10,h11,_⟩:=h8
        cases h10
        simpa [QBG] using h11
       | x :: y :: r',u :: u' :: us',h8,_=>simp only [QBG,Val]; exact ⟨_,by simp; rfl,by simpa using h8⟩
     refine calls_of_wp hg hcode (h own code hb c _ hr hH hF _ fun e σ' c' a' ⟨av,H',hR,hQ⟩ h1 h2 h3 h4=>?_)
     cases e with
     | normal=>exact key σ' av H' c' a' hR h1 h2 h3 h4 hQ
     | ret=>exact key σ' av H' c' a' hR h1 h2 h3 h4 hQ
     | _=>exact hQ.elim
    ·cases hf
   ·cases hf
 ·cases hf

theorem QHQ {P:Program} {own:List Nat} {f:Nat} {fn:AFn} {as:List AV} {H H':List AObj} {av:AV} (hf:QAg P own f = some fn)
  (h:awp P H.length fn.body (QSp H.length fn.res av H') ⟨as ++ List.replicate (fn.nt - as.length) .junk,H⟩):ACalls P f as H av H':=
 (QJy (R:=fun v G=>v = av ∧ G = H') hf (QDM h fun _ _ h=>⟨av,H',⟨rfl,rfl⟩,h⟩)).one

end Go.Ab
namespace Go.Ab
open Go
set_option linter.unusedSectionVars false
variable [Glob]

def QKx:AV → Bool
 | .int .. | .bool _ | .str _ | .nilp | .nils | .nilm | .nilf=>true
 | _=>false
def QWn:AV → Bool
 | .agg cs=>cs.all QKx
 | .tup cs=>cs.all fun x=>QKx x || (match x with | .agg ds=>ds.all QKx | _=>false)
 | x=>QKx x

theorem QWo (H:List AObj):QEY H 0 [] []:=⟨Nat.zero_le _,rfl,List.nodup_nil,by simp,by intro o x y h; omega,by simp⟩

theorem ACallsR.pure {P:Program} {f:Nat} {as:List AV} {R:AV → List AObj → Prop} (h:ACallsR P f as [] R) (H:List AObj) (ha:QAB 0 as = true) (hvR:∀ v G,R v G → QAE 0 v = true ∧ G = []):ACallsR P f as H (fun v G=>R v [] ∧ G = H):=by
 refine ⟨h.1,fun c vs hH hr hvs=>?_⟩
 have hre:Rel (⟨c.F,[],[],c.w⟩:Cx):=⟨rfl,by simp,fun o o' b h=>by obtain ⟨x,v,h1,_⟩:=h; simp at h1,fun o b h=>by obtain ⟨x,v,h1,_⟩:=h; simp at h1,hr.lt,hr.gl,hr.gb,fun o b h=>by obtain ⟨x,v,h1,_⟩:=h; simp at h1⟩
 have hin:QA3 (⟨c.F,[],[],c.w⟩:Cx) as vs:=QEo (n:=0) (c:=c) (c':=⟨c.F,[],[],c.w⟩) ⟨fun _ h=>h,fun _ _=>rfl,fun o x h=>by omega⟩ as vs ha hvs
 refine (h.2 ⟨c.F,[],[],c.w⟩ vs rfl hre hin).mono fun e w' hq=>?_
 obtain ⟨v,ce,av,h1,h2,h3,h4,h5,h6⟩:=hq
 obtain ⟨hv,hG⟩:=hvR _ _ h3
 rw [hG] at h3
 have hno:∀ o b,¬ QBi (⟨c.F,[],[],c.w⟩:Cx) o b:=fun o b h=>by obtain ⟨x,v,h1,_⟩:=h; simp at h1
 obtain ⟨g1,g2⟩:=QEf hr (F':=ce.F) (w':=ce.w) h5.fr (fun b hb=>by
   rcases h5.frn b hb with h | h | ⟨o,h⟩
   ·exact .inl h
   ·exact .inr ⟨h,h4.lt b hb⟩
   ·exact (hno o b h).elim) (fun b hb=>h5.keep b hb (fun o=>hno o b)) h5.size h5.os h5.tape h5.output
 refine ⟨v,⟨ce.F,c.μ,c.H,ce.w⟩,av,h1,h2,⟨h3,hH⟩,g1,g2,?_⟩
 exact QHI (n:=0) (c:=ce) (c':=⟨ce.F,c.μ,c.H,ce.w⟩) ⟨fun _ h=>h,fun _ _=>rfl,fun o x h=>by omega⟩ av v hv h6

theorem ACalls.pure {P:Program} {f:Nat} {as:List AV} {av:AV} (h:ACalls P f as [] av []) (H:List AObj) (ha:QAB 0 as = true) (hv:QAE 0 av = true):ACalls P f as H av H:=
 ((ACallsR.pure h.toR H ha fun _ _ h=>by rw [h.1]; exact ⟨hv,h.2⟩).mono fun _ _ h=>⟨h.1.1,h.2⟩).one

theorem ACallsR.push {P:Program} {f:Nat} {as:List AV} {H:List AObj} {R:AV → List AObj → Prop} (h:ACallsR P f as (H ++ [.unborn]) R):ACallsR P f as H R:=by
 refine ⟨h.1,fun c vs hH hr hvs=>?_⟩
 obtain ⟨g1,g2⟩:=QDa hr
 have hin:QA3 { c with μ:=c.μ ++ [.pointer none],H:=c.H ++ [.unborn] } as vs:=QD5 (g2.vext hr) _ _ hvs
 refine (h.2 _ vs (by show c.H ++ [AObj.unborn] = _; rw [hH]) g1 hin).mono fun e w' hq=>?_
 obtain ⟨v,c',av,h1,h2,h3,h4,h5,h6⟩:=hq
 exact ⟨v,c',av,h1,h2,h3,h4,g2.trans h5,h6⟩
theorem ACalls.push {P:Program} {f:Nat} {as:List AV} {av:AV} {H H':List AObj} (h:ACalls P f as (H ++ [.unborn]) av H'):ACalls P f as H av H':=(ACallsR.push h.toR).one

def QBd {α:Type} (l:List α):List Nat → List α → List α
 | [],_=>l
 | _ :: _,[]=>l
 | i :: is,x :: xs=>QBd (l.set i x) is xs

theorem QB8 {α:Type}:∀ (is:List Nat) (xs:List α) (l:List α) (p:Nat),p ∉ is → (QBd l is xs)[p]? = l[p]?
 | [],_,_,_,_=>by simp [QBd]
 | i :: is,[],l,p,_=>by simp [QBd]
 | i :: is,x :: xs,l,p,hp=>by
  simp only [List.mem_cons,not_or] at hp
  simp only [QBd]
  rw [QB8 is xs _ p hp.2,List.getElem?_set_ne (fun h=>hp.1 h.symm)]

theorem QJz {α:Type}:∀ (is:List Nat) (xs:List α) (l:List α) (j p:Nat),is.Nodup → is[j]? = some p → j < xs.length → p < l.length → (QBd l is xs)[p]? = xs[j]?
 | [],_,_,_,_,_,h,_,_=>by simp at h
 | i :: is,[],_,_,_,_,_,h,_=>by simp at h
 | i :: is,x :: xs,l,j,p,hn,hj,hx,hp=>by
  simp only [List.nodup_cons] at hn
  simp only [QBd]
  cases j with
  | zero=>
   simp at hj
   subst hj
   rw [QB8 is xs _ i hn.1]
   simp [hp]
  | succ j=>
   simp at hj hx
   rw [QJz is xs _ j p hn.2 hj hx (by simpa using hp)]
   simp

@[simp] theorem QKy {α:Type}:∀ (is:List Nat) (xs:List α) (l:List α),(QBd l is xs).length = l.length
 | [],_,_=>by simp [QBd]
 | _ :: _,[],_=>by simp [QBd]
 | i :: is,x :: xs,l=>by simp [QBd,QKy is xs]

theorem QPE {is:List Nat} {x y:AObj} {m m':Option Value} (h:OStep x y m m'):OStep (QBP is x) (QBP is y) m m':=by
 cases x with
 | unborn=>simp only [QBP,OStep]
 | iter o s l=>
  cases y <;> simp only [OStep] at h
  obtain ⟨rfl,rfl,h⟩:=h
  simp only [QBP]
  split
  ·exact ⟨rfl,rfl,h⟩
  ·exact ⟨rfl,h⟩
 | dead=>cases y <;> simp only [OStep] at h; simp only [QBP,OStep]
 | box e cs=>cases y <;> simp only [OStep] at h; simp only [QBP,OStep]; exact h
 | map kvs=>cases y <;> simp only [OStep] at h; simp only [QBP,OStep]; exact h
 | reg e sz l=>cases y <;> simp only [OStep] at h <;> simp only [QBP,OStep]; simpa using h

theorem QGH {is:List Nat} (x:AObj):(QBP is x).alive = x.alive:=by cases x <;> first | rfl | (simp only [QBP]; split <;> rfl)

theorem ACallsR.unborn {P:Program} {f:Nat} {as:List AV} {R:AV → List AObj → Prop} (h:ACallsR P f as [] R) (ha:QAB 0 as = true) (n:Nat) (hnR:∀ v G,R v G → n ≤ G.length):ACallsR P f as (List.replicate n .unborn) R:=by
 refine ⟨h.1,fun c vs hH hr hvs=>?_⟩
 have hun:∀ {o:Nat} {x:AObj},c.H[o]? = some x → x = .unborn:=fun {o x} hx=>by
  rw [hH,List.getElem?_replicate] at hx
  split at hx
  ·exact (Option.some.inj hx).symm
  ·cases hx
 have hno:∀ o b,¬ QBi c o b:=fun o b ⟨x,v,h1,h2,_⟩=>by rw [hun h1] at h2; cases h2
 have hre:Rel (⟨c.F,[],[],c.w⟩:Cx):=⟨rfl,by simp,fun o o' b h=>by obtain ⟨x,v,h1,_⟩:=h; simp at h1,fun o b h=>by obtain ⟨x,v,h1,_⟩:=h; simp at h1,hr.lt,hr.gl,hr.gb,fun o b h=>by obtain ⟨x,v,h1,_⟩:=h; simp at h1⟩
 have hno2:∀ o b,¬ QBi (⟨c.F,[],[],c.w⟩:Cx) o b:=fun o b h=>by obtain ⟨x,v,h1,_⟩:=h; simp at h1
 have hin:QA3 (⟨c.F,[],[],c.w⟩:Cx) as vs:=QEo (n:=0) (c:=c) (c':=⟨c.F,[],[],c.w⟩) ⟨fun _ h=>h,fun _ _=>rfl,fun o x h=>by omega⟩ as vs ha hvs
 refine (h.2 ⟨c.F,[],[],c.w⟩ vs rfl hre hin).mono fun e w' hq=>?_
 obtain ⟨v,ce,av,h1,h2,h3,h4,h5,h6⟩:=hq
 have hn:=hnR _ _ h3
 refine ⟨v,ce,av,h1,h2,h3,h4,⟨h5.fr,fun b hb=>?_,fun b hb _=>h5.keep b hb (hno2 · b),h5.size,h5.os,h5.tape,h5.output,fun o b ho=>?_,fun o x hx=>?_⟩,h6⟩
 ·rcases h5.frn b hb with h | h | ⟨o,h⟩
  ·exact .inl h
  ·exact .inr (.inl h)
  ·exact (hno2 o b h).elim
 ·rcases h5.own o b ho with h | ⟨p,h⟩
  ·exact .inl h
  ·exact (hno2 p b h).elim
 ·have hlt:o < n:=by have:=(List.getElem?_eq_some_iff.1 hx).1; rw [hH] at this; simpa using this
  refine ⟨_,List.getElem?_eq_getElem (by omega),?_⟩
  rw [hun hx]; trivial

theorem ACalls.unborn {P:Program} {f:Nat} {as:List AV} {av:AV} {He':List AObj} (h:ACalls P f as [] av He') (ha:QAB 0 as = true) (n:Nat) (hn:n ≤ He'.length):ACalls P f as (List.replicate n .unborn) av He':=
 (ACallsR.unborn h.toR ha n fun _ _ h=>by rw [h.2]; exact hn).one

theorem ACallsR.frame {P:Program} {f:Nat} {as:List AV} {R:AV → List AObj → Prop} {He H:List AObj} (is:List Nat) (h:ACallsR P f as He R) (hle:He.length = is.length) (hlen:∀ v G,R v G → G.length = is.length) (hnd:is.Nodup)
  (hH:∀ (j p:Nat) (x:AObj),is[j]? = some p → He[j]? = some x → H[p]? = some (QBP is x)):ACallsR P f (QBt is as) H (fun v G=>∃ av He',R av He' ∧ v = ren is av ∧ G = QBd H is (He'.map (QBP is))):=by
 refine ⟨h.1,fun c vs hHc hr hvs=>?_⟩
 subst hHc
 have hex:∀ {j p:Nat},is[j]? = some p → ∃ x,He[j]? = some x ∧ c.H[p]? = some (QBP is x):=fun {j p} hj=>by
  have hlt:j < He.length:=by rw [hle]; exact (List.getElem?_eq_some_iff.1 hj).1
  exact ⟨He[j],List.getElem?_eq_getElem hlt,hH j p _ hj (List.getElem?_eq_getElem hlt)⟩
 have hisl:∀ {j p:Nat},is[j]? = some p → p < c.H.length:=fun {j p} hj=>by
  obtain ⟨x,_,h2⟩:=hex hj; exact (List.getElem?_eq_some_iff.1 h2).1
 have hat:∀ {j:Nat} {x:AObj},He[j]? = some x → ∃ p,is[j]? = some p:=fun {j x} hx=>by
  have hlt:j < is.length:=by rw [← hle]; exact (List.getElem?_eq_some_iff.1 hx).1
  exact ⟨_,List.getElem?_eq_getElem hlt⟩
 -- the callee's context
 have hμe:∀ {j p:Nat},is[j]? = some p → (is.map fun p=>(c.μ[p]?).getD (.pointer none))[j]? = c.μ[p]?:=fun {j p} hj=>by
  have hp:=hisl hj
  rw [List.getElem?_map,hj]
  simp [hr.len,hp]
 have hri:QMj is c ⟨c.F,is.map fun p=>(c.μ[p]?).getD (.pointer none),He,c.w⟩:=⟨fun _ h=>h,fun _ _=>rfl,fun j m s l hx=>by
  obtain ⟨p,hp⟩:=hat hx
  have ho:=hr.obj p _ (hH j p _ hp hx)
  cases hm:is[m]? with
  | some q=>exact ⟨q,rfl⟩
  | none=>
   simp only [QBP,hm] at ho
   obtain ⟨b,arr,_,_,_,h8⟩:=ho
   simp only [QBN,Val] at h8
   obtain ⟨⟨_,_,_,h9⟩,_⟩:=h8
   exact h9.elim,fun j p hj=>by
  obtain ⟨x,h1,h2⟩:=hex hj
  exact ⟨x,h1,h2,hμe hj⟩⟩
 have hownE:∀ {j b:Nat},QBi ⟨c.F,is.map fun p=>(c.μ[p]?).getD (.pointer none),He,c.w⟩ j b → ∃ p,is[j]? = some p ∧ QBi c p b:=fun {j b} ⟨x,v,h1,h2,h3,h4⟩=>by
  obtain ⟨p,hp⟩:=hat h1
  exact ⟨p,hp,QBP is x,v,hH j p x hp h1,by rw [QGH]; exact h2,by rw [← hμe hp]; exact h3,h4⟩
 have hinj:∀ {j k p:Nat},is[j]? = some p → is[k]? = some p → j = k:=fun {j k p} hj hk=>(List.getElem?_inj (List.getElem?_eq_some_iff.1 hj).1 hnd).1 (hj.trans hk.symm)
 have hre:Rel (⟨c.F,is.map fun p=>(c.μ[p]?).getD (.pointer none),He,c.w⟩:Cx):=by
  refine ⟨by simp [hle],fun j x hx=>?_,fun j k b hj hk=>?_,fun j b hj=>?_,hr.lt,hr.gl,hr.gb,fun j b hj=>?_⟩
  ·obtain ⟨p,hp⟩:=hat hx
   have ho:=hr.obj p _ (hH j p x hp hx)
   have hm:=hμe hp
   cases x with
   | unborn=>trivial
   | dead=>trivial
   | box e cs=>
    obtain ⟨b,arr,h5,h6,h7,h8⟩:=ho
    exact ⟨b,arr,hm.trans h5,h6,by simpa using h7,QGo hri _ _ _ rfl h8⟩
   | reg e sz l=>
    obtain ⟨v,h5,h6⟩:=ho
    refine ⟨v,hm.trans h5,h6.imp ?_ ?_⟩
    ·rintro ⟨rfl,h7⟩
     refine ⟨rfl,?_⟩
     cases l with
     | nil=>rfl
     | cons r l=>simp [QBL] at h7
    ·rintro ⟨g,o0,cap,cur,rfl,h7,h8,h9,h10,h11⟩
     exact ⟨g,o0,cap,cur,by simp,h7,by simpa using h8,h9,h10,QGp hri _ _ _ _ rfl h11⟩
   | map kvs=>
    obtain ⟨r,es,h5,h6,h7⟩:=ho
    exact ⟨r,es,hm.trans h5,by simpa using h6,QNm hri _ _ _ h7⟩
   | iter m s l=>
    obtain ⟨q,hq⟩:=hri.it j m s l hx
    simp only [QBP,hq] at ho
    obtain ⟨b,r,kvs,h5,h6,h7,h8⟩:=ho
    obtain ⟨z,g1,g2⟩:=hex hq
    rw [h7] at g2
    cases z <;> try simp only [QBP,Option.some.injEq,reduceCtorEq,AObj.map.injEq] at g2
    ·exact ⟨b,r,_,hm.trans h5,h6,g1,(hμe hq).trans h8⟩
    ·split at g2 <;> cases g2
  ·obtain ⟨p,hp,h1⟩:=hownE hj
   obtain ⟨q,hq,h2⟩:=hownE hk
   have:=hr.inj _ _ _ h1 h2
   subst this
   exact hinj hp hq
  ·obtain ⟨p,_,h1⟩:=hownE hj
   exact hr.free _ _ h1
  ·obtain ⟨p,_,h1⟩:=hownE hj
   exact hr.go _ _ h1
 have hin:QA3 (⟨c.F,is.map fun p=>(c.μ[p]?).getD (.pointer none),He,c.w⟩:Cx) as vs:=QHK hri as vs hvs
 refine (h.2 _ vs rfl hre hin).mono fun e w' hq=>?_
 obtain ⟨v,ce,av,h1,h2,hR,h4,h5,h6⟩:=hq
 have hlen:=hlen _ _ hR
 obtain ⟨He',h3⟩:∃ G,ce.H = G:=⟨_,rfl⟩
 rw [h3] at hlen hR
 -- the caller's context behind the call
 have hcl:ce.μ.length = is.length:=by rw [h4.len,h3,hlen]
 have hHat:∀ {j p:Nat},is[j]? = some p → (QBd c.H is (He'.map (QBP is)))[p]? = (He'.map (QBP is))[j]?:=fun {j p} hj=>
  QJz is _ _ j p hnd hj (by simp [hlen]; exact (List.getElem?_eq_some_iff.1 hj).1) (hisl hj)
 have hMat:∀ {j p:Nat},is[j]? = some p → (QBd c.μ is ce.μ)[p]? = ce.μ[j]?:=fun {j p} hj=>
  QJz is _ _ j p hnd hj (by rw [hcl]; exact (List.getElem?_eq_some_iff.1 hj).1) (by rw [hr.len]; exact hisl hj)
 have hro:QJh is ce ⟨ce.F,QBd c.μ is ce.μ,QBd c.H is (He'.map (QBP is)),ce.w⟩:=⟨fun _ h=>h,fun _ _=>rfl,fun j m s l hx=>by
  obtain ⟨_,_,_,_,_,g1,_⟩:=h4.obj j _ hx
  have:m < is.length:=by rw [← hlen,← h3]; exact (List.getElem?_eq_some_iff.1 g1).1
  exact ⟨_,List.getElem?_eq_getElem this⟩,fun j x hx=>by
  rw [h3] at hx
  have hlt:j < is.length:=by rw [← hlen]; exact (List.getElem?_eq_some_iff.1 hx).1
  have hj:=List.getElem?_eq_getElem hlt
  exact ⟨_,hj,by show (QBd c.H is _)[_]? = _; rw [hHat hj,List.getElem?_map,hx]; rfl,hMat hj⟩⟩
 have hE:Ext c ⟨ce.F,QBd c.μ is ce.μ,QBd c.H is (He'.map (QBP is)),ce.w⟩:=by
  refine ⟨h5.fr,fun b hb=>?_,fun b hb hn=>?_,h5.size,h5.os,h5.tape,h5.output,fun p b hp=>?_,fun p x hx=>?_⟩
  ·rcases h5.frn b hb with h | h | ⟨j,h⟩
   ·exact .inl h
   ·exact .inr (.inl h)
   ·obtain ⟨p,_,hp⟩:=hownE h; exact .inr (.inr ⟨p,hp⟩)
  ·exact h5.keep b hb fun j hj=>by obtain ⟨p,_,hp⟩:=hownE hj; exact hn p hp
  ·obtain ⟨y,u,g1,g2,g3,g4⟩:=hp
   by_cases hpi:p ∈ is
   ·obtain ⟨j,hj⟩:=List.getElem?_of_mem hpi
    simp only [hHat hj,List.getElem?_map,Option.map_eq_some_iff] at g1
    obtain ⟨z,hz,rfl⟩:=g1
    rw [QGH] at g2
    simp only [hMat hj] at g3
    rcases h5.own j b ⟨z,u,by rw [h3]; exact hz,g2,g3,g4⟩ with h | ⟨k,h⟩
    ·exact .inl h
    ·obtain ⟨q,_,hq⟩:=hownE h; exact .inr ⟨q,hq⟩
   ·simp only [QB8 is _ _ p hpi] at g1 g3
    exact .inr ⟨p,y,u,g1,g2,g3,g4⟩
  ·by_cases hpi:p ∈ is
   ·obtain ⟨j,hj⟩:=List.getElem?_of_mem hpi
    obtain ⟨z,hz,hz2⟩:=hex hj
    rw [hx] at hz2; cases hz2
    obtain ⟨y,hy,hs⟩:=h5.obj j z hz
    refine ⟨QBP is y,?_,?_⟩
    ·show (QBd c.H is _)[p]? = _
     rw [hHat hj,List.getElem?_map,← h3,hy]; rfl
    ·show OStep _ _ _ (QBd c.μ is ce.μ)[p]?
     rw [hMat hj,← hμe hj]; exact QPE hs
   ·exact ⟨x,by show (QBd c.H is _)[p]? = _; rw [QB8 is _ _ p hpi]; exact hx,by show OStep _ _ _ (QBd c.μ is ce.μ)[p]?; rw [QB8 is _ _ p hpi]; exact OStep.refl _ _⟩
 have hownC:∀ {p b:Nat},QBi ⟨ce.F,QBd c.μ is ce.μ,QBd c.H is (He'.map (QBP is)),ce.w⟩ p b → (∃ j,is[j]? = some p ∧ QBi ce j b) ∨ (p ∉ is ∧ QBi c p b):=fun {p b} ⟨y,u,g1,g2,g3,g4⟩=>by
  by_cases hpi:p ∈ is
  ·obtain ⟨j,hj⟩:=List.getElem?_of_mem hpi
   simp only [hHat hj,List.getElem?_map,Option.map_eq_some_iff] at g1
   obtain ⟨z,hz,rfl⟩:=g1
   rw [QGH] at g2
   simp only [hMat hj] at g3
   exact .inl ⟨j,hj,z,u,by rw [h3]; exact hz,g2,g3,g4⟩
  ·simp only [QB8 is _ _ p hpi] at g1 g3
   exact .inr ⟨hpi,y,u,g1,g2,g3,g4⟩
 have hmix:∀ {j p b:Nat},QBi ce j b → p ∉ is → QBi c p b → False:=fun {j p b} hj hp hpb=>by
  rcases h5.own j b hj with h | ⟨k,h⟩
  ·have:c.w.heap.size ≤ b:=h
   have:=QDZ hr hpb; omega
  ·obtain ⟨q,hq,hqb⟩:=hownE h
   have:=hr.inj _ _ _ hqb hpb
   subst this
   exact hp (List.mem_of_getElem? hq)
 have hRel:Rel ⟨ce.F,QBd c.μ is ce.μ,QBd c.H is (He'.map (QBP is)),ce.w⟩:=by
  refine ⟨by simp [hr.len],fun p y hy=>?_,fun p q b hp hq=>?_,fun p b hp hf=>?_,h4.lt,h4.gl,h4.gb,fun p b hp=>?_⟩
  ·by_cases hpi:p ∈ is
   ·obtain ⟨j,hj⟩:=List.getElem?_of_mem hpi
    simp only [hHat hj,List.getElem?_map,Option.map_eq_some_iff] at hy
    obtain ⟨z,hz,rfl⟩:=hy
    have ho:=h4.obj j z (by rw [h3]; exact hz)
    have hm:=hMat hj
    cases z with
    | unborn=>trivial
    | dead=>trivial
    | box e cs=>
     obtain ⟨b,arr,k5,k6,k7,k8⟩:=ho
     exact ⟨b,arr,hm.trans k5,k6,by simpa using k7,QGm hro _ _ _ rfl k8⟩
    | reg e sz l=>
     obtain ⟨v,k5,k6⟩:=ho
     refine ⟨v,hm.trans k5,k6.imp ?_ ?_⟩
     ·rintro ⟨rfl,rfl⟩; exact ⟨rfl,rfl⟩
     ·rintro ⟨g,o0,cap,cur,rfl,k7,k8,k9,k10,k11⟩
      exact ⟨g,o0,cap,cur,by simp,k7,by simpa using k8,k9,k10,QHJ hro _ _ _ _ rfl k11⟩
    | map kvs=>
     obtain ⟨r,es,k5,k6,k7⟩:=ho
     exact ⟨r,es,hm.trans k5,by simpa using k6,QVa hro _ _ _ k7⟩
    | iter m s l=>
     obtain ⟨b,r,kvs,k5,k6,k7,k8⟩:=ho
     obtain ⟨q,g1,g2,g3⟩:=hro.obj m _ k7
     simp only [QBP,g1]
     exact ⟨b,r,_,hm.trans k5,k6,g2,g3.trans k8⟩
   ·simp only [QB8 is _ _ p hpi] at hy
    refine QDn (hE.vext hr) (hr.obj p y hy) hy (QB8 is _ _ p hpi) fun b hb=>?_
    refine h5.keep b (QDZ hr hb) fun j hj=>?_
    obtain ⟨q,hq,hqb⟩:=hownE hj
    have:=hr.inj _ _ _ hqb hb
    subst this
    exact hpi (List.mem_of_getElem? hq)
  ·rcases hownC hp with ⟨j,hj,g1⟩ | ⟨hpi,g1⟩ <;> rcases hownC hq with ⟨k,hk,g2⟩ | ⟨hqi,g2⟩
   ·have:=h4.inj _ _ _ g1 g2
    subst this
    exact Option.some.inj (hj.symm.trans hk)
   ·exact (hmix g1 hqi g2).elim
   ·exact (hmix g2 hpi g1).elim
   ·exact hr.inj _ _ _ g1 g2
  ·rcases hownC hp with ⟨j,hj,g1⟩ | ⟨hpi,g1⟩
   ·exact h4.free _ _ g1 hf
   ·rcases h5.frn b hf with h | h | ⟨j,h⟩
    ·exact hr.free _ _ g1 h
    ·have:c.w.heap.size ≤ b:=h
     have:=QDZ hr g1; omega
    ·obtain ⟨q,hq,hqb⟩:=hownE h
     have:=hr.inj _ _ _ hqb g1
     subst this
     exact hpi (List.mem_of_getElem? hq)
  ·rcases hownC hp with ⟨j,hj,g1⟩ | ⟨hpi,g1⟩
   ·exact h4.go _ _ g1
   ·exact hr.go _ _ g1
 exact ⟨v,⟨ce.F,QBd c.μ is ce.μ,QBd c.H is (He'.map (QBP is)),ce.w⟩,_,h1,h2,⟨av,He',hR,rfl,rfl⟩,hRel,hE,QIn hro av v h6⟩
theorem ACalls.frame {P:Program} {f:Nat} {as:List AV} {av:AV} {He He' H:List AObj} (is:List Nat) (h:ACalls P f as He av He') (hle:He.length = is.length) (hlen:He'.length = is.length) (hnd:is.Nodup)
  (hH:∀ (j p:Nat) (x:AObj),is[j]? = some p → He[j]? = some x → H[p]? = some (QBP is x)):ACalls P f (QBt is as) H (ren is av) (QBd H is (He'.map (QBP is))):=
 ((ACallsR.frame is h.toR hle (fun _ _ h=>by rw [h.2]; exact hlen) hnd hH).mono fun _ _ ⟨_,_,⟨h1,h2⟩,h3,h4⟩=>by subst h1; subst h2; exact ⟨h3,h4⟩).one

end Go.Ab
