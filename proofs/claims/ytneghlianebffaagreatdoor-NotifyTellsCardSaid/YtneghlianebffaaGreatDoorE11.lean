/- A subscriber apart that follows its notices: what it has seen, plainly. -/
import Derived.Test.YtneghlianebffaaGreatDoorE8P
import Derived.Test.YtneghlianebffaaGreatDoorAP
namespace Go.Ab
open Go Go.Proofs
set_option maxRecDepth 20000
def Good (f:Flt):QAy Bool → Int → List Ntc → QAy Bool → Int → Prop
 | M,q,[],M',q'=>M' = M ∧ q' = q
 | M,q,n :: l,M',q'=>q ≤ n.seq ∧ (n.kind = 2 → QAo n.rc.path M = some true) ∧ (n.kind = 1 → QA4 f n.rc = true) ∧ Good f (QBT n.rc.path (decide (n.kind = 1)) M) n.seq l M' q'
theorem Good.snoc {f:Flt} {n:Ntc}:∀ {l:List Ntc} {M M':QAy Bool} {q q':Int},Good f M q l M' q' → q' ≤ n.seq → (n.kind = 2 → QAo n.rc.path M' = some true) → (n.kind = 1 → QA4 f n.rc = true) → Good f M q (l ++ [n]) (QBT n.rc.path (decide (n.kind = 1)) M') n.seq
 | [],_,_,_,_,⟨rfl,rfl⟩,h1,h2,h3=>⟨h1,h2,h3,rfl,rfl⟩
 | _ :: l,_,_,_,_,⟨k1,k2,k3,k4⟩,h1,h2,h3=>⟨k1,k2,k3,Good.snoc (l:=l) k4 h1 h2 h3⟩
theorem Good.le {f:Flt}:∀ {l:List Ntc} {M M':QAy Bool} {q q':Int},Good f M q l M' q' → q ≤ q'
 | [],_,_,_,_,⟨_,h⟩=>by omega
 | _ :: l,_,_,_,_,⟨k1,_,_,k4⟩=>by have:=Good.le (l:=l) k4; omega
structure Fol (f:Flt) (o:RSb) (M:QAy Bool) (q:Int) (l:List Ntc) (la:Int):Prop where
 b:o.behind = false
 fl:o.f = f
 ex:∃ M' q',Good f M q (l ++ o.wait) M' q' ∧ q' ≤ la ∧ ∀ p,QAo p M' = some true ↔ p ∈ o.sees
structure Tel (f:Flt) (V:RBus) (o:RSb) (M:QAy Bool) (q:Int):Prop where
 fl:o.f = f
 q1:q ≤ V.last
 ex:o.behind = false → Fol f o M q [] V.last
theorem QRr {M':QAy Bool} {l:List Txt} (h:∀ p,QAo p M' = some true ↔ p ∈ l) (x:Txt) (b:Bool) (p:Txt):QAo p (QBT x b M') = some true ↔ p ∈ QFQ l x ++ (if b = true then [x] else []):=by
 rw [QCM]
 by_cases e:x = p
 ·subst e
  rw [if_pos rfl]
  cases b <;> simp [QHt]
 ·rw [if_neg e,h p]
  cases b <;> simp [QHt,Ne.symm e]
theorem Tel.sent {f:Flt} {V V':RBus} {o:RSb} {M:QAy Bool} {q:Int} (h:Tel f V o M q) (n:Ntc) (hl:V'.last = V.last + 1) (hn:n.seq = V.last + 1) (h1:n.kind = 1 → QA4 f n.rc = true) (h2:n.kind = 2 → n.rc.path ∈ o.sees):Tel f V' (QCX n o) M q:=by
 have hq:=h.q1
 unfold QCX
 cases hb:o.behind with
 | true=>exact ⟨h.fl,by omega,fun e=>by simp at e⟩
 | false=>
  rw [if_neg (by decide)]
  by_cases h64:o.wait.length = 64
  ·rw [if_pos h64]
   exact ⟨h.fl,by omega,fun e=>by cases e⟩
  ·rw [if_neg h64]
   obtain ⟨_,_,M',q',g,hq',hs⟩:=h.ex hb
   refine ⟨h.fl,by omega,fun _=>⟨rfl,h.fl,_,_,by rw [List.nil_append]; exact Good.snoc g (by omega) (fun e=>(hs _).2 (h2 e)) h1,by omega,fun p=>?_⟩⟩
   have:=QRr hs n.rc.path (decide (n.kind = 1)) p
   rw [this]
   simp only [decide_eq_true_eq]
theorem Tel.step {f:Flt} {V V':RBus} {o:RSb} {A':List RSb} {M:QAy Bool} {q:Int} (h:Tel f V o M q) (hs:OwS V [o] V' A'):∃ o',A' = [o'] ∧ Tel f V' o' M q:=by
 cases hs with
 | same h1 h2 _=>exact ⟨o,h1,h.fl,by rw [h2]; exact h.q1,fun e=>by rw [h2]; exact h.ex e⟩
 | told r rdy h1 h2 h3 h4=>
  refine ⟨QAp (V.last + 1) r rdy o,by rw [h2]; rfl,?_⟩
  have hq:=h.q1
  have h0:Tel f V' o M q:=⟨h.fl,by omega,fun e=>by
   obtain ⟨_,_,M',q',g,hq',hs⟩:=h.ex e
   exact ⟨e,h.fl,M',q',g,by omega,hs⟩⟩
  unfold QAp
  split
  ·rename_i hw
   exact h.sent ⟨V.last + 1,1,r⟩ h3 rfl (fun _=>by rw [← h.fl]; exact hw.2) (fun e=>by simp at e)
  ·split
   ·rename_i hse
    exact h.sent ⟨V.last + 1,2,r⟩ h3 rfl (fun e=>by simp at e) (fun _=>hse)
   ·exact h0
theorem Ow.own {V W:RBus} {o:RSb} {B l:List RSb} (h:Ow V W [o] B l):V.find QDA = some o:=by
 unfold RBus.find
 rw [h.vs]
 simp [h.an o (by simp)]
theorem QJT {f:Flt} {la:Int}:∀ (R:List Rcd) (M:QAy Bool) (q:Int),q ≤ la → (∀ r ∈ R,QA4 f r = true) → ∃ M' q',Good f M q (R.map fun r=>⟨la,1,r⟩) M' q' ∧ q' ≤ la ∧ ∀ p,QAo p M' = some true ↔ (QAo p M = some true ∨ p ∈ R.map (·.path))
 | [],M,q,hq,_=>⟨M,q,⟨rfl,rfl⟩,hq,fun p=>by simp⟩
 | r :: R,M,q,hq,hw=>by
  obtain ⟨M',q',g,h1,h2⟩:=QJT R (QBT r.path true M) la (Int.le_refl _) fun x hx=>hw x (by simp [hx])
  refine ⟨M',q',⟨hq,fun e=>by simp at e,fun _=>hw r (by simp),by simpa using g⟩,h1,fun p=>?_⟩
  rw [h2,QCM]
  by_cases e:r.path = p
  ·subst e; simp
  ·rw [if_neg e]; simp [Ne.symm e]
theorem Tel.read {f:Flt} {V:RBus} {o:RSb} {M:QAy Bool} {q:Int} (h:Tel f V o M q) (hf:V.find QDA = some o) (hbw:o.behind = true → o.wait = []) (most:Int):∃ y:RSb,(V.readR QDA most).1 = ⟨V.ready,QEF QDA y V.subs,V.last⟩ ∧ y.name = o.name ∧ (V.readR QDA most).2.2.1 = o.behind ∧ (V.readR QDA most).2.2.2 = 0 ∧ Fol f y (if o.behind = true then [] else M) q (V.readR QDA most).2.1 V.last ∧ (64 ≤ most → o.wait.length ≤ 64 → y.wait = []):=by
 unfold RBus.readR
 rw [hf]
 simp only
 cases hb:o.behind with
 | true=>
  rw [if_pos rfl,if_pos rfl]
  obtain ⟨M',q',g,h1,h2⟩:=QJT (V.wanted o.f) [] q h.q1 (fun r hr=>by have:=(List.mem_filter.1 hr).2; rwa [h.fl] at this)
  refine ⟨_,rfl,rfl,rfl,rfl,⟨rfl,h.fl,M',q',?_,h1,fun p=>?_⟩,fun _ _=>hbw hb⟩
  ·show Good f [] q (_ ++ o.wait) M' q'
   rw [hbw hb,List.append_nil]; exact g
  ·rw [h2]; simp [QAo]
 | false=>
  rw [if_neg (by decide),if_neg (by decide)]
  obtain ⟨_,_,M',q',g,h1,h2⟩:=h.ex hb
  refine ⟨_,rfl,rfl,rfl,rfl,⟨rfl,h.fl,M',q',?_,h1,h2⟩,fun hm hl=>?_⟩
  ·show Good f M q (_ ++ o.wait.drop _) M' q'
   rw [List.take_append_drop]; exact g
  ·show o.wait.drop _ = []
   have:QCC most o.wait.length = o.wait.length:=by unfold QCC; rw [if_neg (by omega)]; omega
   rw [this,List.drop_length]
theorem Fol.next {f:Flt} {o:RSb} {M:QAy Bool} {q la:Int} {n:Ntc} {l:List Ntc} (h:Fol f o M q (n :: l) la):q ≤ n.seq ∧ n.seq ≤ la ∧ (n.kind = 2 → QAo n.rc.path M = some true) ∧ (n.kind = 1 → QA4 f n.rc = true) ∧ Fol f o (QBT n.rc.path (decide (n.kind = 1)) M) n.seq l la:=by
 obtain ⟨hb,hfl,M',q',⟨k1,k2,k3,k4⟩,h1,h2⟩:=h
 have:=k4.le
 exact ⟨k1,by omega,k2,k3,hb,hfl,M',q',k4,h1,h2⟩
end Go.Ab
namespace Go.Ab
open Go Go.Proofs
theorem Bx.lk {H:List AObj} {ob ro so:Nat} {W:RBus} {n:Nat} {K:Nat → Prop} {B:Bus} (h:Bx H ob ro so W n K B) {nm:Txt} {t:RSb} (hf:W.find nm = some t):t.wait.length ≤ 64 ∧ (t.behind = true → t.wait = []) ∧ (∀ m ∈ t.wait,QAk m.rc = true) ∧ (t.behind = false → ∀ p,p ∈ t.sees ↔ ∃ r ∈ W.ready,r.path = p ∧ QA4 t.f r = true):=by
 have hs:=h.cp.sub nm
 rw [hf] at hs
 cases hg:QAo nm (QCP B.subs) with
 | none=>rw [hg] at hs; exact hs.elim
 | some s=>
  rw [hg] at hs
  have hl:QDX B.ready s t:=hs
  refine ⟨by rw [← hl.w]; exact hl.wl,fun hb=>by rw [← hl.w]; exact hl.bw (hl.b.trans hb),fun m hm=>hl.wr m (by rw [hl.w]; exact hm),fun hb p=>?_⟩
  rw [← hl.se (hl.b.trans hb) p,hl.wa (hl.b.trans hb) p,hl.f]
  constructor
  ·rintro ⟨r,h1,h2⟩
   obtain ⟨h3,_⟩:=h.cp.key p r h1
   exact ⟨r,(h.cp.mem r).2 (by rw [h3]; exact h1),h3,h2⟩
  ·rintro ⟨r,h1,rfl,h2⟩
   exact ⟨r,(h.cp.mem r).1 h1,h2⟩
theorem Ow.put' {V W:RBus} {o y:RSb} {B l:List RSb} (h:Ow V W [o] B l) (hy:y.name = QDA):Ow ⟨V.ready,QEF QDA y V.subs,V.last⟩ W [y] B l:=
 ⟨h.rd,h.la,by show QEF QDA y V.subs = _; rw [h.vs]; simp [QEF,h.an o (by simp)],h.ws,by simpa using hy,h.bn,by simp,h.bl,h.nm,h.nd⟩
theorem CS.start2 {ob ro so:Nat} {V:RBus} {l:List Int} {k:Nat} {A G:List AObj} (hA:A[0]? = some (QAO l k)) (h:bxR A ob ro so V 0 (fun i=>i < A.length) G) (L:List (Nat × AObj)) (hL:∀ p ∈ L,A[p.1]? = some p.2 ∧ p.1 ≠ 0):CS [] 0 ob ro so l k V 0 (fun i=>i = 0) L G:=by
 obtain ⟨⟨B,hB⟩,h2,h3⟩:=h
 have h0:0 < A.length:=(List.getElem?_eq_some_iff.1 hA).1
 exact ⟨⟨B,hB.mono fun i hi=>by
  rcases hi with rfl | ⟨p,hp,rfl⟩
  ·exact h0
  ·exact (List.getElem?_eq_some_iff.1 (hL p hp).1).1⟩,rfl,by rw [h2 0 h0]; exact hA,fun i hi hne=>(hne hi).elim,fun p hp=>by rw [h2 p.1 (List.getElem?_eq_some_iff.1 (hL p hp).1).1]; exact (hL p hp).1,fun p hp=>(hL p hp).2,Nat.zero_le _⟩
def tlSubs:List Txt:=[[42],[98,108,111,99,107],[110,101,116,124,98,108,111,99,107]]
def tlTags:List Txt:=[[],[115,101,97,116],[115,42]]
theorem QYA:∀ s ∈ tlSubs,∀ g ∈ tlTags,(⟨[],[],0⟩:RBus).subR QDA ⟨s,g⟩ = (⟨[],[⟨QDA,⟨s,g⟩,[],[],true⟩],0⟩,0):=by decide +kernel
theorem QTQ:(∀ s ∈ tlSubs,s.length ≤ 1000) ∧ ∀ s ∈ tlTags,s.length ≤ 1000:=by decide
theorem Ow.both (o:RSb) (h:o.name = QDA):Ow ⟨[],[o],0⟩ ⟨[],[o],0⟩ [o] [o] []:=⟨rfl,rfl,rfl,rfl,by simpa using h,by simpa using h,by simp,by simp,by simp,by simp⟩
theorem Tel.first (f:Flt):Tel f ⟨[],[⟨QDA,f,[],[],true⟩],0⟩ ⟨QDA,f,[],[],true⟩ [] 0:=⟨rfl,Int.le_refl _,fun e=>by simp at e⟩
end Go.Ab
namespace Go.Ab
open Go Go.Proofs
theorem QUr {V:RBus} {o:RSb} {n:Nat} (hf:V.find QDA = some o) (hs:∀ r ∈ V.ready,QAk r = true) (hw:∀ m ∈ o.wait,QAk m.rc = true) (hl:o.wait.length ≤ 64) (hr:V.ready.length ≤ n) (most:Int):(∀ x ∈ (V.readR QDA most).2.1,QAk x.rc = true) ∧ (V.readR QDA most).2.1.length ≤ n + 64:=by
 unfold RBus.readR
 rw [hf]
 simp only
 split
 ·refine ⟨fun x hx=>?_,?_⟩
  ·obtain ⟨r,hr',rfl⟩:=List.mem_map.1 hx
   exact hs r (List.mem_filter.1 hr').1
  ·rw [List.length_map]
   have:=List.length_filter_le (QA4 o.f) V.ready
   unfold RBus.wanted; omega
 ·refine ⟨fun x hx=>hw x (List.mem_of_mem_take hx),?_⟩
  rw [List.length_take]; omega
theorem Fol.done {f:Flt} {V:RBus} {o:RSb} {M:QAy Bool} {q la:Int} (h:Fol f o M q [] la) (hl:V.last = la):Tel f V o M q:=by
 obtain ⟨hb,hfl,M',q',g,h1,h2⟩:=h
 have:=g.le
 subst hl
 exact ⟨hfl,by omega,fun _=>⟨hb,hfl,M',q',g,h1,h2⟩⟩
end Go.Ab
namespace Go.Ab
open Go Go.Proofs
theorem Tel.all {f:Flt} {V:RBus} {o:RSb} {M:QAy Bool} {q:Int} (h:Tel f V o M q) (hb:o.behind = false) (hw:o.wait = []) (hse:∀ p,p ∈ o.sees ↔ ∃ r ∈ V.ready,r.path = p ∧ QA4 o.f r = true) (hu:∀ r ∈ V.ready,∀ r' ∈ V.ready,r.path = r'.path → r = r'):(∀ r ∈ V.ready,(QAo r.path M).getD false = QA4 f r) ∧ V.ready.filter (fun r=>decide (r.path ∈ o.sees)) = V.ready.filter (QA4 f):=by
 obtain ⟨_,_,M',q',g,_,hs⟩:=h.ex hb
 rw [hw] at g
 obtain ⟨rfl,_⟩:=g
 have key:∀ r ∈ V.ready,r.path ∈ o.sees ↔ QA4 f r = true:=fun r hr=>by
  rw [hse,h.fl]
  exact ⟨fun ⟨r',h1,h2,h3⟩=>by rw [hu r hr r' h1 h2.symm]; exact h3,fun h=>⟨r,hr,rfl,h⟩⟩
 refine ⟨fun r hr=>?_,List.filter_congr fun r hr=>?_⟩
 ·cases e:QA4 f r with
  | true=>rw [(hs _).2 ((key r hr).2 e)]; rfl
  | false=>
   cases e2:QAo r.path M' with
   | none=>rfl
   | some b=>
    cases b with
    | false=>rfl
    | true=>have:=(key r hr).1 ((hs _).1 e2); rw [e] at this; cases this
 ·cases e:QA4 f r with
  | true=>exact decide_eq_true ((key r hr).2 e)
  | false=>exact decide_eq_false fun h=>by have:=(key r hr).1 h; rw [e] at this; cases this
theorem QP3 {f:Flt} {L:List Rcd} {j:Nat} (h:j < L.length):((L.take (j + 1)).filter (QA4 f)).length = ((L.take j).filter (QA4 f)).length + if QA4 f L[j] = true then 1 else 0:=by
 rw [List.take_succ_eq_append_getElem h,List.filter_append,List.length_append]
 by_cases e:QA4 f L[j] = true
 ·simp [e]
 ·simp [e]
theorem Cpl.uniq {R:QAy Rcd} {D:QAy Sb} {W:RBus} (h:Cpl R D W):∀ r ∈ W.ready,∀ r' ∈ W.ready,r.path = r'.path → r = r':=fun r hr r' hr' e=>by
 have h1:=(h.mem r).1 hr
 have h2:=(h.mem r').1 hr'
 rw [e,h2] at h1
 exact (Option.some.inj h1).symm
theorem QRs {V:RBus} {o:RSb} (hf:V.find QDA = some o) (hb:o.behind = false):V.viewR QDA = ((V.ready.filter fun r=>decide (r.path ∈ o.sees)).map (·.path),0):=by
 unfold RBus.viewR
 rw [hf]
 simp only [hb,Bool.false_eq_true,if_false]
end Go.Ab
namespace Go.Ab
open Go Go.Proofs
theorem RbOk.one {f:Flt} (hf:QLh f):RbOk ⟨[],[⟨QDA,f,[],[],true⟩],0⟩ 0:=⟨fun t ht=>by simp at ht; subst ht; exact hf,by simp,by simp,by simp,by simp,by simp,by simp,Int.le_refl _,Int.le_refl _⟩
end Go.Ab
namespace Go.Ab
open Go Go.Proofs
set_option maxRecDepth 20000
def bM (M:QAy Bool):AObj:=.map (smK (fun b=>AV.bool b) M)
def QG5 (f:Flt) (nf mp:Nat) (x:AObj) (M:QAy Bool):List (Nat × AObj):=[(1,.box 27 [.str f.sub,.str f.tag]),(nf,x),(mp,bM M)]
def QUs (nf:Nat) (s:Nat × Nat × Int × List AObj):St:=⟨tmps 193 [(3,.ptr 0 0),(4,.ptr 1 0),(5,.ptr 4 0),(6,.ptr nf 0),(7,.map s.2.1),(8,.int .i64 s.2.2.1),(9,.int .i64 ((s.1:Int) - 1))],s.2.2.2⟩
def telI (l:List Int) (f:Flt) (nf:Nat) (s:Nat × Nat × Int × List AObj):Prop:=s.1 ≤ 20 ∧ ∃ k V W x y o B L M,CS [] 0 4 2 3 l k V (20 - s.1) (fun i=>i = 0) (QG5 f nf s.2.1 (.box 52 [x,y,.int .i64 W.last]) M) s.2.2.2 ∧ RbOk W (20 - s.1) ∧ nzL [x,y,.int .i64 W.last] = QBA W ∧ Ow V W [o] B L ∧ Tel f V o M s.2.2.1 ∧ k ≤ 10 + (20 - s.1) * 300 ∧ (s.1 = 0 → o.behind = false ∧ o.wait = []) ∧ s.2.1 ≠ nf ∧ nf ≠ 1 ∧ s.2.1 ≠ 1
def QYB (nf i mp:Nat) (q:Int) (G:List AObj) (m:Int):St:=⟨tmps 193 [(3,.ptr 0 0),(4,.ptr 1 0),(5,.ptr 4 0),(6,.ptr nf 0),(7,.map mp),(8,.int .i64 q),(9,.int .i64 ((i:Int) - 1)),(10,.int .i64 m)],G⟩
def QYC (nf i:Nat) (q:Int) (N:List Ntc) (s:Nat × List AObj):St:=⟨tmps 193 [(3,.ptr 0 0),(4,.ptr 1 0),(5,.ptr 4 0),(6,.ptr nf 0),(7,.map s.1),(8,.int .i64 q),(9,.int .i64 ((i:Int) - 1)),(11,.imm (N.map QAU))],s.2⟩
def QYD (nf i mp:Nat) (N:List Ntc) (s:Nat × Int × List AObj):St:=⟨tmps 193 [(3,.ptr 0 0),(4,.ptr 1 0),(5,.ptr 4 0),(6,.ptr nf 0),(7,.map mp),(8,.int .i64 s.2.1),(9,.int .i64 ((i:Int) - 1)),(11,.imm (N.map QAU)),(14,.int .i64 s.1)],s.2.2⟩
def QYE (f:Flt) (L:List Rcd) (mp:Nat) (G:List AObj) (a:Nat):St:=⟨tmps 193 [(4,.ptr 1 0),(5,.ptr 4 0),(7,.map mp),(15,.imm (L.map QAR)),(16,.int .i64 ((L.take a).filter (QA4 f)).length),(17,.int .i64 a)],G⟩
set_option maxHeartbeats 8000000 in
theorem QKL (l:List Int):ACalls Tryz.prog 11 [.imm (l.map fun v=>[.int .i64 v])] [] (.bool true) []:=by
 have hcT:∀ k,QAb k (l.map fun v=>[AV.int .i64 v]) = true:=fun k=>QAn fun x _=>rfl
 have hs1:[[AV.str [42]],[.str [98,108,111,99,107]],[.str [110,101,116,124,98,108,111,99,107]]] = tlSubs.map QAT:=rfl
 have hs2:[[AV.str []],[.str [115,101,97,116]],[.str [115,42]]] = tlTags.map QAT:=rfl
 refine QA2 cqq rfl ?_
 refine gS ?_
 refine gS ?_
 refine gS ?_
 rw [hs1]
 refine QAS (QJa (t:=l) (k:=0) rfl (by omega) tlSubs (by decide) (by decide)) ?_
 rintro _ _ ⟨u,rfl,hu,rfl⟩
 refine gs ?_
 rw [hs2]
 refine QAS (QJa (t:=l) (k:=1) rfl (by omega) tlTags (by decide) (by decide)) ?_
 rintro _ _ ⟨g,rfl,hg,rfl⟩
 refine gs ?_
 have hsub:=QYA u hu g hg
 have hf:QLh ⟨u,g⟩:=⟨QTQ.1 u hu,QTQ.2 g hg⟩
 refine gS ?_
 refine QAS (QIG [QAO l 2,.box 27 [.str u,.str g]] (fun i=>i < 2) (fun i hi=>hi)) ?_
 rintro _ G0 ⟨rfl,h0⟩
 refine gs ?_
 have s0:=(CS.start2 (l:=l) (k:=2) rfl h0 [(1,.box 27 [.str u,.str g])] (by simp)).new [.box 52 [.nils,.nils,.int .i64 0]] [(1,.box 27 [.str u,.str g]),(G0.length,.box 52 [.nils,.nils,.int .i64 0])] (fun p hp=>by
  simp only [List.mem_cons,List.not_mem_nil,or_false] at hp
  rcases hp with rfl | rfl
  ·exact .inl (by simp)
  ·exact .inr ⟨Nat.le_refl _,by simp⟩)
 have nf1:1 < G0.length:=by have:=h0.2.2; simp at this; omega
 generalize G0.length = nf at s0 nf1 ⊢
 generalize G0 ++ [AObj.box 52 [.nils,.nils,.int .i64 0]] = G1 at s0 ⊢
 have r1:=s0.loc (1,.box 27 [.str u,.str g]) (by simp)
 simp only at r1
 refine QBU ?_
 simp +decide -dsimp -implicitDefEqProofs [go_sem,r1]
 obtain ⟨B1,b1⟩:=s0.bx
 have sw:=QK6 b1 QDA ⟨u,g⟩ hf
 rw [hsub] at sw
 refine QAS sw ?_
 rintro _ G2 ⟨rfl,hx2⟩
 have s2:=s0.bus hx2
 refine gs ?_
 have q1:=s2.loc (1,.box 27 [.str u,.str g]) (by simp)
 have q2:=s2.loc (nf,.box 52 [.nils,.nils,.int .i64 0]) (by simp)
 simp only at q1 q2
 have cr:=QOz ⟨[],[],0⟩ QDA ⟨u,g⟩ RbOk.nil hf
 rw [hsub] at cr
 have cr':ACalls Tryz.prog 39 [.agg [.nils,.nils,.int .i64 0],.str QDA,.agg [.str u,.str g]] [] _ []:=ACalls.nz cr
 simp only at cr' s2
 have hw0:=Ow.both ⟨QDA,⟨u,g⟩,[],[],true⟩ rfl
 have ht0:=Tel.first ⟨u,g⟩
 have hO0:RbOk ⟨[],[⟨QDA,⟨u,g⟩,[],[],true⟩],0⟩ 0:=RbOk.one hf
 generalize (⟨QDA,⟨u,g⟩,[],[],true⟩:RSb) = o0 at *
 generalize (⟨[],[o0],0⟩:RBus) = X at *
 obtain ⟨f,ef⟩:∃ f:Flt,f = ⟨u,g⟩:=⟨_,rfl⟩
 have hff:QLh f:=by rw [ef]; exact hf
 have hcX:=QDk 0 X
 unfold QBA at cr' hcX
 refine QBU ?_
 simp +decide -dsimp -implicitDefEqProofs [go_sem,q1,q2]
 refine QAA cr' rfl (by simpa [QAE,QAB] using hcX) ?_
 have lt2:=(List.getElem?_eq_some_iff.1 q2).1
 simp +decide -dsimp -implicitDefEqProofs [go_sem,q2]
 rw [if_pos lt2]
 have s3:=s2.upd (b:=nf) ⟨(nf,.box 52 [.nils,.nils,.int .i64 0]),by simp,rfl⟩ (.box 52 (QBA X)) [(1,.box 27 [.str u,.str g]),(nf,.box 52 (QBA X))] (fun p hp=>by
  simp only [List.mem_cons,List.not_mem_nil,or_false] at hp
  rcases hp with rfl | rfl
  ·exact .inl ⟨by simp,by simp only; omega⟩
  ·exact .inr rfl)
 unfold QBA at s3
 generalize G2.set nf (.box 52 [.imm (X.ready.map QAR),.imm (X.subs.map QAv),.int .i64 X.last]) = G3 at s3 ⊢
 refine gS ?_
 have s4:=s3.new [.map []] [(1,.box 27 [.str u,.str g]),(nf,.box 52 (QBA X)),(G3.length,.map [])] (fun p hp=>by
  simp only [List.mem_cons,List.not_mem_nil,or_false] at hp
  rcases hp with rfl | rfl | rfl
  ·exact .inl (by simp)
  ·exact .inl (by simp [QBA])
  ·exact .inr ⟨Nat.le_refl _,by simp⟩)
 have lt3:=(List.getElem?_eq_some_iff.1 (s3.loc (nf,.box 52 (QBA X)) (by simp [QBA]))).1
 generalize G3 ++ [AObj.map []] = G4 at s4 ⊢
 generalize G3.length = mp at s4 lt3 ⊢
 simp only at lt3
 refine gS ?_
 refine gS ?_
 refine QAS (QB2 s4.tp (by omega) 20 (by decide)) ?_
 rintro _ _ ⟨x0,rfl,hx0,rfl⟩
 have s5:=s4.tape 3
 generalize G4.set 0 (QAO l (2 + 1)) = G5 at s5 ⊢
 obtain ⟨i0,rfl⟩:∃ i:Nat,x0 = i:=⟨_,(Int.toNat_of_nonneg hx0.1).symm⟩
 refine gs ?_
 have w0:((i0 + 1:Nat):Int) - 1 = i0:=by omega
 refine QBH (S:=Nat × Nat × Int × List AObj) (QUs nf) (fun s=>s.1) (telI l f nf) (i0 + 1,mp,0,G5) ⟨by show i0 + 1 ≤ 20; omega,3,X,X,_,_,o0,[o0],[],[],by rw [ef]; exact s5.bump (Nat.zero_le _),hO0.le (Nat.zero_le _),by simp [QBA,nzL,nz,QCp,QCA],hw0,by rw [ef]; exact ht0,by omega,fun h=>by simp at h,by show mp ≠ nf; omega,by omega,by show mp ≠ 1; omega⟩ (Wk.jk ?_) ?_
 ·simp +decide -dsimp -implicitDefEqProofs [go_sem,jkT]
 clear s5 s4 s3 s2 cr' cr q1 q2 r1 sw hx2 h0 s0 b1 hx0 hcX lt2 lt3 w0 hsub
 rintro ⟨i,mp,q,G⟩ ⟨hi,k,V,W,x,y,o,B,L,M,hC,hO,hnz,hw,ht,hk,hend,d1,d2,d3⟩
 simp only at hi hC hO ht hk hend d1 d3
 by_cases hi0:0 < i
 rotate_left
 ·obtain rfl:i = 0:=by omega
  obtain ⟨hb,hwt⟩:=hend rfl
  obtain ⟨B5,b5⟩:=hC.bx
  have hrl:V.ready.length ≤ 20:=b5.wl
  obtain ⟨_,_,_,hse⟩:=b5.lk hw.own
  obtain ⟨ha1,ha2⟩:=ht.all hb hwt (hse hb) b5.cp.uniq
  have hv:=QRs hw.own hb
  rw [ha2] at hv
  refine QAD ?_
  unfold QUs
  refine gs ?_
  refine gS ?_
  refine QAS (QSs b5 (by omega)) ?_
  rintro _ G2 ⟨rfl,hx2⟩
  have hC2:=hC.bus hx2
  refine gs ?_
  refine gS ?_
  refine QAQ (S:=Nat) (QYE f V.ready mp G2) (fun a=>V.ready.length - a) (fun a=>a ≤ V.ready.length) 0 (Nat.zero_le _) (Wk.jk ?_) ?_
  ·simp +decide -dsimp -implicitDefEqProofs [go_sem,jkT]
  intro a ha
  have rM:=hC2.loc (mp,bM M) (by simp [QG5])
  have rF:=hC2.loc (1,.box 27 [.str f.sub,.str f.tag]) (by simp [QG5])
  unfold bM at rM
  simp only at rM rF
  unfold QYE
  by_cases hal:a < V.ready.length
  ·have hal':(a:Int) < (V.ready.length:Int):=by omega
   have w2:IntKind.i64.wrap ((a:Int) + 1) = a + 1:=w64 (by omega) (by omega)
   have hra:V.ready[a] ∈ V.ready:=List.getElem_mem hal
   have hsd:=ha1 _ hra
   have hct:=QP3 (f:=f) hal
   have hcl:((V.ready.take a).filter (QA4 f)).length ≤ a:=Nat.le_trans (List.length_filter_le _ _) (by rw [List.length_take]; omega)
   have w3:IntKind.i64.wrap ((((V.ready.take a).filter (QA4 f)).length:Int) + 1) = ((V.ready.take a).filter (QA4 f)).length + 1:=w64 (by omega) (by omega)
   have cw:=QGD f V.ready[a] hff.1 hff.2 (QJC (b5.cp.sound hra))
   obtain ⟨r,hr⟩:∃ r,r = V.ready[a]:=⟨_,rfl⟩
   have hgr:V.ready[a]? = some r:=by rw [hr]; exact List.getElem?_eq_getElem hal
   rw [← hr] at cw hsd hct
   have hre:=QAc r
   have hkm:=QBy (fun b:Bool=>AV.bool b) r.path M
   have hfm:=QCd (fun b:Bool=>AV.bool b) r.path M
   generalize ((V.ready.take a).filter (QA4 f)).length = c at hct hcl w3 ⊢
   rw [QAc] at cw
   unfold QBM at cw
   simp +decide -dsimp -implicitDefEqProofs [go_sem,hal',hgr,hre,rF]
   refine QAK cw (by simp [QAB,QAE,QAW,QAF]) rfl ?_
   simp +decide -dsimp -implicitDefEqProofs [go_sem,hgr,hre,rM,hkm,hfm]
   refine ⟨hsd,?_⟩
   cases e:QA4 f r with
   | true=>
    rw [if_pos e] at hct
    rw [if_pos rfl]
    refine QAG (S:=Nat) (a + 1) hal (by show V.ready.length - (a + 1) < V.ready.length - a; omega) (Wk.jk ?_)
    simp +decide -dsimp -implicitDefEqProofs [go_sem,jkT,w2,w3,hct]
   | false=>
    rw [if_neg (by rw [e]; decide)] at hct
    rw [if_neg (by decide)]
    refine QAG (S:=Nat) (a + 1) hal (by show V.ready.length - (a + 1) < V.ready.length - a; omega) (Wk.jk ?_)
    simp +decide -dsimp -implicitDefEqProofs [go_sem,jkT,w2,hct]
  ·have ea:a = V.ready.length:=by omega
   subst ea
   rw [List.take_length]
   refine gs ?_
   obtain ⟨B6,b6⟩:=hC2.bx
   have vw:=QO6 b6 (by omega) QDA
   rw [hv] at vw
   refine gS ?_
   refine QAS vw ?_
   rintro _ G3 ⟨rfl,hx3⟩
   refine gs ?_
   refine QAD ?_
   refine gs ?_
   refine QAA QF6 rfl rfl ?_
   simp +decide -dsimp -implicitDefEqProofs [go_sem]
 have hi1:(1:Int) ≤ (i:Int):=by omega
 have w1:IntKind.i64.wrap (((i:Int) - 1) - 1) = ((i - 1:Nat):Int) - 1:=by rw [w64 (by omega) (by omega)]; omega
 refine QBU ?_
 unfold QUs
 simp +decide -dsimp -implicitDefEqProofs [go_sem,hi1]
 refine QA6 (S:=Nat × Int × List AObj) (fun s=>QUs nf (i,s)) (fun s=>telI l f nf (i - 1,s)) ?_ ?_
 rotate_left
 ·rintro ⟨mp',q',G'⟩ hok
  refine QAD ?_
  unfold QUs
  simp +decide -dsimp -implicitDefEqProofs [go_sem,w1]
  refine QAG (S:=Nat × Nat × Int × List AObj) (i - 1,mp',q',G') hok (by show i - 1 < i; omega) (Wk.jk ?_)
  simp +decide -dsimp -implicitDefEqProofs [go_sem,jkT]
 refine QBZ ?_
 refine QBU ?_
 have r0:=hC.loc (nf,.box 52 [x,y,.int .i64 W.last]) (by simp [QG5])
 simp only at r0
 simp +decide -dsimp -implicitDefEqProofs [go_sem,r0]
 refine QAS (hC.call hO (by omega) (by omega) [118] (by decide) hw.agr hnz) ?_
 rintro _ G3 ⟨V',W',k',rfl,hst,hk',hC3⟩
 obtain ⟨A',B',L',hw',hos,_⟩:=hw.step hst hO.rs
 obtain ⟨o',rfl,ht'⟩:=ht.step hos
 have hO':=hst.ok hO
 have r3:=hC3.loc (nf,.box 52 [x,y,.int .i64 W.last]) (by simp [QG5])
 simp only at r3
 have lt3:=(List.getElem?_eq_some_iff.1 r3).1
 have hC4:=hC3.upd (b:=nf) ⟨(nf,.box 52 [x,y,.int .i64 W.last]),by simp [QG5],rfl⟩ (.box 52 (QBA W')) (QG5 f nf mp (.box 52 (QBA W')) M) (fun p hp=>by
  simp only [QG5,List.mem_cons,List.not_mem_nil,or_false] at hp
  rcases hp with rfl | rfl | rfl
  ·exact .inl ⟨by simp [QG5],Ne.symm d2⟩
  ·exact .inr rfl
  ·exact .inl ⟨by simp [QG5],d1⟩)
 unfold QBA
 simp +decide -dsimp -implicitDefEqProofs [go_sem,r3]
 rw [if_pos lt3]
 unfold QBA at hC4
 generalize G3.set nf (.box 52 [.imm (W'.ready.map QAR),.imm (W'.subs.map QAv),.int .i64 W'.last]) = G4 at hC4 ⊢
 clear hC3 r3 lt3 r0 hC hst hw ht hnz hos
 refine QA6 (S:=Nat × List AObj) (fun s=>QUs nf (i,mp,q,s.2)) (fun s=>s.1 ≤ k' + 1 ∧ CS [] 0 4 2 3 l s.1 V' (20 - i + 1) (fun i=>i = 0) (QG5 f nf mp (.box 52 [.imm (W'.ready.map QAR),.imm (W'.subs.map QAv),.int .i64 W'.last]) M) s.2) (QAD ?_) ?_
 ·by_cases hi2:1 < i
  ·have hi3:(1:Int) < (i:Int):=by omega
   simp +decide -dsimp -implicitDefEqProofs [go_sem,hi3]
   refine QAS (QB2 hC4.tp (by omega) 3 (by decide)) ?_
   rintro _ _ ⟨z,rfl,hz,rfl⟩
   have hC5:=hC4.tape (k' + 1)
   generalize G4.set 0 (QAO l (k' + 1)) = G5 at hC5 ⊢
   by_cases hz0:0 < z
   ·simp +decide -dsimp -implicitDefEqProofs [go_sem,hz0]
    refine QAs (S:=Nat × Int × List AObj) (mp,q,G5) ⟨by show i - 1 ≤ 20; omega,k' + 1,V',W',_,_,o',B',L',M,hC5.bump (by show 20 - i + 1 ≤ 20 - (i - 1); omega),hO'.le (by show 20 - i + 1 ≤ 20 - (i - 1); omega),by simp [QBA,nzL,nz,QCp,QCA],hw',ht',by show k' + 1 ≤ 10 + (20 - (i - 1)) * 300; omega,fun h=>by simp only at h; omega,d1,d2,d3⟩ (Wk.jk ?_)
    simp +decide -dsimp -implicitDefEqProofs [go_sem,jkT]
   ·simp +decide -dsimp -implicitDefEqProofs [go_sem,hz0]
    refine QAs (S:=Nat × List AObj) (k' + 1,G5) ⟨Nat.le_refl _,hC5⟩ (Wk.jk ?_)
    simp +decide -dsimp -implicitDefEqProofs [go_sem,jkT]
  ·have hi3:¬ (1:Int) < (i:Int):=by omega
   simp +decide -dsimp -implicitDefEqProofs [go_sem,hi3]
   refine QAs (S:=Nat × List AObj) (k',G4) ⟨Nat.le_succ _,hC4⟩ (Wk.jk ?_)
   simp +decide -dsimp -implicitDefEqProofs [go_sem,jkT]
 rintro ⟨k5,G5⟩ ⟨hk5,hC5⟩
 simp only at hk5 hC5
 unfold QUs
 refine gS ?_
 refine QAS (QB2 hC5.tp (by omega) 4 (by decide)) ?_
 rintro _ _ ⟨z,rfl,hz,rfl⟩
 have hC6:=hC5.tape (k5 + 1)
 generalize G5.set 0 (QAO l (k5 + 1)) = G6 at hC6 ⊢
 refine gs ?_
 refine QA6 (S:=Int) (QYB nf i mp q G6) (fun m=>i = 1 → m = 1000) (QAD ?_) ?_
 ·by_cases hi2:i = 1
  ·have hi4:(i:Int) = 1:=by omega
   simp +decide -dsimp -implicitDefEqProofs [go_sem,hi4]
   refine QAs (S:=Int) 1000 (fun _=>rfl) (Wk.jk ?_)
   simp +decide -dsimp -implicitDefEqProofs [go_sem,jkT,hi4]
  ·have hi4:¬ (i:Int) - 1 = 0:=by omega
   have hi5:¬ (i:Int) = 1:=by omega
   simp +decide -dsimp -implicitDefEqProofs [go_sem,hi4]
   refine QAs (S:=Int) z (fun h=>absurd h hi2) (Wk.jk ?_)
   simp +decide -dsimp -implicitDefEqProofs [go_sem,jkT]
 rintro m hm
 unfold QYB
 obtain ⟨B6,b6⟩:=hC6.bx
 obtain ⟨wl1,wl2,wl3,_⟩:=b6.lk hw'.own
 obtain ⟨y',e1,e2,e3,e4,fo,e5⟩:=ht'.read hw'.own wl2 m
 obtain ⟨ft1,ft2⟩:=QUr hw'.own (fun r hr=>b6.cp.sound hr) wl3 wl1 b6.wl m
 have rd:=QE0 b6 (by omega) QDA m
 rw [e1,e3,e4] at rd
 refine gS ?_
 refine QAS rd ?_
 rintro _ G7 ⟨rfl,hx7⟩
 have hC7:=hC6.bus hx7
 have hw7:=hw'.put' (y:=y') (e2.trans (hw'.an o' (by simp)))
 have hl7:(⟨V'.ready,QEF QDA y' V'.subs,V'.last⟩:RBus).last = V'.last:=rfl
 generalize (⟨V'.ready,QEF QDA y' V'.subs,V'.last⟩:RBus) = V2 at hC7 hw7 hl7
 generalize (V'.readR QDA m).2.1 = N at fo ft1 ft2 ⊢
 clear rd hx7 e1 e3 e4 hC6 hC5 hC4
 refine gs ?_
 refine gS ?_
 refine QA6 (S:=Nat × List AObj) (QYC nf i q N) (fun s=>CS [] 0 4 2 3 l (k5 + 1) V2 (20 - i + 1) (fun i=>i = 0) (QG5 f nf s.1 (.box 52 [.imm (W'.ready.map QAR),.imm (W'.subs.map QAv),.int .i64 W'.last]) (if o'.behind = true then [] else M)) s.2 ∧ s.1 ≠ nf ∧ s.1 ≠ 1) (QAD ?_) ?_
 ·cases hb:o'.behind with
  | true=>
   refine gs ?_
   have lf7:=(List.getElem?_eq_some_iff.1 (hC7.loc (nf,.box 52 [.imm (W'.ready.map QAR),.imm (W'.subs.map QAv),.int .i64 W'.last]) (by simp [QG5]))).1
   simp only at lf7
   refine QAs (S:=Nat × List AObj) (G7.length,G7 ++ [.map []]) ⟨hC7.new [.map []] (QG5 f nf G7.length (.box 52 [.imm (W'.ready.map QAR),.imm (W'.subs.map QAv),.int .i64 W'.last]) []) (fun p hp=>by
    simp only [QG5,List.mem_cons,List.not_mem_nil,or_false] at hp
    rcases hp with rfl | rfl | rfl
    ·exact .inl (by simp [QG5])
    ·exact .inl (by simp [QG5])
    ·exact .inr ⟨Nat.le_refl _,by simp [bM,smK]⟩),by show G7.length ≠ nf; omega,by show G7.length ≠ 1; have:=(List.getElem?_eq_some_iff.1 (hC7.loc (1,.box 27 [.str f.sub,.str f.tag]) (by simp [QG5]))).1; simp only at this; omega⟩ (Wk.jk ?_)
   simp +decide -dsimp -implicitDefEqProofs [go_sem,jkT]
  | false=>
   refine gs ?_
   refine QAs (S:=Nat × List AObj) (mp,G7) ⟨hC7,d1,d3⟩ (Wk.jk ?_)
   simp +decide -dsimp -implicitDefEqProofs [go_sem,jkT]
 rintro ⟨mp2,G8⟩ ⟨hC8,d4,d5⟩
 simp only at hC8 d4 d5
 generalize (if o'.behind = true then [] else M) = M0 at fo hC8
 unfold QYC
 refine gS ?_
 refine QAD ?_
 refine gs ?_
 refine QAQ (S:=Nat × Int × List AObj) (QYD nf i mp2 N) (fun s=>N.length - s.1) (fun s=>s.1 ≤ N.length ∧ ∃ M1,CS [] 0 4 2 3 l (k5 + 1) V2 (20 - i + 1) (fun i=>i = 0) (QG5 f nf mp2 (.box 52 [.imm (W'.ready.map QAR),.imm (W'.subs.map QAv),.int .i64 W'.last]) M1) s.2.2 ∧ Fol f y' M1 s.2.1 (N.drop s.1) V'.last) (0,q,G8) ⟨Nat.zero_le _,M0,hC8,by simpa using fo⟩ (Wk.jk ?_) ?_
 ·simp +decide -dsimp -implicitDefEqProofs [go_sem,jkT]
 rintro ⟨a,q1,G9⟩ ⟨ha,M1,hC9,fo9⟩
 simp only at ha hC9 fo9
 unfold QYD
 by_cases hal:a < N.length
 rotate_left
 ·have hal':¬ (a:Int) < (N.length:Int):=by omega
  rw [List.drop_eq_nil_of_le (by omega)] at fo9
  simp +decide -dsimp -implicitDefEqProofs [go_sem,hal']
  refine QAs (S:=Nat × Int × List AObj) (mp2,q1,G9) ⟨by show i - 1 ≤ 20; omega,k5 + 1,V2,W',_,_,y',B',L',M1,hC9.bump (by show 20 - i + 1 ≤ 20 - (i - 1); omega),hO'.le (by show 20 - i + 1 ≤ 20 - (i - 1); omega),by simp [QBA,nzL,nz,QCp,QCA],hw7,fo9.done hl7,by show k5 + 1 ≤ 10 + (20 - (i - 1)) * 300; omega,fun h=>⟨fo9.b,e5 (by rw [hm (by simp only at h; omega)]; decide) wl1⟩,d4,by assumption,d5⟩ (Wk.jk ?_)
  simp +decide -dsimp -implicitDefEqProofs [go_sem,jkT]
 have hd:N.drop a = N[a] :: N.drop (a + 1):=List.drop_eq_getElem_cons hal
 rw [hd] at fo9
 obtain ⟨n1,n2,n3,n4,fo10⟩:=fo9.next
 have hsn:=ft1 _ (List.getElem_mem hal)
 obtain ⟨nt,hnt⟩:∃ nt,nt = N[a]:=⟨_,rfl⟩
 have hgn:N[a]? = some nt:=by rw [hnt]; exact List.getElem?_eq_getElem hal
 rw [← hnt] at n1 n2 n3 n4 fo10 hsn
 clear hnt hd fo9
 have hne:=QB4 nt
 have hal':(a:Int) < (N.length:Int):=by omega
 have hsq:¬ nt.seq < q1:=by omega
 have w2:IntKind.i64.wrap ((a:Int) + 1) = a + 1:=w64 (by omega) (by omega)
 have hkm:=QBy (fun b:Bool=>AV.bool b) nt.rc.path M1
 have hfm:=QCd (fun b:Bool=>AV.bool b) nt.rc.path M1
 have hsm:=fun b=>QDv (fun b:Bool=>AV.bool b) nt.rc.path b M1
 have rM:=hC9.loc (mp2,bM M1) (by simp [QG5])
 have rF:=hC9.loc (1,.box 27 [.str f.sub,.str f.tag]) (by simp [QG5])
 unfold bM at rM
 simp only at rM rF hsm
 have ltM:=(List.getElem?_eq_some_iff.1 rM).1
 have hC10:=hC9.upd (b:=mp2) ⟨(mp2,bM M1),by simp [QG5],rfl⟩ (bM (QBT nt.rc.path (decide (nt.kind = 1)) M1)) (QG5 f nf mp2 (.box 52 [.imm (W'.ready.map QAR),.imm (W'.subs.map QAv),.int .i64 W'.last]) (QBT nt.rc.path (decide (nt.kind = 1)) M1)) (fun p hp=>by
  simp only [QG5,List.mem_cons,List.not_mem_nil,or_false] at hp
  rcases hp with rfl | rfl | rfl
  ·exact .inl ⟨by simp [QG5],Ne.symm d5⟩
  ·exact .inl ⟨by simp [QG5],Ne.symm d4⟩
  ·exact .inr rfl)
 have nx:(fun s:Nat × Int × List AObj=>s.1 ≤ N.length ∧ ∃ M1,CS [] 0 4 2 3 l (k5 + 1) V2 (20 - i + 1) (fun i=>i = 0) (QG5 f nf mp2 (.box 52 [.imm (W'.ready.map QAR),.imm (W'.subs.map QAv),.int .i64 W'.last]) M1) s.2.2 ∧ Fol f y' M1 s.2.1 (N.drop s.1) V'.last) (a + 1,nt.seq,G9.set mp2 (bM (QBT nt.rc.path (decide (nt.kind = 1)) M1))):=⟨hal,_,hC10,fo10⟩
 generalize hbv:decide (nt.kind = 1) = bv at nx
 by_cases k2:nt.kind = 2
 ·have k1:¬ nt.kind = 1:=by omega
  have hM:=n3 k2
  rw [hM] at hfm
  obtain rfl:bv = false:=by rw [← hbv]; exact decide_eq_false k1
  simp +decide -dsimp -implicitDefEqProofs [go_sem,hal',hgn,hne,hsq,k2,rM,hkm,hfm]
  refine ⟨by simp +decide [QBB,QCz],by simp +decide [QBB,QCz],?_⟩
  rw [hsm]
  refine QAG (S:=Nat × Int × List AObj) (a + 1,nt.seq,G9.set mp2 (bM (QBT nt.rc.path false M1))) nx (by show N.length - (a + 1) < N.length - a; omega) (Wk.jk ?_)
  simp +decide -dsimp -implicitDefEqProofs [go_sem,jkT,w2]
 by_cases k1:nt.kind = 1
 ·have hw1:=n4 k1
  have cw:=QGD f nt.rc hff.1 hff.2 (QJC hsn)
  rw [hw1,QAc] at cw
  unfold QBM at cw
  obtain rfl:bv = true:=by rw [← hbv]; exact decide_eq_true k1
  simp +decide -dsimp -implicitDefEqProofs [go_sem,hal',hgn,hne,hsq,k1,rF]
  refine QAK cw (by simp [QAB,QAE,QAW,QAF]) rfl ?_
  simp +decide -dsimp -implicitDefEqProofs [go_sem,hgn,hne,k1,rM,hkm]
  refine ⟨by simp +decide [QBB,QCz],?_⟩
  rw [hsm]
  refine QAG (S:=Nat × Int × List AObj) (a + 1,nt.seq,G9.set mp2 (bM (QBT nt.rc.path true M1))) nx (by show N.length - (a + 1) < N.length - a; omega) (Wk.jk ?_)
  simp +decide -dsimp -implicitDefEqProofs [go_sem,jkT,w2]
 obtain rfl:bv = false:=by rw [← hbv]; exact decide_eq_false k1
 simp +decide -dsimp -implicitDefEqProofs [go_sem,hal',hgn,hne,hsq,k1,k2,rM,hkm]
 refine ⟨by simp +decide [QBB,QCz],?_⟩
 rw [hsm,beq_eq_false_iff_ne.2 k1]
 refine QAG (S:=Nat × Int × List AObj) (a + 1,nt.seq,G9.set mp2 (bM (QBT nt.rc.path false M1))) nx (by show N.length - (a + 1) < N.length - a; omega) (Wk.jk ?_)
 simp +decide -dsimp -implicitDefEqProofs [go_sem,jkT,w2]
end Go.Ab
