/- Regions that draw their order, where what a call does is told by a property: every order is walked. -/
import Derived.Test.YtneghlianebffaaGreatDoorA6
import Derived.Test.YtneghlianebffaaGreatDoorTQ
set_option maxHeartbeats 8000000
namespace Go.Ab
open Go
set_option linter.unusedSectionVars false
variable [Glob]
theorem exec_step {P:Program} {own:Bool} {o:Oper} {op:AOp} {T:List AV} {H:List AObj} {K:List AObj → AV → Prop} (hop:QDy P own o = some op) (he:QCB P op T H K):QNk P o T H K:=by
 unfold QCB at he
 split at he
 ·obtain ⟨fo,as',ts,h1,rfl,rfl⟩:=QHP hop
  exact QPB h1 (by simpa [List.map_map,Function.comp_def] using he)
 ·obtain ⟨y,h1,rfl⟩:=QKt hop
  exact QQh h1 rfl he
 ·obtain ⟨pre,wr,val,hk,hS⟩:=QRE (QNl hop he)
  exact hS.toR hk
def anyA (P:Program) (l:List QD2) (bs:List Nat) (Q:St → Prop):Nat → List Nat → St → Prop
 | 0,_,σ=>Q σ
 | n + 1,ds,σ=>∀ (i:Nat) (o:QD2),l[i]? = some o → i ∉ ds → (∀ j,(bs.getD i 0).testBit j = true → j ∈ ds) → QCB P o.op σ.T σ.H fun H' v=>anyA P l bs Q n (i :: ds) ⟨QEE σ.T o.dst v,H'⟩
theorem compileOps_at {P:Program} {own:List Nat} {ops:Array Oper}:∀ (l:List Oper) (al:List QD2),QB3 P own ops l = some al → ∀ (j:Nat) (o:Oper),l[j]? = some o → ∃ op g,QDy P (QTp own o) o = some op ∧ QDP ops o.guard = some g ∧ al[j]? = some ⟨o.dst,op,g⟩
 | [],_,_,j,o,h=>by simp at h
 | x :: r,al,hc,j,o,h=>by
  unfold QB3 at hc
  split at hc
  ·rename_i op g hop hg
   cases hr':QB3 P own ops r with
   | none=>simp [hr'] at hc
   | some l=>
    simp [hr'] at hc
    subst hc
    cases j with
    | zero=>simp at h; subst h; exact ⟨op,g,hop,hg,rfl⟩
    | succ j=>exact compileOps_at r l hr' j o (by simpa using h)
  ·cases hc
theorem anyA_sound {P:Program} {own:List Nat} {ops:Array Oper} {al:List QD2} (hc:QB3 P own ops ops.toList = some al) (hg:al.all (fun o=>o.guard.isNone) = true) (heo:QJs ops = true) {K:St → Prop} {Q:Exit → Act → World → Prop}:
  ∀ (fuel:Nat) (listed:Array Bool) (ds:List Nat) (σ:St) (c:Cx) (a:Act),listed.size = ops.size → QY2 ops listed → (∀ i,i < ops.size → (listed.getD i false = true ↔ i ∈ ds)) → unl ops listed = fuel → Rel c → c.H = σ.H → Fr c σ.T a → anyA P al (Region.before ops).toList K fuel ds σ →
   (∀ σ' c' a',K σ' → Rel c' → Ext c c' → c'.H = σ'.H → Fr c' σ'.T a' → Q .normal a' c'.w) → wpAny P .any ops Q fuel listed a c.w:=by
 have noready:∀ (listed:Array Bool),listed.size = ops.size → Region.ready .any ops listed = [] → ∀ i,i < ops.size → listed.getD i false = true:=by
  intro listed hls hnil i
  induction i using Nat.strongRecOn with
  | _ i ih=>
   intro hi
   cases hl:listed.getD i false with
   | true=>rfl
   | false=>
    exfalso
    have:i ∈ Region.ready .any ops listed:=by
     rw [mem_ready]
     refine ⟨?_,_,Array.getElem?_eq_getElem hi,fun e he hb=>?_⟩
     ·have hil:i < listed.size:=by omega
      simpa [Array.getD_eq_getD_getElem?,hil] using hl
     ·have:=QLN heo (Array.getElem?_eq_getElem hi) he hb
      exact ih e.on this (by omega)
    rw [hnil] at this
    cases this
 intro fuel
 induction fuel with
 | zero=>
  intro listed ds σ c a hls hsh hd hu hr hH hF hA hQ
  have hall:∀ i,i < ops.size → listed.getD i false = true:=by
   intro i hi
   cases hl:listed.getD i false with
   | true=>rfl
   | false=>
    have:i ∈ (List.range ops.size).filter fun i=>!listed.getD i false:=List.mem_filter.2 ⟨List.mem_range.2 hi,by rw [hl]; rfl⟩
    have:=List.length_pos_of_mem this
    simp only [unl] at hu
    omega
  refine ⟨?_,hQ σ c a hA hr (.refl c) hH hF⟩
  cases hrd:Region.ready .any ops listed with
  | nil=>rfl
  | cons x xs=>
   have hx:x ∈ Region.ready .any ops listed:=by rw [hrd]; simp
   rw [mem_ready] at hx
   obtain ⟨h1,o,ho,_⟩:=hx
   have hxl:=(Array.getElem?_eq_some_iff.1 ho).1
   have h2:=hall x hxl
   have hil:x < listed.size:=by omega
   simp [Array.getD_eq_getD_getElem?,hil] at h1 h2
   rw [h1] at h2; cases h2
 | succ fuel ih=>
  intro listed ds σ c a hls hsh hd hu hr hH hF hA hQ
  refine ⟨fun hnil=>?_,fun j hj=>?_⟩
  ·have hall:=noready listed hls hnil
   have:unl ops listed = 0:=by
    unfold unl
    rw [List.length_eq_zero_iff,List.filter_eq_nil_iff]
    intro i hi
    rw [hall i (List.mem_range.1 hi)]; simp
   omega
  ·have hj':=hj
   rw [mem_ready] at hj'
   obtain ⟨hjl,o,ho,_⟩:=hj'
   have hjsz:j < ops.size:=(Array.getElem?_eq_some_iff.1 ho).1
   have hjlt:j < listed.size:=by omega
   have hLj:listed.getD j false = false:=by simpa [Array.getD_eq_getD_getElem?,hjlt] using hjl
   obtain ⟨op,g,hop,hgu,hal⟩:=compileOps_at _ _ hc j o (by simpa using ho)
   have hgn:g = none:=by
    have:=List.all_eq_true.1 hg _ (List.mem_of_getElem? hal)
    simpa using this
   have hog:o.guard = none:=by
    subst hgn
    cases h:o.guard with
    | none=>rfl
    | some gd=>
     rw [h] at hgu
     obtain ⟨x,w⟩:=gd
     simp only [QDP] at hgu
     cases hb:(ops[x]?).bind (·.dst) with
     | none=>rw [hb] at hgu; cases hgu
     | some d=>rw [hb] at hgu; cases hgu
   have hst:=hA j _ hal (fun hm=>by rw [(hd j hjsz).2 hm] at hLj; cases hLj) (fun i hi=>by
    have e0:(Region.before ops).toList.getD j 0 = (Region.before ops).getD j 0:=by simp [List.getD_eq_getElem?_getD,Array.getD_eq_getD_getElem?]
    have h1:((Region.before ops).getD j 0).testBit i = true:=by rw [← e0]; exact hi
    have h2:=QJN hsh hj h1
    have:i < ops.size:=by
     rw [← hls]
     by_cases hlt:i < listed.size
     ·exact hlt
     ·rw [Array.getD_eq_getD_getElem?,Array.getElem?_eq_none (by omega)] at h2; cases h2
    exact (hd i this).1 h2)
   have hget:∀ i,(listed.setIfInBounds j true).getD i false = if i = j then true else listed.getD i false:=fun i=>by
    simp only [Array.getD_eq_getD_getElem?,Array.getElem?_setIfInBounds]
    by_cases e:j = i
    ·subst e; simp [hjlt]
    ·rw [if_neg e,if_neg (Ne.symm e)]
   unfold wpOp
   rw [ho]
   simp only [QH6 hog,if_true]
   refine .inl (exec_step hop hst c a hr hH hF _ Q fun v c' val hk h3 h4 h6=>?_)
   refine ih (listed.setIfInBounds j true) (j :: ds) ⟨QEE σ.T o.dst val,c'.H⟩ c' _ (by simpa using hls) (fun x y hx hb=>?_) (fun i hi=>?_) ?_ h3 rfl (QM0 (QI6 h4 hr hF) h6 o.dst) hk fun σ2 c2 a2 h7 h8 h9 h10 h11=>hQ σ2 c2 a2 h7 h8 (h4.trans h9) h10 h11
   ·rw [hget] at hx ⊢
    split
    ·rfl
    ·split at hx
     ·rename_i e; subst e; exact QJN hsh hj hb
     ·exact hsh x y hx hb
   ·rw [hget,List.mem_cons]
    split
    ·rename_i e; simp [e]
    ·rename_i e; rw [hd i hi]; simp [e]
   ·have hlen:∀ (L:List Nat),L.Nodup → j ∈ L → (L.filter fun i=>!listed.getD i false).length = (L.filter fun i=>!(listed.setIfInBounds j true).getD i false).length + 1:=by
     intro L
     induction L with
     | nil=>intro _ h; cases h
     | cons x L ihL=>
      intro nd hm
      obtain ⟨n1,n2⟩:=List.nodup_cons.1 nd
      by_cases e:x = j
      ·subst e
       have e2:(L.filter fun i=>!(listed.setIfInBounds x true).getD i false) = L.filter fun i=>!listed.getD i false:=List.filter_congr fun y hy=>by rw [hget,if_neg (by rintro rfl; exact n1 hy)]
       rw [List.filter_cons,List.filter_cons,if_pos (by rw [hLj]; rfl),if_neg (by rw [hget,if_pos rfl]; simp),e2]; rfl
      ·have:=ihL n2 (by rcases List.mem_cons.1 hm with h | h; exact absurd h.symm e; exact h)
       rw [List.filter_cons,List.filter_cons,hget,if_neg e]
       split
       ·simp only [List.length_cons,this]
       ·exact this
    have:=hlen (List.range ops.size) List.nodup_range (List.mem_range.2 hjsz)
    unfold unl at hu ⊢
    omega
theorem awp_drawA {P:Program} {k:Nat} {l:List QD2} {bs:List Nat} {Q:Exit → St → Prop} {σ:St} (hg:l.all (fun o=>o.guard.isNone) = true) (h:anyA P l bs (Q .normal) l.length [] σ):awp P k (.draw l bs) Q σ:=by
 intro own code hc
 cases code <;> simp only [QAd,Option.map_eq_some_iff,reduceCtorEq,and_false,exists_false] at hc
 case region id ops draw=>
  cases draw
  ·simp only [Bool.false_and,Bool.false_eq_true,if_false,Option.map_eq_some_iff,reduceCtorEq,and_false,exists_false] at hc
  ·split at hc
   ·cases hc
   ·rename_i hchk
    simp only [Bool.true_and,Bool.not_eq_true',Bool.not_eq_false,Bool.and_eq_true] at hchk
    obtain ⟨⟨hmix,_⟩,heo⟩:=hchk
    simp only [if_true,Option.map_eq_some_iff,ACode.draw.injEq] at hc
    obtain ⟨l',hl,rfl,rfl⟩:=hc
    have hlen:l'.length = ops.size:=by
     have key:∀ (l:List Oper) (al:List QD2),QB3 P own ops l = some al → al.length = l.length:=by
      intro l
      induction l with
      | nil=>intro al h; simp [QB3] at h; subst h; rfl
      | cons x r ih=>
       intro al h
       unfold QB3 at h
       split at h
       ·cases hr':QB3 P own ops r with
        | none=>simp [hr'] at h
        | some l=>simp [hr'] at h; subst h; simp [ih l hr']
       ·cases h
     simpa using key _ _ hl
    refine fun c a hr hH hF Q' hQ'=>wp_region_any hmix ?_
    obtain ⟨g1,g2⟩:=QND hr
    have hw:{ c.w with drawn:=c.w.drawn + 1 } = ({ c with w:=c.w.drew }:Cx).w:=rfl
    rw [hw]
    rw [hlen] at h
    have hrep:∀ i,(Array.replicate ops.size false).getD i false = false:=fun i=>by
     simp [Array.getD_eq_getD_getElem?,Array.getElem?_replicate]; split <;> simp
    refine anyA_sound hl hg heo ops.size (Array.replicate ops.size false) [] σ { c with w:=c.w.drew } a (by simp) ?_ (fun i _=>by rw [hrep]; simp) ?_ g1 hH (QI6 g2 hr hF) h fun σ' c' a' k0 k1 k2 k3 k4=>hQ' .normal σ' c' a' k0 k1 ((g2.trans k2).toN k) k3 k4
    ·intro j i hj
     rw [hrep] at hj; cases hj
    ·unfold unl
     rw [List.filter_eq_self.2 (fun i _=>by rw [hrep]; rfl),List.length_range]
 all_goals first | (cases hc; done) | (split at hc <;> (cases hc; done)) | (obtain ⟨_,_,hc⟩:=hc; first | (cases hc; done) | (split at hc <;> (cases hc; done)))
end Go.Ab
namespace Go.Ab
open Go Go.Proofs
set_option maxRecDepth 20000
def QDA:Txt:=[111,119,110]
section
variable {H G:List AObj} {ob ro so:Nat} {W:RBus} {n:Nat} {K:Nat → Prop} {B:Bus}
theorem Bx.on (h:Bx H ob ro so W n K B) (hl:H.length ≤ G.length) (hk:∀ i,QQw ob ro so B i → G[i]? = H[i]?) {K':Nat → Prop} (hK:∀ i,K' i → i < G.length ∧ ¬ QQw ob ro so B i):Bx G ob ro so W n K' B:=
 ⟨⟨by rw [hk _ (.inl rfl)]; exact h.at_.box,by rw [hk _ (.inr (.inl rfl))]; exact h.at_.rdy,by rw [hk _ (.inr (.inr (.inl rfl)))]; exact h.at_.sbs,h.at_.rso,fun j p hp=>(h.at_.sub j p hp).keep (fun _ h=>h) fun q hq=>hk q (.inr (.inr (.inr ⟨j,p,hp,hq⟩))),fun j hj=>⟨Nat.lt_of_lt_of_le (h.at_.out j hj).1 hl,(h.at_.out j hj).2⟩,h.at_.dis⟩,h.cp,h.la,h.q0,h.q1,h.rl,h.wl,hK⟩
theorem Bx.lt (h:Bx H ob ro so W n K B) {i:Nat} (hi:QQw ob ro so B i):i < H.length:=by
 rcases hi with rfl | rfl | rfl | hi
 ·exact (List.getElem?_eq_some_iff.1 h.at_.box).1
 ·exact (List.getElem?_eq_some_iff.1 h.at_.rdy).1
 ·exact (List.getElem?_eq_some_iff.1 h.at_.sbs).1
 ·exact (h.at_.out i hi).1
end
theorem Bx.lk {H:List AObj} {ob ro so:Nat} {W:RBus} {n:Nat} {K:Nat → Prop} {B:Bus} (h:Bx H ob ro so W n K B) {nm:Txt} {t:RSb} (hf:W.find nm = some t):t.wait.length ≤ 64 ∧ (t.behind = true → t.wait = []) ∧ (∀ m ∈ t.wait,QAk m.rc = true) ∧ (t.behind = false → ∀ p,p ∈ t.sees ↔ ∃ r ∈ W.ready,r.path = p ∧ QA4 t.f r = true):=by
 have hs:=h.cp.sub nm
 rw [hf] at hs
 cases hg:QAo nm (QCP B.subs) with
 | none=>rw [hg] at hs; exact hs.elim
 | some s=>
  rw [hg] at hs
  have hl:QDX B.ready s t:=hs
  refine ⟨by rw [← hl.w]; exact hl.wl,fun hb=>by rw [← hl.w]; exact hl.bw (hl.b.trans hb),fun m hm=>hl.wr m (by rw [hl.w]; exact hm),fun hb p=>?_⟩
  rw [← hl.se (hl.b.trans hb) p,hl.wa (hl.b.trans hb) p,hl.f]
  constructor
  ·rintro ⟨r,h1,h2⟩
   obtain ⟨h3,_⟩:=h.cp.key p r h1
   exact ⟨r,(h.cp.mem r).2 (by rw [h3]; exact h1),h3,h2⟩
  ·rintro ⟨r,h1,rfl,h2⟩
   exact ⟨r,(h.cp.mem r).1 h1,h2⟩
def tlSubs:List Txt:=[[42],[98,108,111,99,107],[110,101,116,124,98,108,111,99,107]]
def tlTags:List Txt:=[[],[115,101,97,116],[115,42]]
theorem QYA:∀ s ∈ tlSubs,∀ g ∈ tlTags,(⟨[],[],0⟩:RBus).subR QDA ⟨s,g⟩ = (⟨[],[⟨QDA,⟨s,g⟩,[],[],true⟩],0⟩,0):=by decide +kernel
theorem QTQ:(∀ s ∈ tlSubs,s.length ≤ 1000) ∧ ∀ s ∈ tlTags,s.length ≤ 1000:=by decide
theorem QUr {V:RBus} {o:RSb} {n:Nat} (hf:V.find QDA = some o) (hs:∀ r ∈ V.ready,QAk r = true) (hw:∀ m ∈ o.wait,QAk m.rc = true) (hl:o.wait.length ≤ 64) (hr:V.ready.length ≤ n) (most:Int):(∀ x ∈ (V.readR QDA most).2.1,QAk x.rc = true) ∧ (V.readR QDA most).2.1.length ≤ n + 64:=by
 unfold RBus.readR
 rw [hf]
 simp only
 split
 ·refine ⟨fun x hx=>?_,?_⟩
  ·obtain ⟨r,hr',rfl⟩:=List.mem_map.1 hx
   exact hs r (List.mem_filter.1 hr').1
  ·rw [List.length_map]
   have:=List.length_filter_le (QA4 o.f) V.ready
   unfold RBus.wanted; omega
 ·refine ⟨fun x hx=>hw x (List.mem_of_mem_take hx),?_⟩
  rw [List.length_take]; omega
end Go.Ab
namespace Go.Ab
open Go Go.Proofs
set_option maxRecDepth 20000
def Two (G:List AObj) (oa ra sa ob rb sb:Nat) (Va Vb:RBus) (n:Nat) (K:Nat → Prop):Prop:=
 ∃ Ba Bb,Bx G oa ra sa Va n (fun i=>K i ∨ QQw ob rb sb Bb i) Ba ∧ Bx G ob rb sb Vb n (fun i=>K i ∨ QQw oa ra sa Ba i) Bb
section
variable {G G':List AObj} {oa ra sa ob rb sb n n':Nat} {Va Vb V':RBus} {K:Nat → Prop} {Ba Bb:Bus}
theorem Two.swap (h:Two G oa ra sa ob rb sb Va Vb n K):Two G ob rb sb oa ra sa Vb Va n K:=let ⟨Ba,Bb,h1,h2⟩:=h; ⟨Bb,Ba,h2,h1⟩
theorem Two.on (hb:Bx G ob rb sb Vb n (fun i=>K i ∨ QQw oa ra sa Ba i) Bb) (hx:bxR G oa ra sa V' n' (fun i=>K i ∨ QQw ob rb sb Bb i) G') (hn:n ≤ n'):Two G' oa ra sa ob rb sb V' Vb n' K ∧ ∀ i,K i → G'[i]? = G[i]?:=by
 obtain ⟨⟨Ba',hB⟩,hk,hl⟩:=hx
 refine ⟨⟨Ba',Bb,hB,(hb.on hl (fun i hi=>hk i (.inr hi)) fun i hi=>?_).bump hn⟩,fun i hi=>hk i (.inl hi)⟩
 rcases hi with hi | hi
 ·have:=hb.kp i (.inl hi)
  exact ⟨by omega,this.2⟩
 ·exact ⟨hB.lt hi,fun hc=>(hB.kp i (.inr hc)).2 hi⟩
theorem Two.keep (h:Two G oa ra sa ob rb sb Va Vb n K) (hl:G.length ≤ G'.length) {K':Nat → Prop} (hk:∀ i,i < G.length → ¬ K i → G'[i]? = G[i]?) (hK:∀ i,K' i → K i ∨ (G.length ≤ i ∧ i < G'.length)):Two G' oa ra sa ob rb sb Va Vb n K':=by
 obtain ⟨Ba,Bb,h1,h2⟩:=h
 have na:∀ i,QQw oa ra sa Ba i → ¬ K i:=fun i hi hc=>(h1.kp i (.inl hc)).2 hi
 have nb:∀ i,QQw ob rb sb Bb i → ¬ K i:=fun i hi hc=>(h2.kp i (.inl hc)).2 hi
 refine ⟨Ba,Bb,h1.on hl (fun i hi=>hk i (h1.lt hi) (na i hi)) fun i hi=>?_,h2.on hl (fun i hi=>hk i (h2.lt hi) (nb i hi)) fun i hi=>?_⟩
 ·rcases hi with hi | hi
  ·rcases hK i hi with hi | hi
   ·have:=h1.kp i (.inl hi); exact ⟨by omega,this.2⟩
   ·exact ⟨hi.2,fun hc=>by have:=h1.lt hc; omega⟩
  ·have:=h1.kp i (.inr hi); exact ⟨by omega,this.2⟩
 ·rcases hi with hi | hi
  ·rcases hK i hi with hi | hi
   ·have:=h2.kp i (.inl hi); exact ⟨by omega,this.2⟩
   ·exact ⟨hi.2,fun hc=>by have:=h2.lt hc; omega⟩
  ·have:=h2.kp i (.inr hi); exact ⟨by omega,this.2⟩
end
structure TS (N:Nat) (l:List Int) (k:Nat) (Va Vb:RBus) (n:Nat) (L:List (Nat × AObj)) (G:List AObj):Prop where
 two:Two G 4 2 3 (N + 2) N (N + 1) Va Vb n (fun i=>i = 0 ∨ ∃ p ∈ L,p.1 = i)
 tp:G[0]? = some (QAO l k)
 loc:∀ p ∈ L,G[p.1]? = some p.2
 nl:∀ p ∈ L,p.1 ≠ 0
section
variable {N:Nat} {l:List Int} {k:Nat} {Va Vb V':RBus} {n n':Nat} {L:List (Nat × AObj)} {G:List AObj}
theorem TS.tape (h:TS N l k Va Vb n L G) (k':Nat):TS N l k' Va Vb n L (G.set 0 (QAO l k')):=by
 refine ⟨h.two.keep (by simp) (fun i hi hk=>List.getElem?_set_ne (by rintro rfl; exact hk (.inl rfl))) fun i hi=>.inl hi,List.getElem?_set_self (List.getElem?_eq_some_iff.1 h.tp).1,fun p hp=>?_,h.nl⟩
 rw [List.getElem?_set_ne (Ne.symm (h.nl p hp))]; exact h.loc p hp
theorem TS.new (h:TS N l k Va Vb n L G) (m:List AObj) (L':List (Nat × AObj)) (hL:∀ p ∈ L',p ∈ L ∨ (G.length ≤ p.1 ∧ m[p.1 - G.length]? = some p.2)):TS N l k Va Vb n L' (G ++ m):=by
 have h0:=(List.getElem?_eq_some_iff.1 h.tp).1
 refine ⟨h.two.keep (by simp) (fun i hi _=>List.getElem?_append_left hi) fun i hi=>?_,by rw [List.getElem?_append_left h0]; exact h.tp,fun p hp=>?_,fun p hp=>?_⟩
 ·rcases hi with rfl | ⟨p,hp,rfl⟩
  ·exact .inl (.inl rfl)
  ·rcases hL p hp with hp | ⟨h1,h2⟩
   ·exact .inl (.inr ⟨p,hp,rfl⟩)
   ·have:=(List.getElem?_eq_some_iff.1 h2).1
    exact .inr ⟨h1,by rw [List.length_append]; omega⟩
 ·rcases hL p hp with hp | ⟨h1,h2⟩
  ·rw [List.getElem?_append_left (List.getElem?_eq_some_iff.1 (h.loc p hp)).1]; exact h.loc p hp
  ·rw [List.getElem?_append_right h1]; exact h2
 ·rcases hL p hp with hp | ⟨h1,h2⟩
  ·exact h.nl p hp
  ·omega
theorem TS.upd (h:TS N l k Va Vb n L G) {b:Nat} (hb:∃ p ∈ L,p.1 = b) (y:AObj) (L':List (Nat × AObj)) (hL:∀ p ∈ L',(p ∈ L ∧ p.1 ≠ b) ∨ p = (b,y)):TS N l k Va Vb n L' (G.set b y):=by
 obtain ⟨p0,hp0,rfl⟩:=hb
 have hlt:=(List.getElem?_eq_some_iff.1 (h.loc p0 hp0)).1
 refine ⟨h.two.keep (by simp) (fun i hi hk=>List.getElem?_set_ne (by rintro rfl; exact hk (.inr ⟨p0,hp0,rfl⟩))) fun i hi=>?_,?_,fun p hp=>?_,fun p hp=>?_⟩
 ·rcases hi with rfl | ⟨p,hp,rfl⟩
  ·exact .inl (.inl rfl)
  ·rcases hL p hp with ⟨hp,_⟩ | rfl
   ·exact .inl (.inr ⟨p,hp,rfl⟩)
   ·exact .inl (.inr ⟨p0,hp0,rfl⟩)
 ·rw [List.getElem?_set_ne (h.nl p0 hp0)]; exact h.tp
 ·rcases hL p hp with ⟨hp,hne⟩ | rfl
  ·rw [List.getElem?_set_ne (Ne.symm hne)]; exact h.loc p hp
  ·exact List.getElem?_set_self hlt
 ·rcases hL p hp with ⟨hp,_⟩ | rfl
  ·exact h.nl p hp
  ·exact h.nl p0 hp0
theorem TS.bump (h:TS N l k Va Vb n L G) (hn:n ≤ n'):TS N l k Va Vb n' L G:=
 let ⟨Ba,Bb,h1,h2⟩:=h.two
 ⟨⟨Ba,Bb,h1.bump hn,h2.bump hn⟩,h.tp,h.loc,h.nl⟩
theorem TS.a {f:Nat} {xs:List AV} {R:AV → Prop} (h:TS N l k Va Vb n L G) (hn:n ≤ n') (hc:∀ (K:Nat → Prop) (B:Bus),Bx G 4 2 3 Va n K B → ACallsR Tryz.prog f xs G (fun v G'=>R v ∧ bxR G 4 2 3 V' n' K G')):ACallsR Tryz.prog f xs G (fun v G'=>R v ∧ TS N l k V' Vb n' L G'):=by
 obtain ⟨Ba,Bb,h1,h2⟩:=h.two
 refine (hc _ Ba h1).mono fun v G' ⟨e1,e2⟩=>⟨e1,?_⟩
 obtain ⟨g1,g2⟩:=Two.on h2 e2 hn
 exact ⟨g1,by rw [g2 0 (.inl rfl)]; exact h.tp,fun p hp=>by rw [g2 p.1 (.inr ⟨p,hp,rfl⟩)]; exact h.loc p hp,h.nl⟩
theorem TS.b {f:Nat} {xs:List AV} {R:AV → Prop} (h:TS N l k Va Vb n L G) (hn:n ≤ n') (hc:∀ (K:Nat → Prop) (B:Bus),Bx G (N + 2) N (N + 1) Vb n K B → ACallsR Tryz.prog f xs G (fun v G'=>R v ∧ bxR G (N + 2) N (N + 1) V' n' K G')):ACallsR Tryz.prog f xs G (fun v G'=>R v ∧ TS N l k Va V' n' L G'):=by
 obtain ⟨Ba,Bb,h1,h2⟩:=h.two
 refine (hc _ Bb h2).mono fun v G' ⟨e1,e2⟩=>⟨e1,?_⟩
 obtain ⟨g1,g2⟩:=Two.on h1 e2 hn
 exact ⟨g1.swap,by rw [g2 0 (.inl rfl)]; exact h.tp,fun p hp=>by rw [g2 p.1 (.inr ⟨p,hp,rfl⟩)]; exact h.loc p hp,h.nl⟩
end
def mkB (W:RBus) (o:RSb) (l:List RSb):RBus:=⟨W.ready,o :: l,W.last⟩
theorem mk_at (W:RBus) (o:RSb) (l:List RSb) (p:Txt):(mkB W o l).at p = W.at p:=rfl
theorem mk_find {W:RBus} {o:RSb} (ho:o.name = QDA) (l:List RSb):(mkB W o l).find QDA = some o:=by
 unfold RBus.find mkB
 simp [ho]
theorem mk_gone (W:RBus) (o:RSb) (p:Txt):∃ g:RSb → RSb,(∀ t,(g t).name = t.name) ∧ ∀ l,(mkB W o l).goneR p = (mkB (W.goneR p).1 (g o) (l.map g),(W.goneR p).2):=by
 unfold RBus.goneR
 simp only [mk_at]
 cases hp:W.at p with
 | none=>exact ⟨id,fun _=>rfl,fun l=>by simp⟩
 | some r=>
  simp only
  by_cases ha:W.ready.any (fun x=>QEv p x.path) = true
  ·exact ⟨id,fun _=>rfl,fun l=>by simp [mkB,ha]⟩
  ·exact ⟨QAp (W.last + 1) r false,QDm _ _ _,fun l=>by simp [mkB,ha,RBus.tell]⟩
theorem mk_ready (W:RBus) (o:RSb) (r:Rcd):∃ g:RSb → RSb,(∀ t,(g t).name = t.name) ∧ ∀ l,(mkB W o l).readyR r = (mkB (W.readyR r).1 (g o) (l.map g),(W.readyR r).2):=by
 have h0:∀ e:Int,∃ g:RSb → RSb,(∀ t,(g t).name = t.name) ∧ ∀ l,(mkB W o l,e) = (mkB W (g o) (l.map g),e):=fun e=>⟨id,fun _=>rfl,fun l=>by simp⟩
 have h1:∃ g:RSb → RSb,(∀ t,(g t).name = t.name) ∧ ∀ l,((({ mkB W o l with ready:=QFu (QBk (mkB W o l).ready r.path) r }:RBus).tell r true,0):RBus × Int) = (mkB (({ W with ready:=QFu (QBk W.ready r.path) r }:RBus).tell r true) (g o) (l.map g),0):=
  ⟨QAp (W.last + 1) r true,QDm _ _ _,fun l=>by simp [mkB,RBus.tell]⟩
 unfold RBus.readyR
 simp only [mk_at]
 by_cases hs:QAk r = true
 ·simp only [hs,if_true]
  by_cases hp:QBn r.path ≠ [] ∧ (W.at (QBn r.path)).isSome = false
  ·simp only [hp,ne_eq,not_false_eq_true,and_self,if_true]; exact h0 _
  ·simp only [hp,if_false]
   cases ha:W.at r.path with
   | none=>exact h1
   | some x=>
    by_cases hx:x.index = r.index
    ·simp only [hx,if_true]; exact h1
    ·simp only [hx,if_false]; exact h0 _
 ·simp only [hs]; exact h0 _
theorem mk_sub {W:RBus} {o:RSb} (_ho:o.name = QDA) {nm:Txt} (hn:¬ nm = QDA) (f:Flt) {l:List RSb} (hl:∀ t ∈ l,¬ t.name = QDA):∃ l',((mkB W o l).subR nm f).1 = mkB W o l' ∧ ∀ t ∈ l',¬ t.name = QDA:=by
 have h0:∃ l',mkB W o l = mkB W o l' ∧ ∀ t ∈ l',¬ t.name = QDA:=⟨l,rfl,hl⟩
 unfold RBus.subR
 split
 ·split
  ·exact h0
  ·split
   ·exact h0
   ·split
    ·exact h0
    ·refine ⟨l ++ [⟨nm,f,[],[],true⟩],rfl,fun t ht=>?_⟩
     rcases List.mem_append.1 ht with ht | ht
     ·exact hl t ht
     ·simp at ht; subst ht; exact hn
 ·exact h0
theorem mk_uns {W:RBus} {o:RSb} (ho:o.name = QDA) {nm:Txt} (hn:¬ nm = QDA) {l:List RSb} (hl:∀ t ∈ l,¬ t.name = QDA):∃ l',((mkB W o l).unsR nm).1 = mkB W o l' ∧ ∀ t ∈ l',¬ t.name = QDA:=by
 unfold RBus.unsR
 split
 ·refine ⟨QGI nm l,?_,fun t ht=>hl t (QFZ ht)⟩
  unfold mkB
  simp only [QGI,ho,if_neg (Ne.symm hn)]
 ·exact ⟨l,rfl,hl⟩
theorem mk_read {W:RBus} {o:RSb} (ho:o.name = QDA) {nm:Txt} (hn:¬ nm = QDA) (m:Int) {l:List RSb} (hl:∀ t ∈ l,¬ t.name = QDA):∃ l',((mkB W o l).readR nm m).1 = mkB W o l' ∧ ∀ t ∈ l',¬ t.name = QDA:=by
 unfold RBus.readR
 cases hf:(mkB W o l).find nm with
 | none=>exact ⟨l,rfl,hl⟩
 | some t=>
  have ht:t.name = nm:=QPM hf
  have key:∀ y:RSb,y.name = nm → ∃ l',(⟨W.ready,QEF nm y (o :: l),W.last⟩:RBus) = mkB W o l' ∧ ∀ t ∈ l',¬ t.name = QDA:=fun y hy=>by
   refine ⟨QEF nm y l,by simp only [mkB,QEF,ho,if_neg (Ne.symm hn)],fun x hx=>?_⟩
   rcases QH0 hx with rfl | hx
   ·rw [hy]; exact hn
   ·exact hl x hx
  simp only
  split
  ·exact key _ ht
  ·exact key _ ht
theorem mk_own (W:RBus) {o:RSb} (ho:o.name = QDA) (m:Int):∃ (y:RSb) (N:List Ntc) (bh:Bool) (e:Int),y.name = QDA ∧ ∀ l,(mkB W o l).readR QDA m = (mkB W y l,N,bh,e):=by
 unfold RBus.readR
 have hf:=fun l=>mk_find (W:=W) ho l
 by_cases hb:o.behind = true
 ·refine ⟨_,_,_,_,?_,fun l=>by rw [hf l]; simp only [if_pos hb]; simp only [mkB,QEF,ho,if_true,RBus.wanted]; rfl⟩
  rfl
 ·refine ⟨_,_,_,_,?_,fun l=>by rw [hf l]; simp only [if_neg hb]; simp only [mkB,QEF,ho,if_true]; rfl⟩
  rfl
end Go.Ab
namespace Go.Ab
open Go Go.Proofs
set_option maxRecDepth 20000
theorem tmps_get {n:Nat}:∀ {L:List (Nat × AV)} {i:Nat} {y:AV},(tmps n L)[i]? = some y → y = .junk ∨ (i,y) ∈ L
 | [],i,y,h=>by
  simp only [tmps,List.getElem?_replicate] at h
  split at h
  ·exact .inl (Option.some.inj h).symm
  ·cases h
 | p :: L,i,y,h=>by
  simp only [tmps,QEE] at h
  by_cases e:p.1 = i
  ·subst e
   rw [List.getElem?_set] at h
   simp only [if_true] at h
   split at h
   ·have:=Option.some.inj h
    subst this
    exact .inr List.mem_cons_self
   ·cases h
  ·rw [List.getElem?_set_ne e] at h
   exact (tmps_get h).imp id (List.mem_cons_of_mem _)
theorem tmps_len (n:Nat):∀ L:List (Nat × AV),(tmps n L).length = n
 | []=>by simp [tmps]
 | p :: L=>by simp only [tmps,QEE,List.length_set]; exact tmps_len n L
theorem jkT_of:∀ {T T':List AV},T.length = T'.length → (∀ (i:Nat) (x y:AV),T[i]? = some x → T'[i]? = some y → y = .junk ∨ y = x) → jkT T T'
 | [],[],_,_=>trivial
 | x :: T,y :: T',hl,h=>⟨h 0 x y rfl rfl,jkT_of (by simpa using hl) fun i a b ha hb=>h (i + 1) a b (by simpa using ha) (by simpa using hb)⟩
 | [],_ :: _,hl,_=>by simp at hl
 | _ :: _,[],hl,_=>by simp at hl
theorem Wk.facts {k n:Nat} {T:List AV} {H:List AObj} {L:List (Nat × AV)} (hl:T.length = n) (h:∀ p ∈ L,T[p.1]? = some p.2):Wk k ⟨T,H⟩ ⟨tmps n L,H⟩:=
 Wk.jk (jkT_of (by rw [hl,tmps_len]) fun i x y hx hy=>(tmps_get hy).imp id fun hm=>by
  have:=h _ hm
  rw [hx] at this
  exact (Option.some.inj this).symm)
def drSlot (i:Nat):Nat:=[76,77,78,79,80,81,11,12].getD i 0
theorem slot_inj:∀ i,i < 8 → ∀ j,j < 8 → drSlot i = drSlot j → i = j:=by decide
theorem slot_lt:∀ i,i < 8 → drSlot i < 139:=by decide
def drVal (N _q:Nat) (row:List AV) (e:Int) (i:Nat):AV:=[AV.ptr 4 0,.agg row,.int .i64 e,.ptr (N + 2) 0,.agg row,.int .i64 e,.int .i64 e,.int .i64 e].getD i .junk
structure DrJ (N q:Nat) (l:List Int) (k:Nat) (W W':RBus) (o o':RSb) (l0 l1:List RSb) (n:Nat) (L:List (Nat × AObj)) (r:Rcd) (e:Int) (F:List (Nat × AV)) (ds:List Nat) (σ:St):Prop where
 len:σ.T.length = 139
 fx:∀ p ∈ F,σ.T[p.1]? = some p.2
 tv:∀ i ∈ ds,σ.T[drSlot i]? = some (drVal N q (QAR r) e i)
 hp:if 5 ∈ ds then TS N l k (mkB W' o' []) (mkB W' o' l1) (n + 2) L σ.H else if 2 ∈ ds then TS N l k (mkB W' o' []) (mkB W o l0) (n + 1) L σ.H else TS N l k (mkB W o []) (mkB W o l0) n L σ.H
 c5:5 ∈ ds → 2 ∈ ds
section
variable {N q:Nat} {l:List Int} {k:Nat} {W W':RBus} {o o':RSb} {l0 l1:List RSb} {n:Nat} {L:List (Nat × AObj)} {r:Rcd} {e:Int} {F:List (Nat × AV)} {ds:List Nat} {σ:St}
theorem DrJ.box (h:DrJ N q l k W W' o o' l0 l1 n L r e F ds σ) {x:AObj} (hq:(q,x) ∈ L):σ.H[q]? = some x:=by
 have:=h.hp
 split at this
 ·exact this.loc _ hq
 ·split at this <;> exact this.loc _ hq
theorem DrJ.put (h:DrJ N q l k W W' o o' l0 l1 n L r e F ds σ) (hF:∀ p ∈ F,∀ i,i < 8 → p.1 ≠ drSlot i) (hds:∀ i ∈ ds,i < 8) {i:Nat} (hi:i < 8) (H':List AObj) (hp:if 5 ∈ i :: ds then TS N l k (mkB W' o' []) (mkB W' o' l1) (n + 2) L H' else if 2 ∈ i :: ds then TS N l k (mkB W' o' []) (mkB W o l0) (n + 1) L H' else TS N l k (mkB W o []) (mkB W o l0) n L H') (c5:5 ∈ i :: ds → 2 ∈ i :: ds):
  DrJ N q l k W W' o o' l0 l1 n L r e F (i :: ds) ⟨σ.T.set (drSlot i) (drVal N q (QAR r) e i),H'⟩:=by
 refine ⟨by simp [h.len],fun p hm=>?_,fun j hj=>?_,hp,c5⟩
 ·show (σ.T.set _ _)[p.1]? = _
  rw [List.getElem?_set_ne (Ne.symm (hF p hm i hi))]; exact h.fx p hm
 ·show (σ.T.set _ _)[drSlot j]? = _
  rcases List.mem_cons.1 hj with rfl | hj
  ·exact List.getElem?_set_self (by rw [h.len]; exact slot_lt _ hi)
  ·by_cases ej:j = i
   ·subst ej; exact List.getElem?_set_self (by rw [h.len]; exact slot_lt _ hi)
   ·rw [List.getElem?_set_ne fun es=>ej (slot_inj j (hds j hj) i hi es.symm)]; exact h.tv j hj
theorem DrJ.same (h:DrJ N q l k W W' o o' l0 l1 n L r e F ds σ) {i:Nat} (h5:i ≠ 5) (h2:i ≠ 2):(if 5 ∈ i :: ds then TS N l k (mkB W' o' []) (mkB W' o' l1) (n + 2) L σ.H else if 2 ∈ i :: ds then TS N l k (mkB W' o' []) (mkB W o l0) (n + 1) L σ.H else TS N l k (mkB W o []) (mkB W o l0) n L σ.H) ∧ (5 ∈ i :: ds → 2 ∈ i :: ds):=by
 have e5:(5 ∈ i :: ds) = (5 ∈ ds):=by simp [Ne.symm h5]
 have e2:(2 ∈ i :: ds) = (2 ∈ ds):=by simp [Ne.symm h2]
 simp only [e5,e2]
 exact ⟨h.hp,h.c5⟩
end
def drOps:List QD2:=[⟨some 76,.mov (.t 5),none⟩,⟨some 77,.load (some 12) (.t 10),none⟩,⟨some 78,.call (.v (.fn (.func 16) [] [])) [.t 76,.t 77],none⟩,⟨some 79,.mov (.t 6),none⟩,⟨some 80,.load (some 12) (.t 10),none⟩,⟨some 81,.call (.v (.fn (.func 16) [] [])) [.t 79,.t 80],none⟩,⟨some 11,.mov (.t 78),none⟩,⟨some 12,.mov (.t 81),none⟩]
def drBs:List Nat:=[0,0,3,0,0,31,63,127]
theorem full8 {ds:List Nat} (nd:ds.Nodup) (h:∀ i ∈ ds,i < 8) (hl:ds.length = 8) (x:Nat) (hx:x < 8):x ∈ ds:=by
 by_cases hm:x ∈ ds
 ·exact hm
 ·exfalso
  have key:∀ (l m:List Nat),l.Nodup → (∀ x ∈ l,x ∈ m) → l.length ≤ m.length:=by
   intro l
   induction l with
   | nil=>intro m _ _; exact Nat.zero_le _
   | cons y l ih=>
    intro m nd h
    have hy:=h y List.mem_cons_self
    have nd':=List.nodup_cons.1 nd
    have h2:=ih (m.erase y) nd'.2 fun z hz=>(List.mem_erase_of_ne (by rintro rfl; exact nd'.1 hz)).2 (h z (List.mem_cons_of_mem _ hz))
    rw [List.length_erase_of_mem hy] at h2
    have:=List.length_pos_of_mem hy
    simp only [List.length_cons]; omega
  have:=key ds ((List.range 8).erase x) nd fun z hz=>(List.mem_erase_of_ne (by rintro rfl; exact hm hz)).2 (List.mem_range.2 (h z hz))
  rw [List.length_erase_of_mem (List.mem_range.2 hx),List.length_range,hl] at this
  omega
theorem dr_any {N q:Nat} {l:List Int} {k:Nat} {W:RBus} {o:RSb} {l0:List RSb} {n:Nat} {L:List (Nat × AObj)} {r:Rcd} {F:List (Nat × AV)} {Q:St → Prop} (hr:Few r) (hn:n + 1 ≤ 900) (g:RSb → RSb) (hg:∀ l,(mkB W o l).readyR r = (mkB (W.readyR r).1 (g o) (l.map g),(W.readyR r).2)) (hq:(q,.box 36 (QAR r)) ∈ L) (hF:∀ p ∈ F,∀ i,i < 8 → p.1 ≠ drSlot i)
  (f5:(5,.ptr 4 0) ∈ F) (f6:(6,.ptr (N + 2) 0) ∈ F) (f10:(10,.ptr q 0) ∈ F) (hQ:∀ σ,DrJ N q l k W (W.readyR r).1 o (g o) l0 (l0.map g) n L r (W.readyR r).2 F [7,6,5,2] σ → Q σ):
  ∀ (m:Nat) (ds:List Nat) (σ:St),ds.Nodup → (∀ i ∈ ds,i < 8) → ds.length + m = 8 → DrJ N q l k W (W.readyR r).1 o (g o) l0 (l0.map g) n L r (W.readyR r).2 F ds σ → anyA Tryz.prog drOps drBs Q m ds σ
 | 0,ds,σ,nd,h8,hl,hJ=>by
  have m2:=full8 nd h8 hl 2 (by decide)
  have m5:=full8 nd h8 hl 5 (by decide)
  have m6:=full8 nd h8 hl 6 (by decide)
  have m7:=full8 nd h8 hl 7 (by decide)
  refine hQ σ ⟨hJ.len,hJ.fx,fun i hi=>hJ.tv i ?_,?_,fun _=>by simp⟩
  ·simp only [List.mem_cons,List.not_mem_nil,or_false] at hi
   rcases hi with rfl | rfl | rfl | rfl <;> assumption
  ·have:=hJ.hp
   rw [if_pos m5] at this
   simpa using this
 | m + 1,ds,σ,nd,h8,hl,hJ=>by
  intro i op hop hni hb
  have ih:=fun i (hi:i < 8) (hni:i ∉ ds) σ'=>dr_any (N:=N) (q:=q) (l:=l) (k:=k) (Q:=Q) hr hn g hg hq hF f5 f6 f10 hQ m (i :: ds) σ' (List.nodup_cons.2 ⟨hni,nd⟩) (fun j hj=>by rcases List.mem_cons.1 hj with rfl | hj; exact hi; exact h8 j hj) (by simp only [List.length_cons]; omega)
  have hi:i < 8:=(List.getElem?_eq_some_iff.1 hop).1
  have t5:=hJ.fx _ f5
  have t6:=hJ.fx _ f6
  have t10:=hJ.fx _ f10
  have bx:=hJ.box hq
  rw [QAc] at bx
  simp only at t5 t6 t10
  have hsame:=fun (h5:i ≠ 5) (h2:i ≠ 2)=>hJ.put hF h8 hi σ.H (hJ.same h5 h2).1 (hJ.same h5 h2).2
  obtain ⟨T,H⟩:=σ
  have ev:∀ d x,T[d]? = some x → Opd.ev T (.t d) = x:=fun d x hx=>by simp [Opd.ev,hx]
  match i,hi with
  | 0,_=>
   simp only [drOps,List.getElem?_cons_zero,Option.some.injEq] at hop
   subst hop
   simp +decide -dsimp -implicitDefEqProofs [go_sem,ev 5 _ t5]
   exact ih 0 (by decide) hni _ (hsame (by decide) (by decide))
  | 1,_=>
   simp only [drOps,List.getElem?_cons_zero,List.getElem?_cons_succ,Option.some.injEq] at hop
   subst hop
   simp +decide -dsimp -implicitDefEqProofs [go_sem,ev 10 _ t10,bx]
   exact ih 1 (by decide) hni _ (hsame (by decide) (by decide))
  | 2,_=>
   simp only [drOps,List.getElem?_cons_zero,List.getElem?_cons_succ,Option.some.injEq] at hop
   subst hop
   have t76:T[76]? = some (.ptr 4 0):=hJ.tv 0 (hb 0 (by decide))
   have t77:T[77]? = some (.agg (QAR r)):=hJ.tv 1 (hb 1 (by decide))
   have n5:5 ∉ ds:=fun h=>hni (hJ.c5 h)
   have hp:=hJ.hp
   rw [if_neg n5,if_neg hni] at hp
   simp +decide -dsimp -implicitDefEqProofs [go_sem,ev 76 _ t76,ev 77 _ t77]
   refine QAS (hp.a (V':=mkB (W.readyR r).1 (g o) []) (n':=n + 1) (R:=fun v=>v = .int .i64 (W.readyR r).2) (Nat.le_succ n) fun K B hB=>by have:=QGL hB (by omega) r hr; rw [hg []] at this; exact this) ?_
   rintro _ G' ⟨rfl,hT⟩
   exact ih 2 (by decide) hni _ (hJ.put hF h8 (i:=2) (by decide) G' (by rw [if_neg (by simp [n5]),if_pos (by simp)]; exact hT) fun _=>by simp)
  | 3,_=>
   simp only [drOps,List.getElem?_cons_zero,List.getElem?_cons_succ,Option.some.injEq] at hop
   subst hop
   simp +decide -dsimp -implicitDefEqProofs [go_sem,ev 6 _ t6]
   exact ih 3 (by decide) hni _ (hsame (by decide) (by decide))
  | 4,_=>
   simp only [drOps,List.getElem?_cons_zero,List.getElem?_cons_succ,Option.some.injEq] at hop
   subst hop
   simp +decide -dsimp -implicitDefEqProofs [go_sem,ev 10 _ t10,bx]
   exact ih 4 (by decide) hni _ (hsame (by decide) (by decide))
  | 5,_=>
   simp only [drOps,List.getElem?_cons_zero,List.getElem?_cons_succ,Option.some.injEq] at hop
   subst hop
   have t79:T[79]? = some (.ptr (N + 2) 0):=hJ.tv 3 (hb 3 (by decide))
   have t80:T[80]? = some (.agg (QAR r)):=hJ.tv 4 (hb 4 (by decide))
   have m2:=hb 2 (by decide)
   have hp:=hJ.hp
   rw [if_neg hni,if_pos m2] at hp
   simp +decide -dsimp -implicitDefEqProofs [go_sem,ev 79 _ t79,ev 80 _ t80]
   refine QAS (hp.b (V':=mkB (W.readyR r).1 (g o) (l0.map g)) (n':=n + 2) (R:=fun v=>v = .int .i64 (W.readyR r).2) (Nat.le_succ _) fun K B hB=>by have:=QGL hB (by omega) r hr; rw [hg l0] at this; exact this) ?_
   rintro _ G' ⟨rfl,hT⟩
   exact ih 5 (by decide) hni _ (hJ.put hF h8 (i:=5) (by decide) G' (by rw [if_pos (by simp)]; exact hT) fun _=>by simp [m2])
  | 6,_=>
   simp only [drOps,List.getElem?_cons_zero,List.getElem?_cons_succ,Option.some.injEq] at hop
   subst hop
   have t78:T[78]? = some (.int .i64 (W.readyR r).2):=hJ.tv 2 (hb 2 (by decide))
   simp +decide -dsimp -implicitDefEqProofs [go_sem,ev 78 _ t78]
   exact ih 6 (by decide) hni _ (hsame (by decide) (by decide))
  | 7,_=>
   simp only [drOps,List.getElem?_cons_zero,List.getElem?_cons_succ,Option.some.injEq] at hop
   subst hop
   have t81:T[81]? = some (.int .i64 (W.readyR r).2):=hJ.tv 5 (hb 5 (by decide))
   simp +decide -dsimp -implicitDefEqProofs [go_sem,ev 81 _ t81]
   exact ih 7 (by decide) hni _ (hsame (by decide) (by decide))
end Go.Ab
namespace Go.Ab
open Go Go.Proofs
set_option maxRecDepth 20000
theorem argNz1 {f:Nat} {x:AV} {cs post:List AV} {H:List AObj} {R:AV → List AObj → Prop} (h:ACallsR Tryz.prog f (x :: .agg (nzL cs) :: post) H R):ACallsR Tryz.prog f (x :: .agg cs :: post) H R:=
 ⟨h.1,fun c vs hH hr hv=>h.2 c vs hH hr (by
  simp only [QA3,Val] at hv ⊢
  obtain ⟨v1,w1,rfl,h1,v3,w3,rfl,⟨us,rfl,h3,h4⟩,h5⟩:=hv
  exact ⟨_,_,rfl,h1,_,_,rfl,⟨us,rfl,QIr _ _ h3,h4⟩,h5⟩)⟩
theorem TS.start {l:List Int} {k:Nat} {A G0 G1:List AObj} {Va Vb:RBus} (h0:A[0]? = some (QAO l k)) (ha:bxR A 4 2 3 Va 0 (fun i=>i < A.length) G0) (hb:bxR G0 (G0.length + 2) G0.length (G0.length + 1) Vb 0 (fun i=>i < G0.length) G1) (L:List (Nat × AObj)) (hL:∀ p ∈ L,A[p.1]? = some p.2 ∧ p.1 ≠ 0):TS G0.length l k Va Vb 0 L G1:=by
 obtain ⟨⟨Ba,hBa⟩,a2,a3⟩:=ha
 obtain ⟨⟨Bb,hBb⟩,b2,b3⟩:=hb
 have hl0:=(List.getElem?_eq_some_iff.1 h0).1
 have hK:∀ i,(i = 0 ∨ ∃ p ∈ L,p.1 = i) → i < A.length:=fun i hi=>by
  rcases hi with rfl | ⟨p,hp,rfl⟩
  ·exact hl0
  ·exact (List.getElem?_eq_some_iff.1 (hL p hp).1).1
 refine ⟨⟨Ba,Bb,hBa.on b3 (fun i hi=>b2 i (hBa.lt hi)) fun i hi=>?_,hBb.mono fun i hi=>?_⟩,?_,fun p hp=>?_,fun p hp=>(hL p hp).2⟩
 ·rcases hi with hi | hi
  ·have:=hBa.kp i (hK i hi); exact ⟨by omega,this.2⟩
  ·exact ⟨hBb.lt hi,fun hc=>(hBb.kp i (hBa.lt hc)).2 hi⟩
 ·rcases hi with hi | hi
  ·have:=hK i hi; show i < G0.length; omega
  ·exact hBa.lt hi
 ·rw [b2 0 (by show 0 < G0.length; omega),a2 0 hl0]; exact h0
 ·have:=(List.getElem?_eq_some_iff.1 (hL p hp).1).1
  rw [b2 p.1 (by show p.1 < G0.length; omega),a2 p.1 this]; exact (hL p hp).1
def alTags:List Txt:=[[],[115,101,97,116]]
def alNms:List Txt:=[[115],[116]]
theorem alNm_ne {nm:Txt} (h:nm ∈ alNms):¬ nm = QDA:=by
 rintro rfl; exact absurd h (by decide)
def alS (nf N:Nat) (s:Nat × List AObj):St:=⟨tmps 139 [(3,.ptr 0 0),(5,.ptr 4 0),(6,.ptr (N + 2) 0),(7,.ptr nf 0),(8,.int .i64 s.1)],s.2⟩
def alI (l:List Int) (nf N:Nat) (s:Nat × List AObj):Prop:=s.1 ≤ 16 ∧ ∃ k W x y o l0,TS N l k (mkB W o []) (mkB W o l0) (2 * (16 - s.1)) [(nf,.box 52 [x,y,.int .i64 W.last])] s.2 ∧ RbOk W (16 - s.1) ∧ nzL [x,y,.int .i64 W.last] = QBA W ∧ (∀ k,QAB k [x,y] = true) ∧ o.name = QDA ∧ (∀ t ∈ l0,¬ t.name = QDA) ∧ k ≤ 10 + (16 - s.1) * 600
def alS4 (nf N i:Nat) (s:Int × List AObj):St:=⟨tmps 139 [(3,.ptr 0 0),(5,.ptr 4 0),(6,.ptr (N + 2) 0),(7,.ptr nf 0),(8,.int .i64 i),(11,.int .i64 s.1),(12,.int .i64 s.1)],s.2⟩
def alI4 (l:List Int) (nf N n m k0:Nat) (s:Int × List AObj):Prop:=∃ k W x y o l0,TS N l k (mkB W o []) (mkB W o l0) n [(nf,.box 52 [x,y,.int .i64 W.last])] s.2 ∧ RbOk W m ∧ nzL [x,y,.int .i64 W.last] = QBA W ∧ (∀ k,QAB k [x,y] = true) ∧ o.name = QDA ∧ (∀ t ∈ l0,¬ t.name = QDA) ∧ k ≤ k0
theorem NotifyAlone_c (l:List Int):ACalls Tryz.prog 6 [.imm (l.map fun v=>[.int .i64 v])] [] (.bool true) []:=by
 have hcT:∀ k,QAb k (l.map fun v=>[AV.int .i64 v]) = true:=fun k=>QAn fun x _=>rfl
 have hs1:[[AV.str [42]],[.str [98,108,111,99,107]],[.str [110,101,116,124,98,108,111,99,107]]] = tlSubs.map QAT:=rfl
 have hs2:[[AV.str []],[.str [115,101,97,116]]] = alTags.map QAT:=rfl
 have hs3:[[AV.str [115]],[.str [116]]] = alNms.map QAT:=rfl
 refine QA2 cqq rfl ?_
 refine gS ?_
 refine gS ?_
 refine gS ?_
 rw [hs1]
 refine QAS (QJa (t:=l) (k:=0) rfl (by omega) tlSubs (by decide) (by decide)) ?_
 rintro _ _ ⟨u,rfl,hu,rfl⟩
 refine gs ?_
 rw [hs2]
 refine QAS (QJa (t:=l) (k:=1) rfl (by omega) alTags (by decide) (by decide)) ?_
 rintro _ _ ⟨g,rfl,hg,rfl⟩
 refine gs ?_
 have hg':g ∈ tlTags:=by revert g; decide
 have hsub:=QYA u hu g hg'
 have hf:QLh ⟨u,g⟩:=⟨QTQ.1 u hu,QTQ.2 g hg'⟩
 refine gS ?_
 refine QAS (QIG [QAO l 2,.box 27 [.str u,.str g]] (fun i=>i < 2) (fun i hi=>hi)) ?_
 rintro _ G0 ⟨rfl,h0⟩
 refine gs ?_
 refine QAS (QIG G0 (fun i=>i < G0.length) (fun i hi=>hi)) ?_
 rintro _ G1 ⟨rfl,h1⟩
 refine gs ?_
 have s0:=TS.start (l:=l) (k:=2) (A:=[QAO l 2,.box 27 [.str u,.str g]]) rfl h0 h1 [(1,.box 27 [.str u,.str g])] (by simp)
 generalize G0.length = N at s0 ⊢
 have r1:=s0.loc (1,.box 27 [.str u,.str g]) (by simp)
 simp only at r1
 refine QBU ?_
 simp +decide -dsimp -implicitDefEqProofs [go_sem,r1]
 refine QAS (s0.a (V':=mkB ⟨[],[],0⟩ ⟨QDA,⟨u,g⟩,[],[],true⟩ []) (R:=fun v=>v = .int .i64 0) (Nat.le_refl 0) fun K B hB=>by have:=QK6 hB QDA ⟨u,g⟩ hf; rw [hsub] at this; exact this) ?_
 rintro _ G2 ⟨rfl,s2⟩
 have r2:=s2.loc (1,.box 27 [.str u,.str g]) (by simp)
 simp only at r2
 simp +decide -dsimp -implicitDefEqProofs [go_sem,r2]
 refine QAS (s2.b (V':=mkB ⟨[],[],0⟩ ⟨QDA,⟨u,g⟩,[],[],true⟩ []) (R:=fun v=>v = .int .i64 0) (Nat.le_refl 0) fun K B hB=>by have:=QK6 hB QDA ⟨u,g⟩ hf; rw [hsub] at this; exact this) ?_
 rintro _ G3 ⟨rfl,s3⟩
 refine gs ?_
 refine gS ?_
 have s4:=s3.new [.box 52 [.nils,.nils,.int .i64 0]] [(G3.length,.box 52 [.nils,.nils,.int .i64 0])] (fun p hp=>.inr (by simp at hp; subst hp; exact ⟨Nat.le_refl _,by simp⟩))
 generalize G3 ++ [AObj.box 52 [.nils,.nils,.int .i64 0]] = G4 at s4 ⊢
 generalize G3.length = nf at s4 ⊢
 refine gS ?_
 refine QAS (QB2 s4.tp (by omega) 16 (by decide)) ?_
 rintro _ _ ⟨x0,rfl,hx0,rfl⟩
 have s5:=s4.tape 3
 generalize G4.set 0 (QAO l (2 + 1)) = G5 at s5 ⊢
 obtain ⟨i0,rfl⟩:∃ i:Nat,x0 = i:=⟨_,(Int.toNat_of_nonneg hx0.1).symm⟩
 refine gs ?_
 refine QBH (S:=Nat × List AObj) (alS nf N) (fun s=>s.1) (alI l nf N) (i0,G5) ⟨by show i0 ≤ 16; omega,3,⟨[],[],0⟩,.nils,.nils,⟨QDA,⟨u,g⟩,[],[],true⟩,[],s5.bump (Nat.zero_le _),RbOk.nil.le (Nat.zero_le _),rfl,fun _=>rfl,rfl,by simp,by omega⟩ (Wk.jk ?_) ?_
 ·simp +decide -dsimp -implicitDefEqProofs [go_sem,jkT]
 clear s5 s4 s3 s2 s0 r1 r2 hsub h0 h1
 rintro ⟨i,G⟩ ⟨hi,k,W,x,y,o,l0,hT,hO,hnz,hcx,ho,hl0,hk⟩
 simp only at hi hT hO hk
 by_cases hi0:0 < i
 rotate_left
 ·have hi1:¬ (0:Int) < (i:Int):=by omega
  refine QAD ?_
  unfold alS
  simp +decide -dsimp -implicitDefEqProofs [go_sem,hi0]
  refine QAD ?_
  refine gs ?_
  refine QAA QF6 rfl rfl ?_
  simp +decide -dsimp -implicitDefEqProofs [go_sem]
 have hi1:(0:Int) < (i:Int):=by omega
 have w1:IntKind.i64.wrap ((i:Int) - 1) = ((i - 1:Nat):Int):=by rw [w64 (by omega) (by omega)]; omega
 refine QBU ?_
 unfold alS
 simp +decide -dsimp -implicitDefEqProofs [go_sem,hi0]
 refine QA6 (S:=List AObj) (fun G=>alS nf N (i,G)) (fun G=>alI l nf N (i - 1,G)) ?_ ?_
 rotate_left
 ·intro G' hok
  refine QAD ?_
  unfold alS
  simp +decide -dsimp -implicitDefEqProofs [go_sem,w1]
  refine QAG (S:=Nat × List AObj) (i - 1,G') hok (by show i - 1 < i; omega) (Wk.jk ?_)
  simp +decide -dsimp -implicitDefEqProofs [go_sem,jkT]
 refine QBZ ?_
 refine QBU ?_
 have r0:=hT.loc (nf,.box 52 [x,y,.int .i64 W.last]) (by simp)
 simp only at r0
 simp +decide -dsimp -implicitDefEqProofs [go_sem,r0]
 have hP:=QVO hT.tp (by omega) hO (by omega)
 rw [← hnz] at hP
 refine QAS (argNz1 hP) ?_
 rintro _ _ ⟨p,k1,rfl,hp,hk1,rfl⟩
 have hT1:=hT.tape k1
 generalize G.set 0 (QAO l k1) = G1 at hT1 ⊢
 refine gs ?_
 refine gS ?_
 refine QAS (QYg hT1.tp (by omega) p 1 (by omega) (by omega)) ?_
 rintro _ _ ⟨r,k2,rfl,hr,hk2,rfl⟩
 have hT2:=hT1.tape k2
 generalize G1.set 0 (QAO l k2) = G2 at hT2 ⊢
 have lt2:=(List.getElem?_eq_some_iff.1 (hT2.loc (nf,.box 52 [x,y,.int .i64 W.last]) (by simp))).1
 simp only at lt2
 have hT3:=hT2.new [.box 36 (QAR r)] [(nf,.box 52 [x,y,.int .i64 W.last]),(G2.length,.box 36 (QAR r))] (fun p hp=>by
  simp only [List.mem_cons,List.not_mem_nil,or_false] at hp
  rcases hp with rfl | rfl
  ·exact .inl (by simp)
  ·exact .inr ⟨Nat.le_refl _,by simp⟩)
 rw [QAc r]
 refine gs ?_
 rw [← QAc r]
 generalize G2 ++ [AObj.box 36 (QAR r)] = G3 at hT3 ⊢
 generalize G2.length = q at hT3 lt2 ⊢
 refine gS ?_
 refine QA6 (S:=Int × List AObj) (alS4 nf N i) (alI4 l nf N (2 * (16 - i) + 2) (16 - i + 1) (k + 150)) ?_ ?_
 ·refine QBU ?_
  refine gs ?_
  refine QAS (QB2 hT3.tp (by omega) 3 (by decide)) ?_
  rintro _ _ ⟨z,rfl,hz,rfl⟩
  have hT4:=hT3.tape (k2 + 1)
  generalize G3.set 0 (QAO l (k2 + 1)) = G4 at hT4 ⊢
  have r4:=hT4.loc (nf,.box 52 [x,y,.int .i64 W.last]) (by simp)
  have q4:=hT4.loc (q,.box 36 (QAR r)) (by simp)
  rw [QAc r] at q4
  simp only at r4 q4
  have fin:∀ (W':RBus) (o':RSb) (l1:List RSb) (G6:List AObj) (e:Int),TS N l (k2 + 1) (mkB W' o' []) (mkB W' o' l1) (2 * (16 - i) + 2) [(nf,.box 52 [x,y,.int .i64 W.last]),(q,.box 36 (QAR r))] G6 → RbOk W' (16 - i + 1) → o'.name = QDA → (∀ t ∈ l1,¬ t.name = QDA) → alI4 l nf N (2 * (16 - i) + 2) (16 - i + 1) (k + 150) (e,G6.set nf (.box 52 (QBA W'))):=fun W' o' l1 G6 e hT6 hO' ho' hl1=>
   ⟨k2 + 1,W',_,_,o',l1,hT6.upd (b:=nf) ⟨(nf,.box 52 [x,y,.int .i64 W.last]),by simp,rfl⟩ (.box 52 (QBA W')) [(nf,.box 52 (QBA W'))] (fun p hp=>.inr (List.mem_singleton.1 hp)),hO',by simp [QBA,nzL,nz,QCp,QCA],fun _=>by simp [QAB,QAE,QAM,QA1],ho',hl1,by omega⟩
  by_cases hz0:z = 0
  ·simp +decide -dsimp -implicitDefEqProofs [go_sem,hz0]
   refine QAD ?_
   refine gs ?_
   obtain ⟨gg,hgn,hgl⟩:=mk_gone W o p
   refine QAS (hT4.a (V':=mkB (W.goneR p).1 (gg o) []) (n':=2 * (16 - i) + 1) (R:=fun v=>v = .int .i64 (W.goneR p).2) (by omega) fun K B hB=>by have:=QPQ hB (by omega) p; rw [hgl []] at this; exact this) ?_
   rintro _ G5 ⟨rfl,hT5⟩
   refine gs ?_
   refine QAS (hT5.b (V':=mkB (W.goneR p).1 (gg o) (l0.map gg)) (n':=2 * (16 - i) + 2) (R:=fun v=>v = .int .i64 (W.goneR p).2) (by omega) fun K B hB=>by have:=QPQ hB (by omega) p; rw [hgl l0] at this; exact this) ?_
   rintro _ G6 ⟨rfl,hT6⟩
   have r6:=hT6.loc (nf,.box 52 [x,y,.int .i64 W.last]) (by simp)
   simp only at r6
   have lt6:=(List.getElem?_eq_some_iff.1 r6).1
   have cr:ACalls Tryz.prog 28 [.agg [x,y,.int .i64 W.last],.str p] [] _ []:=ACalls.nz (by
    rw [show nzL [.agg [x,y,.int .i64 W.last],.str p] = [.agg (nzL [x,y,.int .i64 W.last]),.str p] from rfl,hnz]
    exact QTg W p hO (by omega))
   have hcX:=QDk 0 (W.goneR p).1
   have hfin:=fin _ _ _ _ (W.goneR p).2 hT6 (hO.gone p) (by rw [hgn]; exact ho) (fun t ht=>by obtain ⟨t',ht',rfl⟩:=List.mem_map.1 ht; rw [hgn]; exact hl0 t' ht')
   generalize (W.goneR p).1 = X at hfin cr hcX
   generalize (W.goneR p).2 = e at hfin cr ⊢
   unfold QBA at cr hcX
   simp +decide -dsimp -implicitDefEqProofs [go_sem,r6]
   refine QAA cr (by simpa [QAB,QAE] using hcx 0) (by simpa [QAE,QAB] using hcX) ?_
   simp +decide -dsimp -implicitDefEqProofs [go_sem,r6]
   rw [if_pos lt6]
   refine QAs (S:=Int × List AObj) (e,G6.set nf (.box 52 (QBA X))) hfin (Wk.jk ?_)
   simp +decide -dsimp -implicitDefEqProofs [go_sem,jkT]
  ·simp +decide -dsimp -implicitDefEqProofs [go_sem]
   refine QRF ?_
   simp +decide -dsimp -implicitDefEqProofs [go_sem,QN4,hz0]
   obtain ⟨gg,hgn,hgl⟩:=mk_ready W o r
   refine QJu (awp_drawA rfl ?_)
   refine dr_any (N:=N) (q:=q) (l:=l) (k:=k2 + 1) (W:=W) (o:=o) (l0:=l0) (n:=2 * (16 - i)) (L:=[(nf,.box 52 [x,y,.int .i64 W.last]),(q,.box 36 (QAR r))]) (r:=r) (F:=[(3,.ptr 0 0),(5,.ptr 4 0),(6,.ptr (N + 2) 0),(7,.ptr nf 0),(8,.int .i64 i),(10,.ptr q 0)]) hr.few (by omega) gg hgl (by simp) (fun p hp=>by
    simp only [List.mem_cons,List.not_mem_nil,or_false] at hp
    rcases hp with rfl | rfl | rfl | rfl | rfl | rfl <;> simp only <;> decide) (by simp) (by simp) (by simp) ?_ 8 [] _ List.nodup_nil (by simp) rfl ⟨rfl,by simp,by simp,by simpa using hT4,by simp⟩
   intro σ hJ
   obtain ⟨T,G6⟩:=σ
   have hT6:=hJ.hp
   rw [if_pos (by simp)] at hT6
   have t11:=hJ.tv 6 (by simp)
   have t12:=hJ.tv 7 (by simp)
   have hwk:Wk 0 ⟨T,G6⟩ ⟨tmps 139 [(3,.ptr 0 0),(5,.ptr 4 0),(6,.ptr (N + 2) 0),(7,.ptr nf 0),(8,.int .i64 i),(10,.ptr q 0),(11,.int .i64 (W.readyR r).2),(12,.int .i64 (W.readyR r).2)],G6⟩:=Wk.facts hJ.len fun p hp=>by
    simp only [List.mem_cons,List.not_mem_nil,or_false] at hp
    rcases hp with rfl | rfl | rfl | rfl | rfl | rfl | rfl | rfl
    ·exact hJ.fx (3,.ptr 0 0) (by simp)
    ·exact hJ.fx (5,.ptr 4 0) (by simp)
    ·exact hJ.fx (6,.ptr (N + 2) 0) (by simp)
    ·exact hJ.fx (7,.ptr nf 0) (by simp)
    ·exact hJ.fx (8,.int .i64 i) (by simp)
    ·exact hJ.fx (10,.ptr q 0) (by simp)
    ·exact t11
    ·exact t12
   refine QFj hwk (QAD ?_)
   have r6:=hT6.loc (nf,.box 52 [x,y,.int .i64 W.last]) (by simp)
   have q6:=hT6.loc (q,.box 36 (QAR r)) (by simp)
   rw [QAc r] at q6
   simp only at r6 q6
   have lt6:=(List.getElem?_eq_some_iff.1 r6).1
   have cr:ACalls Tryz.prog 29 [.agg [x,y,.int .i64 W.last],.agg (QAR r)] [] _ []:=ACalls.nz (by
    rw [show nzL [.agg [x,y,.int .i64 W.last],.agg (QAR r)] = [.agg (nzL [x,y,.int .i64 W.last]),.agg (nzL (QAR r))] from rfl,hnz,QOx]
    exact QQ3 W r hO (by omega) hr.few)
   have hcX:=QDk 0 (W.readyR r).1
   have hfin:=fin _ _ _ _ (W.readyR r).2 hT6 (hO.ready r) (by rw [hgn]; exact ho) (fun t ht=>by obtain ⟨t',ht',rfl⟩:=List.mem_map.1 ht; rw [hgn]; exact hl0 t' ht')
   clear hJ hT6 t11 t12 hwk
   generalize (W.readyR r).1 = X at hfin cr hcX
   generalize (W.readyR r).2 = e at hfin cr ⊢
   unfold QBA at cr hcX
   rw [QAc r] at cr
   simp +decide -dsimp -implicitDefEqProofs [go_sem,r6,q6]
   refine QAA cr (by simpa [QAB,QAE,QAW,QAF] using hcx 0) (by simpa [QAE,QAB] using hcX) ?_
   simp +decide -dsimp -implicitDefEqProofs [go_sem,r6]
   rw [if_pos lt6]
   refine QAs (S:=Int × List AObj) (e,G6.set nf (.box 52 (QBA X))) hfin (Wk.jk ?_)
   simp +decide -dsimp -implicitDefEqProofs [go_sem,jkT]
 clear hT3 hT2 hT1 hT r0 hP hO hcx hnz ho hl0 lt2
 rintro ⟨e,G6⟩ ⟨k3,W,x,y,o,l0,hT,hO,hnz,hcx,ho,hl0,hk3⟩
 simp only at hT
 unfold alS4
 refine gS ?_
 rw [hs3]
 refine QAS (QJa hT.tp (by omega) alNms (by decide) (by decide)) ?_
 rintro _ _ ⟨nm,rfl,hnm,rfl⟩
 have hT1:=hT.tape (k3 + 1)
 generalize G6.set 0 (QAO l (k3 + 1)) = G7 at hT1 ⊢
 refine gs ?_
 refine QAS (QQP hT1.tp (by omega)) ?_
 rintro _ _ ⟨f,rfl,hff,rfl⟩
 have hT2:=hT1.tape (k3 + 3)
 generalize G7.set 0 (QAO l (k3 + 1 + 2)) = G8 at hT2 ⊢
 refine gs ?_
 obtain ⟨l1,e1,hl1⟩:=mk_sub (W:=W) ho (alNm_ne hnm) f hl0
 refine QAS (hT2.b (V':=mkB W o l1) (R:=fun v=>v = .int .i64 ((mkB W o l0).subR nm f).2) (Nat.le_refl _) fun K B hB=>by have:=QK6 hB nm f hff; rw [e1] at this; exact this) ?_
 rintro _ G9 ⟨rfl,hT3⟩
 refine gs ?_
 refine gS ?_
 rw [hs3]
 refine QAS (QJa hT3.tp (by omega) alNms (by decide) (by decide)) ?_
 rintro _ _ ⟨nm2,rfl,hnm2,rfl⟩
 have hT4:=hT3.tape (k3 + 4)
 generalize G9.set 0 (QAO l (k3 + 3 + 1)) = G10 at hT4 ⊢
 refine gs ?_
 refine QAS (QB2 hT4.tp (by omega) 4 (by decide)) ?_
 rintro _ _ ⟨z,rfl,hz,rfl⟩
 have hT5:=hT4.tape (k3 + 5)
 generalize G10.set 0 (QAO l (k3 + 4 + 1)) = G11 at hT5 ⊢
 refine gs ?_
 obtain ⟨l2,e2,hl2⟩:=mk_read (W:=W) ho (alNm_ne hnm2) z hl1
 refine QAS (hT5.b (V':=mkB W o l2) (R:=fun v=>∃ N bh q,v = .tup [.imm (List.map QAU N),.bool bh,.int .i64 q]) (Nat.le_refl _) fun K B hB=>(QE0 hB (by omega) nm2 z).mono fun v G h=>⟨⟨_,_,_,h.1⟩,by rw [← e2]; exact h.2⟩) ?_
 rintro _ G12 ⟨⟨N0,bh0,q0,rfl⟩,hT6⟩
 refine gs ?_
 refine gS ?_
 rw [hs3]
 refine QAS (QJa hT6.tp (by omega) alNms (by decide) (by decide)) ?_
 rintro _ _ ⟨nm3,rfl,hnm3,rfl⟩
 have hT7:=hT6.tape (k3 + 6)
 generalize G12.set 0 (QAO l (k3 + 5 + 1)) = G13 at hT7 ⊢
 refine gs ?_
 obtain ⟨l3,e3,hl3⟩:=mk_uns (W:=W) ho (alNm_ne hnm3) hl2
 refine QAS (hT7.b (V':=mkB W o l3) (R:=fun v=>v = .int .i64 ((mkB W o l2).unsR nm3).2) (Nat.le_refl _) fun K B hB=>by have:=QWw hB nm3; rw [e3] at this; exact this) ?_
 rintro _ G14 ⟨rfl,hT8⟩
 refine gs ?_
 obtain ⟨y',N1,bh,q1,hy,hrd⟩:=mk_own W ho 2
 obtain ⟨Ba,Bb,ba,bb⟩:=hT8.two
 obtain ⟨wl1,_,wl3,_⟩:=ba.lk (mk_find ho [])
 obtain ⟨ft1,ft2⟩:=QUr (mk_find ho []) (fun r hr=>ba.cp.sound hr) wl3 wl1 ba.wl 2
 rw [hrd []] at ft1 ft2
 simp only at ft1 ft2
 have cs:=QOt N1 N1 (fun x hx=>(QEr (ft1 x hx)).few.fit) (fun x hx=>(QEr (ft1 x hx)).few.fit) (by omega) (by omega)
 rw [decide_eq_true rfl] at cs
 have hcn:=QA8 0 N1
 clear ba bb ft1 ft2 wl1 wl3
 refine gS ?_
 refine QAS (hT8.a (V':=mkB W y' []) (R:=fun v=>v = .tup [.imm (N1.map QAU),.bool bh,.int .i64 q1]) (Nat.le_refl _) fun K B hB=>by have:=QE0 hB (by omega) QDA 2; rw [hrd []] at this; exact this) ?_
 rintro _ G15 ⟨rfl,hT9⟩
 refine gs ?_
 refine gS ?_
 refine QAS (hT9.b (V':=mkB W y' l3) (R:=fun v=>v = .tup [.imm (N1.map QAU),.bool bh,.int .i64 q1]) (Nat.le_refl _) fun K B hB=>by have:=QE0 hB (by omega) QDA 2; rw [hrd l3] at this; exact this) ?_
 rintro _ G16 ⟨rfl,hT10⟩
 refine gs ?_
 refine QAD ?_
 refine gs ?_
 refine QAA cs (by simp [QAB,QAE,hcn]) rfl ?_
 refine gs ?_
 refine QAs (S:=List AObj) G16 ⟨by show i - 1 ≤ 16; omega,k3 + 6,W,x,y,y',l3,hT10.bump (by show 2 * (16 - i) + 2 ≤ 2 * (16 - (i - 1)); omega),hO.le (by show 16 - i + 1 ≤ 16 - (i - 1); omega),hnz,hcx,hy,hl3,by show k3 + 6 ≤ 10 + (16 - (i - 1)) * 600; omega⟩ (Wk.jk ?_)
 simp +decide -dsimp -implicitDefEqProofs [go_sem,jkT]
end Go.Ab
