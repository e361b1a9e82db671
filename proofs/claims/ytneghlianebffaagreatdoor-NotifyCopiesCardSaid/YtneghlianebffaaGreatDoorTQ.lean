/- A list of records is the same as itself; the number of the last notice. -/
import Derived.Test.YtneghlianebffaaGreatDoorTP
namespace Go.Ab
open Go Go.Proofs
set_option maxRecDepth 20000
theorem QJQ (a:List Rcd) (ha:∀ r ∈ a,Fit r) (hl:a.length < 1000000):ACalls Tryz.prog 33 [.imm (a.map QAR),.imm (a.map QAR)] [] (.bool true) []:=by
 have hca:=fun k=>QAM k a
 refine QAH cqq rfl ?_
 refine gs ?_
 refine QAQ (S:=Nat) (fun i=>⟨tmps 27 [(0,.imm (a.map QAR)),(1,.imm (a.map QAR)),(5,.int .i64 i)],[]⟩) (fun i=>a.length - i) (fun i=>i ≤ a.length) 0 (Nat.zero_le _) (QAC (by simp) ?_) ?_
 ·simp +decide -dsimp -implicitDefEqProofs [go_sem,hca]
 intro i hi
 by_cases h:i < a.length
 ·have w:IntKind.i64.wrap ((i:Int) + 1) = i + 1:=w64 (by omega) (by omega)
  have s1:=QAc a[i]
  have hf:=ha _ (List.getElem_mem h)
  have cr:=QHl a[i] a[i] hf hf
  rw [decide_eq_true rfl,QAc] at cr
  simp +decide -dsimp -implicitDefEqProofs [go_sem,h,s1]
  refine QAK cr (by simp [QAB,QAE,QAW,QAF]) rfl ?_
  simp +decide -dsimp -implicitDefEqProofs [go_sem,w]
  refine QAG (S:=Nat) (i + 1) h (by show a.length - (i + 1) < a.length - i; omega) (QAC (by simp) ?_)
  simp +decide -dsimp -implicitDefEqProofs [go_sem,hca]
 ·simp +decide -dsimp -implicitDefEqProofs [go_sem,h]
end Go.Ab
namespace Go.Ab
open Go Go.Proofs
set_option maxRecDepth 20000
section
variable {c:Cx}
theorem QFn {o:Nat} {x:AObj} (h:c.H[o]? = some x):decide (o < c.H.length) = true:=decide_eq_true (List.getElem?_eq_some_iff.1 h).1
mutual
theorem QEN:∀ (a:AV) (v:Value),Val c a v → QAE c.H.length a = true
 | .junk,_,_=>rfl
 | .bot,_,h=>by simp only [Val] at h
 | .int ..,_,_=>rfl
 | .bool ..,_,_=>rfl
 | .str ..,_,_=>rfl
 | .nilp,_,_=>rfl
 | .ptr o off,v,h=>by
  simp only [Val] at h
  obtain ⟨e,cs,b,h1,_⟩:=h
  exact QFn h1
 | .ifc,_,_=>rfl
 | .ifv t a,v,h=>by
  simp only [Val] at h
  obtain ⟨x,_,h2⟩:=h
  exact QEN a x h2
 | .win o lo n,v,h=>by
  simp only [Val] at h
  obtain ⟨e,cs,b,cap,h1,_⟩:=h
  exact QFn h1
 | .eptr o n i off,v,h=>by
  simp only [Val] at h
  rcases h.2 with ⟨e,sz,l,h1,_⟩ | h1
  ·exact QFn h1
  ·exact QFn h1
 | .iptr cs,v,h=>by
  simp only [Val] at h
  obtain ⟨b,off,_,_,h3⟩:=h
  exact QD7 cs b off h3
 | .nils,_,_=>rfl
 | .imm l,v,h=>by
  simp only [Val] at h
  rcases h with ⟨b,off,cap,sz,_,_,_,h4⟩ | ⟨h1,_⟩
  ·exact QFz l b off sz h4
  ·rw [h1]; rfl
 | .own o n,v,h=>by
  simp only [Val] at h
  rcases h.2 with ⟨e,sz,l,h1,_⟩ | h1
  ·exact QFn h1
  ·exact QFn h1
 | .nilm,_,_=>rfl
 | .map o,v,h=>by
  simp only [Val] at h
  obtain ⟨kvs,r,h1,_⟩:=h
  exact QFn h1
 | .pre o lo n m,v,h=>by
  simp only [Val] at h
  rcases h.2 with ⟨e,sz,l,h1,_⟩ | h1
  ·exact QFn h1
  ·exact QFn h1
 | .nilf,_,_=>rfl
 | .fn f fs cs,v,h=>by
  simp only [Val] at h
  obtain ⟨vf,vc,_,h1,h2⟩:=h
  simp only [QAE,QDq fs _ h1,QDq cs _ h2,Bool.and_self]
 | .agg cs,v,h=>by
  simp only [Val] at h
  obtain ⟨vs,_,h1,_⟩:=h
  exact QDq cs _ h1
 | .tup cs,v,h=>by
  simp only [Val] at h
  obtain ⟨vs,_,h1⟩:=h
  exact QDq cs _ h1
 | .raw u,_,_=>rfl
 | .it o,v,h=>by
  simp only [Val] at h
  obtain ⟨m,s,l,b,h1,_⟩:=h
  exact QFn h1
theorem QDq:∀ (l:List AV) (vs:List Value),QA3 c l vs → QAB c.H.length l = true
 | [],_,_=>rfl
 | a :: l,vs,h=>by
  simp only [QA3] at h
  obtain ⟨v,vs',_,h1,h2⟩:=h
  simp only [QAB,QEN a v h1,QDq l vs' h2,Bool.and_self]
theorem QD7:∀ (l:List AV) (b off:Nat),QBN c l b off → QAB c.H.length l = true
 | [],_,_,_=>rfl
 | a :: l,b,off,h=>by
  simp only [QBN] at h
  obtain ⟨⟨v,_,_,h1⟩,h2⟩:=h
  simp only [QAB,QEN a v h1,QD7 l b _ h2,Bool.and_self]
theorem QFz:∀ (l:List (List AV)) (b off sz:Nat),QAh c l b off sz → QAb c.H.length l = true
 | [],_,_,_,_=>rfl
 | r :: rs,b,off,sz,h=>by
  simp only [QAh] at h
  obtain ⟨_,h1,h2⟩:=h
  simp only [QAb,QD7 r b off h1,QFz rs b _ sz h2,Bool.and_self]
end
theorem QG2:∀ (l:List (AV × AV)) (n:Nat) (es:List MapEntry),Kvs c l n es → ∀ p ∈ l,QB7 p.1 = false → QAE c.H.length p.1 = true ∧ QAE c.H.length p.2 = true
 | [],_,_,_,p,hp,_=>by cases hp
 | kv :: r,n,es,h,p,hp,hg=>by
  unfold Kvs at h
  rcases List.mem_cons.1 hp with rfl | hp
  ·rw [if_neg (by rw [hg]; decide)] at h
   obtain ⟨e,es',_,h1,h2,_⟩:=h
   exact ⟨QEN _ _ h1,QEN _ _ h2⟩
  ·split at h
   ·exact QG2 r _ _ h p hp hg
   ·obtain ⟨e,es',_,_,_,_,h3⟩:=h
    exact QG2 r _ _ h3 p hp hg
theorem QOK (hr:Rel c) (G:List AObj) {o:Nat} {x:AObj} (hx:c.H[o]? = some x):QFt G c.H.length [] x x:=by
 have ho:=hr.obj o x hx
 cases x with
 | unborn=>trivial
 | dead=>trivial
 | box e cs=>
  obtain ⟨b,arr,_,_,_,h⟩:=ho
  exact ⟨rfl,QCQ (QD7 _ _ _ h)⟩
 | reg e sz l=>
  obtain ⟨v,_,⟨_,h⟩ | ⟨g,o0,cap,cur,_,_,_,_,_,h⟩⟩:=ho
  ·subst h; exact ⟨rfl,rfl,.nil⟩
  ·exact ⟨rfl,rfl,QBY (QFz _ _ _ _ h)⟩
 | map kvs=>
  obtain ⟨r,es,_,_,h⟩:=ho
  exact ⟨rfl,QG2 _ _ _ h⟩
 | iter m s l=>
  obtain ⟨b,r,kvs,_,_,h,_⟩:=ho
  exact ⟨rfl,rfl,rfl,(List.getElem?_eq_some_iff.1 h).1⟩
end
theorem QTJ {r:Rcd} (h:QAk r = true):Fit r:=by
 have hsm:=QEr h
 have:=hsm.props; have:=hsm.tags; have:=hsm.links; have:=hsm.runs; have:=hsm.loads
 exact ⟨by omega,by omega,by omega,by omega,by omega⟩
theorem ACallsR.trunc {P:Program} {f:Nat} {xs:List AV} {H:List AObj} {x:AV} (h:ACallsR P f xs H (fun v G=>v = x ∧ ∃ lit,G = H ++ lit)) (hx:QAE H.length x = true):ACalls P f xs H x H:=
 ⟨h.1,fun c vs hH hr hv=>(h.2 c vs hH hr hv).mono fun e w' ⟨v,c',av,e1,e2,⟨e3,lit,e4⟩,e5,e6,e7⟩=>by
  subst e3
  subst hH
  have hC:QEY c'.H c.H.length [] c.H:=by
   refine ⟨by rw [e4]; simp,by simp,List.nodup_nil,by simp,fun o y z ho hy hz=>?_,by simp⟩
   rw [e4,List.getElem?_append_left ho] at hy
   obtain rfl:=Option.some.inj (hy.symm.trans hz)
   exact QOK hr _ hz
  exact ⟨v,QHm c' c.H.length [] c.H,e1,e2,rfl,QJx e5 hC,QL7 e5 hC rfl (e6.toN _),QFO e5 hC (.same _ hx) e7⟩⟩
theorem allD {H:List AObj} {ob ro so:Nat} {W:RBus} {n:Nat} {K':Nat → Prop} {B:Bus} (h:Bx H ob ro so W n K' B) (hn:n ≤ 1000) {K:SK} {u:QCh K} (hK:K [(ob,.box 82 [.map ro,.map so,.int .i64 B.last]),(ro,.map (rdM B.ready))] [] (.imm (W.ready.map QAR))):QJP Tryz.prog 22 [.ptr ob 0] H K u:=
 ⟨_,[],_,fun p hp=>by
  simp only [List.mem_cons,List.not_mem_nil,or_false] at hp
  rcases hp with rfl | rfl
  ·exact h.at_.box
  ·exact h.at_.rdy,by simp,fun H2 h2=>
  ACallsR.trunc (QPO (h2 (ob,.box 82 [.map ro,.map so,.int .i64 B.last]) (by simp)) (h2 (ro,.map (rdM B.ready)) (by simp)) (h.all hn)) (by rw [QAE]; exact QAM _ _),hK⟩
theorem QPw {H:List AObj} {ob ro so:Nat} {q:Int} (b1:H[ob]? = some (.box 82 [.map ro,.map so,.int .i64 q])):ACalls Tryz.prog 32 [.ptr ob 0] H (.int .i64 q) H:=by
 refine ACallsR.one (QDd _ c32_ok ?_)
 unfold c32
 simp +decide -dsimp -implicitDefEqProofs [go_sem,b1]
 refine QAj _ _ (Wk.refl _ _) ?_
 simp +decide -dsimp -implicitDefEqProofs [go_sem,QBG]
theorem QRj {H:List AObj} {ob ro so:Nat} {W:RBus} {n:Nat} {K':Nat → Prop} {B:Bus} (h:Bx H ob ro so W n K' B) {K:SK} {u:QCh K} (hK:K [(ob,.box 82 [.map ro,.map so,.int .i64 B.last])] [] (.int .i64 W.last)):QJP Tryz.prog 32 [.ptr ob 0] H K u:=
 ⟨_,[],_,fun p hp=>by
  simp only [List.mem_cons,List.not_mem_nil,or_false] at hp
  subst hp
  exact h.at_.box,by simp,fun H2 h2=>by rw [← h.la]; exact QPw (h2 (ob,.box 82 [.map ro,.map so,.int .i64 B.last]) (by simp)),hK⟩
end Go.Ab
