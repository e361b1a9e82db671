/- A copied bus is in step with the reference; a bus that nobody touches stays. -/
import Derived.Test.YtneghlianebffaaGreatDoorTQ
import Derived.Test.YtneghlianebffaaGreatDoorD3P
namespace Go.Ab
open Go Go.Proofs
set_option maxRecDepth 20000
theorem QUf {β:Type} {m m':QAy β} (h:QBI m) (h':QBI m') (he:∀ k,QAo k m = QAo k m'):QEG m = QEG m':=by
 rw [← QJ0,← QJ0]
 exact ((List.perm_ext_iff_of_nodup (QEK h) (QEK h')).2 fun k=>by rw [QIB h,QIB h',he]).length_eq
theorem QNI {m:QAy SbL} (h:QBI m):QBI (QCP m):=QFR _ h
section
variable {H G:List AObj} {ob ro so:Nat} {W:RBus} {n:Nat} {K:Nat → Prop} {B:Bus}
theorem Bx.on (h:Bx H ob ro so W n K B) (hl:H.length ≤ G.length) (hk:∀ i,QQw ob ro so B i → G[i]? = H[i]?) {K':Nat → Prop} (hK:∀ i,K' i → i < G.length ∧ ¬ QQw ob ro so B i):Bx G ob ro so W n K' B:=
 ⟨⟨by rw [hk _ (.inl rfl)]; exact h.at_.box,by rw [hk _ (.inr (.inl rfl))]; exact h.at_.rdy,by rw [hk _ (.inr (.inr (.inl rfl)))]; exact h.at_.sbs,h.at_.rso,fun j p hp=>(h.at_.sub j p hp).keep (fun _ h=>h) fun q hq=>hk q (.inr (.inr (.inr ⟨j,p,hp,hq⟩))),fun j hj=>⟨Nat.lt_of_lt_of_le (h.at_.out j hj).1 hl,(h.at_.out j hj).2⟩,h.at_.dis⟩,h.cp,h.la,h.q0,h.q1,h.rl,h.wl,hK⟩
theorem Bx.lt (h:Bx H ob ro so W n K B) {i:Nat} (hi:QQw ob ro so B i):i < H.length:=by
 rcases hi with rfl | rfl | rfl | hi
 ·exact (List.getElem?_eq_some_iff.1 h.at_.box).1
 ·exact (List.getElem?_eq_some_iff.1 h.at_.rdy).1
 ·exact (List.getElem?_eq_some_iff.1 h.at_.sbs).1
 ·exact (h.at_.out i hi).1
theorem Bx.copied (h:Bx H ob ro so W n K B) {v:AV} (hc:QWk H B v G):v = .ptr (H.length + 2) 0 ∧ (∃ B',Bx G (H.length + 2) H.length (H.length + 1) W n (fun i=>i < H.length) B' ∧ ∀ i,QQw (H.length + 2) H.length (H.length + 1) B' i → H.length ≤ i) ∧ (∀ i,i < H.length → G[i]? = H[i]?) ∧ H.length < G.length:=by
 obtain ⟨S,h1,h2,h3,h4,h5,h6⟩:=hc
 have hlt:=(List.getElem?_eq_some_iff.1 h2.box).1
 have hlo:∀ i,QQw (H.length + 2) H.length (H.length + 1) ⟨B.ready,S,B.last⟩ i → H.length ≤ i:=fun i hi=>by
  rcases hi with rfl | rfl | rfl | hi
  ·omega
  ·omega
  ·omega
  ·exact h4 i hi
 refine ⟨h1,⟨_,⟨h2,⟨h.cp.oR,QNI h5,h.cp.key,h.cp.mem,h.cp.asc,h.cp.par,h.cp.nm,fun n=>?_,?_⟩,h.la,h.q0,h.q1,h.rl,h.wl,fun i hi=>⟨by omega,fun ha=>by have:=hlo i ha; omega⟩⟩,hlo⟩,h3,by omega⟩
 ·rw [h6]; exact h.cp.sub n
 ·rw [← h.cp.cnt]; exact QUf (QNI h5) h.cp.oD h6
end
theorem CS.copied {l:List Int} {k:Nat} {W:RBus} {n nf:Nat} {x:AObj} {H G:List AObj} (h:CS [] 0 3 1 2 l k W n (fun i=>i = 0) [(nf,x)] H) {B:Bus} (hB:Bx H 3 1 2 W n (fun i=>i = 0 ∨ ∃ p ∈ [(nf,x)],p.1 = i) B) {v:AV} (hc:QWk H B v G):v = .ptr (H.length + 2) 0 ∧ (∃ B',Bx G (H.length + 2) H.length (H.length + 1) W n (fun i=>i < H.length) B' ∧ ∀ i,QQw (H.length + 2) H.length (H.length + 1) B' i → H.length ≤ i) ∧ CS G 0 3 1 2 l k W n (fun i=>i = 0 ∨ (H.length ≤ i ∧ i < G.length)) [(nf,x)] G ∧ nf < H.length:=by
 obtain ⟨e1,e2,e3,e4⟩:=hB.copied hc
 have h0:=(List.getElem?_eq_some_iff.1 h.tp).1
 have hn:=(List.getElem?_eq_some_iff.1 (h.loc (nf,x) (by simp))).1
 refine ⟨e1,e2,⟨⟨B,hB.on (by omega) (fun i hi=>e3 i (hB.lt hi)) fun i hi=>?_⟩,.inl rfl,by rw [e3 0 h0]; exact h.tp,fun _ _ _=>rfl,fun p hp=>?_,fun p hp=>?_,Nat.le_refl _⟩,hn⟩
 ·rcases hi with (rfl | hi) | ⟨p,hp,rfl⟩
  ·exact ⟨by omega,(hB.kp 0 (.inl rfl)).2⟩
  ·exact ⟨hi.2,fun ha=>by have:=hB.lt ha; omega⟩
  ·have:=hB.kp p.1 (.inr ⟨p,hp,rfl⟩)
   exact ⟨by omega,this.2⟩
 ·rw [e3 p.1 (List.getElem?_eq_some_iff.1 (h.loc p hp)).1]; exact h.loc p hp
 ·have hp':=h.nl p hp
  have:=(List.getElem?_eq_some_iff.1 (h.loc p hp)).1
  rintro (e | e)
  ·exact hp' e
  ·omega
theorem CS.over {l:List Int} {k:Nat} {V W:RBus} {n n' N nf:Nat} {x:AObj} {G F:List AObj} {L:List (Nat × AObj)} (h:CS G 0 3 1 2 l k V n (fun i=>i = 0 ∨ (N ≤ i ∧ i < G.length)) L F) {B':Bus} (hB:Bx G (N + 2) N (N + 1) W n' (fun i=>i < N) B') (hlo:∀ i,QQw (N + 2) N (N + 1) B' i → N ≤ i) (hL:(nf,x) ∈ L) (hn:nf < N) (h0:nf ≠ 0):CS [] 0 (N + 2) N (N + 1) l k W n' (fun i=>i = 0) [(nf,x)] F:=by
 have hlt:=(List.getElem?_eq_some_iff.1 (h.loc _ hL)).1
 have hl0:=(List.getElem?_eq_some_iff.1 h.tp).1
 refine ⟨⟨B',hB.on h.hl (fun i hi=>h.old i (.inr ⟨hlo i hi,hB.lt hi⟩) (by have:=hlo i hi; omega)) fun i hi=>?_⟩,rfl,h.tp,fun i hi hne=>(hne hi).elim,fun p hp=>?_,fun p hp=>?_,Nat.zero_le _⟩
 ·rcases hi with rfl | ⟨p,hp,rfl⟩
  ·exact ⟨hl0,(hB.kp 0 (by omega)).2⟩
  ·simp at hp; subst hp; exact ⟨hlt,(hB.kp nf hn).2⟩
 ·simp at hp; subst hp; exact h.loc _ hL
 ·simp at hp; subst hp; exact h0
end Go.Ab
namespace Go.Ab
open Go Go.Proofs
set_option maxRecDepth 20000
def cpaS (nf:Nat) (s:Nat × List AObj):St:=⟨tmps 115 [(3,.ptr 0 0),(4,.ptr 3 0),(5,.ptr nf 0),(6,.int .i64 s.1)],s.2⟩
def cpaI (l:List Int) (nf:Nat) (s:Nat × List AObj):Prop:=s.1 ≤ 12 ∧ ∃ k W x y,LS l k W (12 - s.1) nf (.box 52 [x,y,.int .i64 W.last]) s.2 ∧ nzL [x,y,.int .i64 W.last] = QBA W ∧ (∀ k,QAB k [x,y] = true) ∧ k ≤ 1 + (12 - s.1) * 300
def cpbS (nf nf2 N:Nat) (s:Nat × List AObj):St:=⟨tmps 115 [(3,.ptr 0 0),(4,.ptr 3 0),(5,.ptr nf 0),(7,.ptr (N + 2) 0),(8,.ptr nf2 0),(9,.int .i64 s.1)],s.2⟩
def cpbI (l:List Int) (nf nf2 N:Nat) (G:List AObj) (c:AObj) (s:Nat × List AObj):Prop:=s.1 ≤ 8 ∧ ∃ k W x y,CS G 0 3 1 2 l k W (20 - s.1) (fun i=>i = 0 ∨ (N ≤ i ∧ i < G.length)) [(nf,c),(nf2,.box 52 [x,y,.int .i64 W.last])] s.2 ∧ RbOk W (20 - s.1) ∧ nzL [x,y,.int .i64 W.last] = QBA W ∧ k ≤ 1 + (20 - s.1) * 300
def cpcS (nf N:Nat) (s:Nat × List AObj):St:=⟨tmps 115 [(5,.ptr nf 0),(7,.ptr (N + 2) 0),(10,.imm (stuS.map QAT)),(11,.int .i64 s.1)],s.2⟩
def cpcI (l:List Int) (nf N k:Nat) (s:Nat × List AObj):Prop:=s.1 ≤ 3 ∧ ∃ W x y,CS [] 0 (N + 2) N (N + 1) l k W (30 + s.1) (fun i=>i = 0) [(nf,.box 52 [x,y,.int .i64 W.last])] s.2 ∧ RbOk W (30 + s.1) ∧ nzL [x,y,.int .i64 W.last] = QBA W ∧ (∀ k,QAB k [x,y] = true) ∧ (0 < s.1 → x = .imm (W.ready.map QAR))
set_option maxHeartbeats 8000000 in
theorem QI1 (l:List Int):ACalls Tryz.prog 9 [.imm (l.map fun v=>[.int .i64 v])] [] (.bool true) []:=by
 have hcT:∀ k,QAb k (l.map fun v=>[AV.int .i64 v]) = true:=fun k=>QAn fun x _=>rfl
 have hs:[[AV.str [115]],[.str [116]],[.str [117]]] = stuS.map QAT:=rfl
 refine QA2 cqq rfl ?_
 refine gS ?_
 refine gS ?_
 refine gS ?_
 refine QAS (QIG [QAO l 0] (fun i=>i < 1) (fun i hi=>hi)) ?_
 rintro _ G0 ⟨rfl,h0⟩
 refine gs ?_
 have s0:=LS.start h0 (.box 52 [.nils,.nils,.int .i64 0])
 have nf0:0 < G0.length:=by have:=h0.2.2; simp at this; omega
 generalize G0.length = nf at s0 nf0 ⊢
 generalize G0 ++ [AObj.box 52 [.nils,.nils,.int .i64 0]] = G1 at s0 ⊢
 refine gS ?_
 refine gS ?_
 refine QAS (QB2 s0.tp (by omega) 12 (by decide)) ?_
 rintro _ _ ⟨x0,rfl,hx0,rfl⟩
 have s1:=s0.tape 1
 generalize G1.set 0 (QAO l (0 + 1)) = G2 at s1 ⊢
 obtain ⟨i0,rfl⟩:∃ i:Nat,x0 = i:=⟨_,(Int.toNat_of_nonneg hx0.1).symm⟩
 refine gs ?_
 refine QAQ (S:=Nat × List AObj) (cpaS nf) (fun s=>s.1) (cpaI l nf) (i0,G2) ⟨by show i0 ≤ 12; omega,1,⟨[],[],0⟩,.nils,.nils,s1.bump (Nat.zero_le _),rfl,fun _=>rfl,by omega⟩ (Wk.jk ?_) ?_
 ·simp +decide -dsimp -implicitDefEqProofs [go_sem,jkT]
 rintro ⟨i,G⟩ ⟨hi,k,W,x,y,hL,hnz,hcx,hk⟩
 simp only at hi hL hk
 unfold cpaS
 by_cases hi0:0 < i
 ·have hi1:(0:Int) < (i:Int):=by omega
  have w1:IntKind.i64.wrap ((i:Int) - 1) = ((i - 1:Nat):Int):=by rw [w64 (by omega) (by omega)]; omega
  have r0:=hL.rf
  simp +decide -dsimp -implicitDefEqProofs [go_sem,hi0,r0]
  refine QAS (hL.call (by omega) (by omega) [118] (by decide) hnz) ?_
  rintro _ G3 ⟨W',k',rfl,hk',hL3⟩
  have r3:=hL3.rf
  have lt3:=(List.getElem?_eq_some_iff.1 r3).1
  have hL4:=hL3.upd (.box 52 (QBA W'))
  unfold QBA
  simp +decide -dsimp -implicitDefEqProofs [go_sem,r3,w1]
  rw [if_pos lt3]
  refine QAG (S:=Nat × List AObj) (i - 1,G3.set nf (.box 52 (QBA W'))) ⟨by show i - 1 ≤ 12; omega,k',W',_,_,hL4.bump (by show 12 - i + 1 ≤ 12 - (i - 1); omega),by simp [QBA,nzL,nz,QCp,QCA],fun _=>by simp [QAB,QAE,QAM,QA1],by show k' ≤ 1 + (12 - (i - 1)) * 300; omega⟩ (by show i - 1 < i; omega) (Wk.jk ?_)
  simp +decide -dsimp -implicitDefEqProofs [go_sem,jkT]
 have hi1:¬ (0:Int) < (i:Int):=by omega
 simp +decide -dsimp -implicitDefEqProofs [go_sem,hi0]
 refine gS ?_
 obtain ⟨B,b⟩:=hL.bx
 refine QAS (QWl b.at_ (QMF b.cp.oD)) ?_
 rintro v G3 hcp
 obtain ⟨rfl,⟨Bc,bc,hlo⟩,hC3,hnf⟩:=hL.c.copied b hcp
 generalize hN:G.length = N at *
 refine gs ?_
 refine gS ?_
 have r3:=hC3.loc (nf,.box 52 [x,y,.int .i64 W.last]) (by simp)
 simp only at r3
 refine QBU ?_
 simp +decide -dsimp -implicitDefEqProofs [go_sem,r3]
 have hC4:=hC3.new [.box 52 [x,y,.int .i64 W.last]] [(nf,.box 52 [x,y,.int .i64 W.last]),(G3.length,.box 52 [x,y,.int .i64 W.last])] (fun p hp=>by
  simp only [List.mem_cons,List.not_mem_nil,or_false] at hp
  rcases hp with rfl | rfl
  ·exact .inl (by simp)
  ·exact .inr ⟨Nat.le_refl _,by simp⟩)
 have hlt3:N < G3.length:=by have:=(List.getElem?_eq_some_iff.1 bc.at_.box).1; omega
 have hcl:=hcx
 generalize hG4:G3 ++ [AObj.box 52 [x,y,.int .i64 W.last]] = G4 at hC4 ⊢
 generalize hq:G3.length = nf2 at hC4 hlt3 ⊢
 clear hG4
 refine gS ?_
 refine QAS (QB2 hC4.tp (by omega) 8 (by decide)) ?_
 rintro _ _ ⟨x1,rfl,hx1,rfl⟩
 have s5:=hC4.tape (k + 1)
 generalize G4.set 0 (QAO l (k + 1)) = G5 at s5 ⊢
 obtain ⟨i1,rfl⟩:∃ i:Nat,x1 = i:=⟨_,(Int.toNat_of_nonneg hx1.1).symm⟩
 refine gs ?_
 rw [← hq] at s5
 refine QAQ (S:=Nat × List AObj) (cpbS nf nf2 N) (fun s=>s.1) (cpbI l nf nf2 N G3 (.box 52 [x,y,.int .i64 W.last])) (i1,G5) ⟨by show i1 ≤ 8; omega,k + 1,W,x,y,by rw [← hq]; exact s5.bump (by show 12 - i ≤ 20 - i1; omega),hL.ok.le (by show 12 - i ≤ 20 - i1; omega),hnz,by show k + 1 ≤ 1 + (20 - i1) * 300; omega⟩ (Wk.jk ?_) ?_
 ·simp +decide -dsimp -implicitDefEqProofs [go_sem,jkT]
 have hne:nf2 ≠ nf:=by omega
 have nfN:=hnf
 obtain ⟨n0,hn0⟩:∃ n0,12 - i ≤ n0 ∧ n0 = 30:=⟨30,by omega,rfl⟩
 have bc3:=bc.bump (n':=30) (by omega)
 have okW:=hL.ok.le (n':=30) (by omega)
 clear hL b hcp hC3 hC4 s5 r3 hi1 hi0 hk hi hx1 hx0 s0 s1 h0 hn0
 rintro ⟨j,F⟩ ⟨hj,k2,V,x2,y2,hC,hO,hnz2,hk2⟩
 simp only at hj hC hO hk2
 unfold cpbS
 by_cases hj0:0 < j
 ·have hj1:(0:Int) < (j:Int):=by omega
  have w1:IntKind.i64.wrap ((j:Int) - 1) = ((j - 1:Nat):Int):=by rw [w64 (by omega) (by omega)]; omega
  have r0:=hC.loc (nf2,.box 52 [x2,y2,.int .i64 V.last]) (by simp)
  simp only at r0
  simp +decide -dsimp -implicitDefEqProofs [go_sem,hj0,r0]
  refine QAS (hC.call hO (by omega) (by omega) [118] (by decide) (Agr.refl _ _) hnz2) ?_
  rintro _ F3 ⟨V',W',k',rfl,hst,hk',hC6⟩
  have e:=hst.diag
  subst e
  have r6:=hC6.loc (nf2,.box 52 [x2,y2,.int .i64 V.last]) (by simp)
  simp only at r6
  have lt6:=(List.getElem?_eq_some_iff.1 r6).1
  have hC7:=hC6.upd (b:=nf2) ⟨(nf2,.box 52 [x2,y2,.int .i64 V.last]),by simp,rfl⟩ (.box 52 (QBA V')) [(nf,.box 52 [x,y,.int .i64 W.last]),(nf2,.box 52 (QBA V'))] (fun p hp=>by
   simp only [List.mem_cons,List.not_mem_nil,or_false] at hp
   rcases hp with rfl | rfl
   ·exact .inl ⟨by simp,Ne.symm hne⟩
   ·exact .inr rfl)
  unfold QBA
  simp +decide -dsimp -implicitDefEqProofs [go_sem,r6,w1]
  rw [if_pos lt6]
  refine QAG (S:=Nat × List AObj) (j - 1,F3.set nf2 (.box 52 (QBA V'))) ⟨by show j - 1 ≤ 8; omega,k',V',_,_,hC7.bump (by show 20 - j + 1 ≤ 20 - (j - 1); omega),(hst.ok hO).le (by show 20 - j + 1 ≤ 20 - (j - 1); omega),by simp [QBA,nzL,nz,QCp,QCA],by show k' ≤ 1 + (20 - (j - 1)) * 300; omega⟩ (by show j - 1 < j; omega) (Wk.jk ?_)
  simp +decide -dsimp -implicitDefEqProofs [go_sem,jkT]
 have hj1:¬ (0:Int) < (j:Int):=by omega
 have hD:=hC.over bc3 hlo (x:=.box 52 [x,y,.int .i64 W.last]) (by simp) hnf (by omega)
 simp +decide -dsimp -implicitDefEqProofs [go_sem,hj0]
 refine gS ?_
 rw [hs]
 refine gS ?_
 refine QAQ (S:=Nat × List AObj) (cpcS nf N) (fun s=>3 - s.1) (cpcI l nf N k2) (0,F) ⟨Nat.zero_le _,W,x,y,hD,okW,hnz,hcl,fun h=>absurd h (Nat.lt_irrefl 0)⟩ (Wk.jk ?_) ?_
 ·simp +decide -dsimp -implicitDefEqProofs [go_sem,jkT]
 clear hD hC hO hnz2 hk2 hj hj0 hj1 hnz okW bc3 hcl hcx
 rintro ⟨j,F⟩ ⟨hj,W,x,y,hC,hO,hnz,hcl,hxx⟩
 simp only at hj hC hO hxx
 unfold cpcS
 have r0:=hC.loc (nf,.box 52 [x,y,.int .i64 W.last]) (by simp)
 simp only at r0
 have lt0:=(List.getElem?_eq_some_iff.1 r0).1
 have hl3:stuS.length = 3:=rfl
 by_cases hj3:j < 3
 ·have hj3':(j:Int) < 3:=by omega
  have hjl:j < stuS.length:=hj3
  have w2:IntKind.i64.wrap ((j:Int) + 1) = j + 1:=w64 (by omega) (by omega)
  obtain ⟨nm,hnm⟩:∃ nm,nm = stuS[j]:=⟨_,rfl⟩
  have hgj:stuS[j]? = some nm:=by rw [hnm]; exact List.getElem?_eq_getElem hjl
  obtain ⟨B6,b6⟩:=hC.bx
  simp +decide -dsimp -implicitDefEqProofs [go_sem,hj3',hgj,hl3]
  refine QAS (QE0 b6 (by omega) nm 100) ?_
  rintro _ F2 ⟨rfl,hx2⟩
  have hC2:=hC.bus hx2
  have r2:=hC2.loc (nf,.box 52 [x,y,.int .i64 W.last]) (by simp)
  simp only at r2
  have cr:=QO5 W nm 100 hO (by omega) (by omega)
  have cr':ACalls Tryz.prog 35 [.agg [x,y,.int .i64 W.last],.str nm,.int .i64 100] [] _ []:=ACalls.nz (by
   rw [show nzL [.agg [x,y,.int .i64 W.last],.str nm,.int .i64 100] = [.agg (nzL [x,y,.int .i64 W.last]),.str nm,.int .i64 100] from rfl,hnz]
   exact cr)
  have hcX:=QDk 0 (W.readR nm 100).1
  obtain ⟨hfit0,hfl0⟩:=QLi hO nm 100
  have hfit:=fun z hz=>(QEr (hfit0 z hz)).few.fit
  have cs:=QOt (W.readR nm 100).2.1 (W.readR nm 100).2.1 hfit hfit (by omega) (by omega)
  have hcn:=QA8 0 (W.readR nm 100).2.1
  rw [decide_eq_true rfl] at cs
  have hO2:=hO.read nm 100
  clear hfit hfit0 hfl0 cr
  generalize (W.readR nm 100).1 = X at hC2 hO2 hcX cr'
  generalize (W.readR nm 100).2.1 = N1 at cr' cs hcn ⊢
  generalize (W.readR nm 100).2.2.1 = bh at cr' ⊢
  generalize (W.readR nm 100).2.2.2 = e at cr' ⊢
  unfold QBA at cr' hcX
  have hgl:F2.length ≠ nf:=by have:=(List.getElem?_eq_some_iff.1 r2).1; omega
  have r2':∀ m,(F2 ++ m)[nf]? = some (.box 52 [x,y,.int .i64 W.last]):=fun m=>by rw [List.getElem?_append_left (List.getElem?_eq_some_iff.1 r2).1]; exact r2
  simp +decide -dsimp -implicitDefEqProofs [go_sem,r2',hgj]
  refine QAK cr' (by simpa [QAB,QAE] using hcl 0) (by simpa [QAE,QAB,hcn] using hcX) ?_
  simp +decide -dsimp -implicitDefEqProofs [go_sem,r2']
  refine ⟨by simp +decide [QBB,QCz,hgl,Ne.symm hgl],?_⟩
  have hlf:nf < F2.length + 1:=by have:=(List.getElem?_eq_some_iff.1 r2).1; omega
  rw [if_pos hlf]
  have hC9:=(hC2.new [.box 52 (QBA X)] [(nf,.box 52 [x,y,.int .i64 W.last])] (fun p hp=>.inl hp)).upd (b:=nf) ⟨(nf,.box 52 [x,y,.int .i64 W.last]),by simp,rfl⟩ (.box 52 (QBA X)) [(nf,.box 52 (QBA X))] (fun p hp=>.inr (List.mem_singleton.1 hp))
  refine QAA cs (by simp [QAB,QAE,hcn]) rfl ?_
  simp +decide -dsimp -implicitDefEqProofs [go_sem,w2]
  refine QAG (S:=Nat × List AObj) (j + 1,(F2 ++ [AObj.box 52 (QBA X)]).set nf (.box 52 (QBA X))) ⟨hj3,X,_,_,hC9.bump (by omega),hO2,by simp [QBA,nzL,nz,QCp,QCA],fun _=>by simp [QAB,QAE,QAM,QA1],fun _=>rfl⟩ (by show 3 - (j + 1) < 3 - j; omega) (Wk.jk ?_)
  simp +decide -dsimp -implicitDefEqProofs [go_sem,jkT]
 ·have ej:j = 3:=by omega
  subst ej
  obtain rfl:=hxx (by decide)
  obtain ⟨B6,b6⟩:=hC.bx
  have hrl:=hO.rl
  simp +decide -dsimp -implicitDefEqProofs [go_sem,hl3]
  refine QAD ?_
  refine gs ?_
  refine QRj b6 ?_
  simp +decide -dsimp -implicitDefEqProofs [go_sem,r0]
  refine allD b6 (by omega) ?_
  simp +decide -dsimp -implicitDefEqProofs [go_sem,r0]
  refine QAK (QJQ W.ready (fun r hr=>QTJ (hO.rs r hr)) (by omega)) (by simp [QAB,QAE,QAM]) rfl ?_
  refine gs ?_
  refine QAK QF6 rfl rfl ?_
  refine gs ?_
  simp +decide [QBB,QCz]
end Go.Ab
