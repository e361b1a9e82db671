/- A subscriber apart that wants everything and has read everything: what a turn sends it. -/
import Derived.Test.YtneghlianebffaaGreatDoorE8P
namespace Go.Ab
open Go Go.Proofs
set_option maxRecDepth 20000
theorem QMs:(QCf [42]).map (fun L=>L.map fun l=>l.map (·.star)) = some [[true]]:=by decide +kernel
theorem QOi:∃ e:El,QCf [42] = some [[e]] ∧ e.star = true:=by
 have h:=QMs
 cases hp:QCf [42] with
 | none=>rw [hp] at h; cases h
 | some L=>
  rw [hp] at h
  rcases L with _ | ⟨l,_ | ⟨l2,L⟩⟩
  ·simp at h
  ·rcases l with _ | ⟨e,_ | ⟨e2,l⟩⟩
   ·simp at h
   ·exact ⟨e,rfl,by simpa using h⟩
   ·simp at h
  ·simp at h
theorem QOj {s:Txt} (h:QBJ s = true):QDR [42] s = true:=by
 obtain ⟨e,e1,e2⟩:=QOi
 unfold QDR
 rw [e1]
 simp only [h,Bool.true_and,List.any_cons,List.any_nil,Bool.or_false]
 exact (QGO e2 [] s).2 ⟨s.length,Nat.le_refl _,by rw [List.drop_length,QMH]; rfl⟩
theorem QNv {r:Rcd} (h:QAk r = true):QA4 QKm r = true:=by
 have hp:QBJ (QI0 r.props QEc) = true:=by
  unfold QI0
  split
  ·rename_i p hp
   have hm:=List.mem_of_find?_eq_some hp
   have h1:r.props.all QDz = true:=by
    unfold QAk QFh at h
    simp only [Bool.and_eq_true] at h
    simp only [h]
   have h2:=List.all_eq_true.1 h1 p hm
   unfold QDz QCb at h2
   simp only [Bool.and_eq_true] at h2
   simp only [h2]
  ·rfl
 unfold QA4 QKm
 simp only [QOj hp,decide_true,Bool.true_or,Bool.and_self]
theorem Bx.sees {H:List AObj} {ob ro so:Nat} {W:RBus} {n:Nat} {K:Nat → Prop} {B:Bus} (h:Bx H ob ro so W n K B) {nm:Txt} {t:RSb} (hf:W.find nm = some t) (hb:t.behind = false) (p:Txt):p ∈ t.sees ↔ ∃ r ∈ W.ready,r.path = p ∧ QA4 t.f r = true:=by
 have hs:=h.cp.sub nm
 rw [hf] at hs
 cases hg:QAo nm (QCP B.subs) with
 | none=>rw [hg] at hs; exact hs.elim
 | some s=>
  rw [hg] at hs
  have hl:QDX B.ready s t:=hs
  rw [← hl.se (hl.b.trans hb) p,hl.wa (hl.b.trans hb) p,hl.f]
  constructor
  ·rintro ⟨r,h1,h2⟩
   obtain ⟨h3,_⟩:=h.cp.key p r h1
   exact ⟨r,(h.cp.mem r).2 (by rw [h3]; exact h1),h3,h2⟩
  ·rintro ⟨r,h1,rfl,h2⟩
   exact ⟨r,(h.cp.mem r).1 h1,h2⟩
theorem Ow.vown {V W:RBus} {o:RSb} {B l:List RSb} (h:Ow V W [o] B l):V.find QDA = some o:=by
 unfold RBus.find
 rw [h.vs]
 simp [h.an o (by simp)]
structure QYx (o:RSb):Prop where
 b:o.behind = false
 w:o.wait = []
 f:o.f = QKm
theorem QOk {V V':RBus} {o:RSb} {A':List RSb} (hq:QYx o) (hs:OwS V [o] V' A') (hse:∀ r ∈ V.ready,r.path ∈ o.sees):∃ o',A' = [o'] ∧ o'.behind = false ∧ o'.f = QKm ∧ ((o'.wait = [] ∧ V'.last = V.last) ∨ ∃ m:Ntc,o'.wait = [m] ∧ m.seq = V.last + 1 ∧ V'.last = V.last + 1):=by
 cases hs with
 | same h1 h2 _=>exact ⟨o,h1,hq.b,hq.f,.inl ⟨hq.w,h2⟩⟩
 | told r rdy h1 h2 h3 h4=>
  have key:∀ m:Ntc,m.seq = V.last + 1 → QAp (V.last + 1) r rdy o = QCX m o → ∃ o',A' = [o'] ∧ o'.behind = false ∧ o'.f = QKm ∧ ((o'.wait = [] ∧ V'.last = V.last) ∨ ∃ m:Ntc,o'.wait = [m] ∧ m.seq = V.last + 1 ∧ V'.last = V.last + 1):=fun m hm e=>by
   refine ⟨QCX m o,by rw [h2,← e]; rfl,?_⟩
   unfold QCX
   rw [hq.b,hq.w]
   simp only [Bool.false_eq_true,if_false,List.length_nil,show ¬ (0:Nat) = 64 by decide,List.nil_append]
   exact ⟨trivial,hq.f,.inr ⟨m,rfl,hm,h3⟩⟩
  cases rdy with
  | true=>
   refine key ⟨V.last + 1,1,r⟩ rfl ?_
   unfold QAp
   rw [hq.f,if_pos ⟨rfl,QNv h1⟩]
  | false=>
   refine key ⟨V.last + 1,2,r⟩ rfl ?_
   unfold QAp
   rw [if_neg (by simp),if_pos (hse r (h4 rfl))]
theorem QSi {V:RBus} {o:RSb} (hf:V.find QDA = some o) (hb:o.behind = false) (hw:o.wait.length ≤ 9):V.readR QDA 9 = (⟨V.ready,QEF QDA { o with wait:=[] } V.subs,V.last⟩,o.wait,false,0):=by
 have hc:QCC 9 o.wait.length = o.wait.length:=by unfold QCC; rw [if_neg (by decide)]; exact Nat.min_eq_right hw
 unfold RBus.readR
 rw [hf]
 simp only [hb,Bool.false_eq_true,if_false,hc,List.drop_length,List.take_length]
theorem Ow.put {V W:RBus} {o y:RSb} {B l:List RSb} (h:Ow V W [o] B l) (hy:y.name = QDA):Ow ⟨V.ready,QEF QDA y V.subs,V.last⟩ W [y] B l:=
 ⟨h.rd,h.la,by show QEF QDA y V.subs = _; rw [h.vs]; simp [QEF,h.an o (by simp)],h.ws,by simpa using hy,h.bn,by simp,h.bl,h.nm,h.nd⟩
def own0:RSb:=⟨QDA,QKm,[],[],true⟩
def QVr:RSb:=⟨QDA,QKm,[],[],false⟩
theorem QVs:(⟨[],[],0⟩:RBus).subR QDA QKm = (⟨[],[own0],0⟩,0):=by decide +kernel
theorem QSj:(⟨[],[own0],0⟩:RBus).readR QDA 0 = (⟨[],[QVr],0⟩,[],true,0):=by
 delta RBus.readR RBus.wanted
 rw [QDc]
 decide +kernel
theorem Ow.first:Ow ⟨[],[QVr],0⟩ ⟨[],[],0⟩ [QVr] [] []:=⟨rfl,rfl,rfl,rfl,by simp [QVr],by simp,by simp,by simp,by simp,by simp⟩
end Go.Ab
namespace Go.Ab
open Go Go.Proofs
set_option maxRecDepth 20000
def flsS (nf:Nat) (s:Nat × List AObj):St:=⟨tmps 91 [(3,.ptr 0 0),(4,.ptr 3 0),(5,.ptr nf 0),(9,.int .i64 s.1)],s.2⟩
def flsI (l:List Int) (nf:Nat) (s:Nat × List AObj):Prop:=s.1 ≤ 16 ∧ ∃ k V W x y o L,CS [] 0 3 1 2 l k V (16 - s.1) (fun i=>i = 0) [(nf,.box 52 [x,y,.int .i64 W.last])] s.2 ∧ RbOk W (16 - s.1) ∧ nzL [x,y,.int .i64 W.last] = QBA W ∧ Ow V W [o] [] L ∧ QYx o ∧ k ≤ 1 + (16 - s.1) * 300
set_option maxHeartbeats 4000000 in
theorem QIu (l:List Int):ACalls Tryz.prog 8 [.imm (l.map fun v=>[.int .i64 v])] [] (.bool true) []:=by
 have hcT:∀ k,QAb k (l.map fun v=>[AV.int .i64 v]) = true:=fun k=>QAn fun x _=>rfl
 refine QA2 cqq rfl ?_
 refine gS ?_
 refine gS ?_
 refine gS ?_
 refine QAS (QIG [QAO l 0] (fun i=>i < 1) (fun i hi=>hi)) ?_
 rintro _ G0 ⟨rfl,h0⟩
 refine gs ?_
 have s0:=(CS.start rfl h0 [] (by simp)).new [.box 52 [.nils,.nils,.int .i64 0]] [(G0.length,.box 52 [.nils,.nils,.int .i64 0])] fun p hp=>.inr (by simp at hp; subst hp; exact ⟨Nat.le_refl _,by simp⟩)
 generalize G0.length = nf at s0 ⊢
 generalize G0 ++ [AObj.box 52 [.nils,.nils,.int .i64 0]] = G1 at s0 ⊢
 refine gS ?_
 obtain ⟨B1,b1⟩:=s0.bx
 refine QAS (QK6 b1 QDA QKm (by decide)) ?_
 rw [QVs]
 rintro _ G2 ⟨rfl,hx2⟩
 have s2:=s0.bus hx2
 refine gs ?_
 refine gS ?_
 obtain ⟨B2,b2⟩:=s2.bx
 refine QAS (QE0 b2 (by decide) QDA 0) ?_
 rw [QSj]
 rintro _ G3 ⟨rfl,hx3⟩
 have s3:=s2.bus hx3
 refine gs ?_
 refine gS ?_
 refine QAS (QB2 s3.tp (by omega) 16 (by decide)) ?_
 rintro _ _ ⟨x0,rfl,hx0,rfl⟩
 have s4:=s3.tape 1
 generalize G3.set 0 (QAO l (0 + 1)) = G4 at s4 ⊢
 obtain ⟨i0,rfl⟩:∃ i:Nat,x0 = i:=⟨_,(Int.toNat_of_nonneg hx0.1).symm⟩
 refine gs ?_
 refine QAQ (S:=Nat × List AObj) (flsS nf) (fun s=>s.1) (flsI l nf) (i0,G4) ⟨by show i0 ≤ 16; omega,1,⟨[],[QVr],0⟩,⟨[],[],0⟩,.nils,.nils,QVr,[],s4.bump (Nat.zero_le _),RbOk.nil.le (Nat.zero_le _),rfl,Ow.first,⟨rfl,rfl,rfl⟩,by omega⟩ (Wk.jk ?_) ?_
 ·simp +decide -dsimp -implicitDefEqProofs [go_sem,jkT]
 rintro ⟨i,G⟩ ⟨hi,k,V,W,x,y,o,L,hC,hO,hnz,hw,hq,hk⟩
 simp only at hi hC hO hk
 unfold flsS
 by_cases hi0:0 < i
 rotate_left
 ·have hi1:¬ (0:Int) < (i:Int):=by omega
  simp +decide -dsimp -implicitDefEqProofs [go_sem,hi0]
  refine QAD ?_
  refine gs ?_
  refine QAA QF6 rfl rfl ?_
  simp +decide -dsimp -implicitDefEqProofs [go_sem]
 have hi1:(0:Int) < (i:Int):=by omega
 have r0:=hC.loc _ (List.mem_singleton.2 rfl)
 obtain ⟨B,b⟩:=hC.bx
 have hse:∀ r ∈ V.ready,r.path ∈ o.sees:=fun r hr=>(b.sees hw.vown hq.b r.path).2 ⟨r,hr,rfl,by rw [hq.f]; exact QNv (hO.rs r (by rw [← hw.rd]; exact hr))⟩
 simp +decide -dsimp -implicitDefEqProofs [go_sem,hi0]
 refine QDO (QPw b.at_.box) ?_
 simp only at r0
 simp +decide -dsimp -implicitDefEqProofs [go_sem,r0]
 refine QAS (hC.call hO (by omega) (by omega) [118] (by decide) hw.agr hnz) ?_
 rintro _ G3 ⟨V',W',k',rfl,hst,hk',hC3⟩
 obtain ⟨A',B',L',hw',hos,hbl⟩:=hw.step hst hO.rs
 have hO':=hst.ok hO
 obtain ⟨o',rfl,q1,q2,q3⟩:=QOk hq hos hse
 have hB':B' = []:=List.eq_nil_of_length_eq_zero hbl
 subst hB'
 have r3:=hC3.loc _ (List.mem_singleton.2 rfl)
 simp only at r3
 have lt3:=(List.getElem?_eq_some_iff.1 r3).1
 have hC4:=hC3.upd (b:=nf) ⟨_,List.mem_singleton.2 rfl,rfl⟩ (.box 52 (QBA W')) [(nf,.box 52 (QBA W'))] (fun p hp=>.inr (List.mem_singleton.1 hp))
 unfold QBA
 simp +decide -dsimp -implicitDefEqProofs [go_sem,r3]
 rw [if_pos lt3]
 unfold QBA at hC4
 generalize G3.set nf (.box 52 [.imm (W'.ready.map QAR),.imm (W'.subs.map QAv),.int .i64 W'.last]) = G5 at hC4 ⊢
 obtain ⟨B5,b5⟩:=hC4.bx
 refine QAS (QE0 b5 (by omega) QDA 9) ?_
 have hwl:o'.wait.length ≤ 9:=by
  rcases q3 with ⟨e,_⟩ | ⟨m,e,_⟩
  ·rw [e]; simp
  ·rw [e]; simp
 rw [QSi hw'.vown q1 hwl]
 rintro _ G6 ⟨rfl,hx6⟩
 have hC6:=hC4.bus hx6
 obtain ⟨B6,b6⟩:=hC6.bx
 have hw6:=hw'.put (y:={ o' with wait:=[] }) (hw'.an o' (by simp))
 have w1:IntKind.i64.wrap ((i:Int) - 1) = ((i - 1:Nat):Int):=by rw [w64 (by omega) (by omega)]; omega
 have bq0:=b.q0
 have bq1:=b.q1
 have bla:=b.la
 rw [bla]
 refine gs ?_
 refine QRj b6 ?_
 have nx:∀ s,s = i - 1 → flsI l nf (s,G6):=fun s hs=>by
  subst hs
  exact ⟨by show i - 1 ≤ 16; omega,k',_,W',_,_,_,L',hC6.bump (by show 16 - i + 1 ≤ 16 - (i - 1); omega),hO'.le (by show 16 - i + 1 ≤ 16 - (i - 1); omega),by simp [QBA,nzL,nz,QCp,QCA],hw6,⟨q1,rfl,q2⟩,by show k' ≤ 1 + (16 - (i - 1)) * 300; omega⟩
 rcases q3 with ⟨e,hl⟩ | ⟨m,e,hm,hl⟩
 ·have wd:IntKind.i64.wrap (V'.last - V.last) = 0:=by rw [hl,w64 (by omega) (by omega)]; omega
  simp +decide -dsimp -implicitDefEqProofs [go_sem,e,wd,w1]
  refine QAG (S:=Nat × List AObj) (i - 1,G6) (nx _ rfl) (by show i - 1 < i; omega) (Wk.jk ?_)
  simp +decide -dsimp -implicitDefEqProofs [go_sem,jkT]
 ·have wd:IntKind.i64.wrap (V'.last - V.last) = 1:=by rw [hl,w64 (by omega) (by omega)]; omega
  have hne:=QB4 m
  simp +decide -dsimp -implicitDefEqProofs [go_sem,e,wd,hne]
  refine QRj b6 ?_
  have hm2:m.seq = V'.last:=by rw [hm,hl]
  simp +decide -dsimp -implicitDefEqProofs [go_sem,hm2,w1]
  refine QAG (S:=Nat × List AObj) (i - 1,G6) (nx _ rfl) (by show i - 1 < i; omega) (Wk.jk ?_)
  simp +decide -dsimp -implicitDefEqProofs [go_sem,jkT]
end Go.Ab
