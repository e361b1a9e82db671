/- The two buses show the same to every subscriber. -/
import Derived.Test.YtneghlianebffaaGreatDoorTP
import Derived.Test.YtneghlianebffaaGreatDoorAP
namespace Go.Ab
open Go Go.Proofs
set_option maxRecDepth 20000
theorem QP1 (W:RBus) (nm:Txt):(W.viewR nm).1.length ≤ W.ready.length:=by
 unfold RBus.viewR
 split
 ·simp
 ·rw [List.length_map]; exact List.length_filter_le _ _
def vwsS (nf:Nat) (i:Nat) (G:List AObj):St:=⟨tmps 68 [(3,.ptr 0 0),(4,.ptr 3 0),(5,.ptr nf 0),(6,.imm (viewTs.map QAT)),(7,.int .i64 i)],G⟩
def vwsI (l:List Int) (nf:Nat) (s:Nat × List AObj):Prop:=s.1 ≤ 20 ∧ ∃ k W x y,LS l k W (20 - s.1) nf (.box 52 [x,y,.int .i64 W.last]) s.2 ∧ nzL [x,y,.int .i64 W.last] = QBA W ∧ k ≤ 1 + (20 - s.1) * 300
def QX1 (nf:Nat) (i:Nat) (s:Nat × List AObj):St:=⟨tmps 68 [(3,.ptr 0 0),(4,.ptr 3 0),(5,.ptr nf 0),(6,.imm (viewTs.map QAT)),(7,.int .i64 i),(8,.int .i64 s.1)],s.2⟩
def QaE (l:List Int) (nf k:Nat) (W:RBus) (n:Nat) (s:Nat × List AObj):Prop:=s.1 ≤ 4 ∧ LS l k W n nf (.box 52 (QBA W)) s.2
set_option maxHeartbeats 4000000 in
theorem QKJ (l:List Int):ACalls Tryz.prog 10 [.imm (l.map fun v=>[.int .i64 v])] [] (.bool true) []:=by
 have hcT:∀ k,QAb k (l.map fun v=>[AV.int .i64 v]) = true:=fun k=>QAn fun x _=>rfl
 have hv:[[AV.str [115]],[.str [116]],[.str [117]],[.str [110,111,98,111,100,121]]] = viewTs.map QAT:=rfl
 refine QA2 cqq rfl ?_
 refine gS ?_
 refine gS ?_
 refine gS ?_
 refine QAS (QIG [QAO l 0] (fun i=>i < 1) (fun i hi=>hi)) ?_
 rintro _ G0 ⟨rfl,h0⟩
 refine gs ?_
 have s0:=LS.start h0 (.box 52 [.nils,.nils,.int .i64 0])
 generalize G0.length = nf at s0 ⊢
 generalize G0 ++ [AObj.box 52 [.nils,.nils,.int .i64 0]] = G1 at s0 ⊢
 refine gS ?_
 refine gS ?_
 rw [hv]
 refine gS ?_
 refine QAS (QB2 s0.tp (by omega) 20 (by decide)) ?_
 rintro _ _ ⟨x0,rfl,hx0,rfl⟩
 have s1:=s0.tape 1
 generalize G1.set 0 (QAO l (0 + 1)) = G2 at s1 ⊢
 obtain ⟨i0,rfl⟩:∃ i:Nat,x0 = i:=⟨_,(Int.toNat_of_nonneg hx0.1).symm⟩
 refine gs ?_
 refine QAQ (S:=Nat × List AObj) (fun s=>vwsS nf s.1 s.2) (fun s=>s.1) (vwsI l nf) (i0,G2) ⟨by show i0 ≤ 20; omega,1,⟨[],[],0⟩,.nils,.nils,s1.bump (Nat.zero_le _),rfl,by omega⟩ (Wk.jk ?_) ?_
 ·simp +decide -dsimp -implicitDefEqProofs [go_sem,jkT]
 rintro ⟨i,G⟩ ⟨hi,k,W,x,y,hL,hnz,hk⟩
 simp only at hi hL hk
 unfold vwsS
 by_cases hi0:0 < i
 rotate_left
 ·have hi1:¬ (0:Int) < (i:Int):=by omega
  simp +decide -dsimp -implicitDefEqProofs [go_sem,hi0]
  refine QAD ?_
  refine gs ?_
  refine QAA QF6 rfl rfl ?_
  simp +decide -dsimp -implicitDefEqProofs [go_sem]
 have hi1:(0:Int) < (i:Int):=by omega
 have r0:=hL.rf
 simp +decide -dsimp -implicitDefEqProofs [go_sem,hi0,r0]
 refine QAS (hL.call (by omega) (by omega) [118] (by decide) hnz) ?_
 rintro _ G3 ⟨W',k',rfl,hk',hL3⟩
 have r3:=hL3.rf
 have lt3:=(List.getElem?_eq_some_iff.1 r3).1
 have hL4:=hL3.upd (.box 52 (QBA W'))
 unfold QBA
 simp +decide -dsimp -implicitDefEqProofs [go_sem,r3]
 simp only [if_pos lt3]
 unfold QBA at hL4
 generalize G3.set nf (.box 52 [.imm (W'.ready.map QAR),.imm (W'.subs.map QAv),.int .i64 W'.last]) = G4 at hL4 ⊢
 refine QAQ (S:=Nat × List AObj) (fun s=>QX1 nf i s) (fun s=>4 - s.1) (QaE l nf k' W' (20 - i + 1)) (0,G4) ⟨Nat.zero_le _,hL4⟩ (Wk.jk ?_) ?_
 ·simp +decide -dsimp -implicitDefEqProofs [go_sem,jkT]
 rintro ⟨j,G5⟩ ⟨hj,hL5⟩
 simp only at hj hL5
 unfold QX1
 by_cases hj4:j < 4
 rotate_left
 ·have e:j = 4:=by omega
  subst e
  have w1:IntKind.i64.wrap ((i:Int) - 1) = ((i - 1:Nat):Int):=by rw [w64 (by omega) (by omega)]; omega
  simp +decide -dsimp -implicitDefEqProofs [go_sem,viewTs,w1]
  refine QAG (S:=Nat × List AObj) (i - 1,G5) ⟨by show i - 1 ≤ 20; omega,k',W',_,_,hL5.bump (by show 20 - i + 1 ≤ 20 - (i - 1); omega),by simp [QBA,nzL,nz,QCp,QCA],by show k' ≤ 1 + (20 - (i - 1)) * 300; omega⟩ (by show i - 1 < i; omega) (Wk.jk ?_)
  simp +decide -dsimp -implicitDefEqProofs [go_sem,jkT,viewTs]
 have w2:IntKind.i64.wrap ((j:Int) + 1) = j + 1:=w64 (by omega) (by omega)
 have hjl:j < viewTs.length:=hj4
 have hj4':(j:Int) < 4:=by omega
 obtain ⟨nm,hnm⟩:∃ nm,nm = viewTs[j]:=⟨_,rfl⟩
 have hs1:QAT viewTs[j] = [.str nm]:=by rw [hnm]; rfl
 obtain ⟨B5,b5⟩:=hL5.bx
 have hOk:=hL5.ok
 have cv:=QTj W' nm hOk (by omega)
 unfold QBA at cv
 have hl4:viewTs.length = 4:=rfl
 simp +decide -dsimp -implicitDefEqProofs [go_sem,hj4,hj4',hs1,hl4]
 refine QAS (QO6 b5 (by omega) nm) ?_
 rintro _ G6 ⟨rfl,hx6⟩
 have hL6:=hL5.bus hx6 hOk
 have r6:=hL6.rf
 unfold QBA at r6
 simp +decide -dsimp -implicitDefEqProofs [go_sem,r6,hj4,hs1,hl4]
 have hvl:=QP1 W' nm
 have hrl:=hOk.rl
 have cs:=QD0 (W'.viewR nm).1 (W'.viewR nm).1 (by omega) (by omega)
 rw [decide_eq_true rfl] at cs
 refine QAK cv (by simp [QAB,QAE,QAM,QA1]) (by simp [QAB,QAE,QAF]) ?_
 refine gs ?_
 refine ⟨by simp +decide [QBB,QCz],?_⟩
 refine QAA cs (by simp [QAB,QAE,QAF]) rfl ?_
 simp +decide -dsimp -implicitDefEqProofs [go_sem,w2]
 refine QAG (S:=Nat × List AObj) (j + 1,G6) ⟨hj4,hL6⟩ (by show 4 - (j + 1) < 4 - j; omega) (Wk.jk ?_)
 simp +decide -dsimp -implicitDefEqProofs [go_sem,jkT]
end Go.Ab
