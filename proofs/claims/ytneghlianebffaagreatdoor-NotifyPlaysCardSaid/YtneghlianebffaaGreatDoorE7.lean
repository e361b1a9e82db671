/- What any calls of a new bus return, and what is ready after each. -/
import Derived.Test.YtneghlianebffaaGreatDoorTQ
namespace Go.Ab
open Go Go.Proofs
set_option maxRecDepth 20000
def plyS (raw:Txt) (nf:Nat) (s:Nat × List AObj):St:=⟨tmps 55 [(1,.str raw),(5,.ptr 0 0),(6,.ptr 3 0),(7,.ptr nf 0),(8,.int .i64 s.1)],s.2⟩
def plyI (l:List Int) (nf:Nat) (s:Nat × List AObj):Prop:=s.1 ≤ 24 ∧ ∃ k W x y,LS l k W (24 - s.1) nf (.box 52 [x,y,.int .i64 W.last]) s.2 ∧ nzL [x,y,.int .i64 W.last] = QBA W ∧ k ≤ 1 + (24 - s.1) * 300
set_option maxHeartbeats 4000000 in
theorem QKM (l:List Int) (raw:Txt):ACalls Tryz.prog 7 [.imm (l.map fun v=>[.int .i64 v]),.str raw] [] (.bool true) []:=by
 have hcT:∀ k,QAb k (l.map fun v=>[AV.int .i64 v]) = true:=fun k=>QAn fun x _=>rfl
 refine QA2 cqq rfl ?_
 refine gS ?_
 refine QBU ?_
 by_cases hr:300 < raw.length
 ·have hr':(300:Int) < (raw.length:Int):=by omega
  simp +decide -dsimp -implicitDefEqProofs [go_sem,hr']
  refine QAA QF6 rfl rfl ?_
  simp +decide -dsimp -implicitDefEqProofs [go_sem]
 have hr':¬ (300:Int) < (raw.length:Int):=by omega
 simp +decide -dsimp -implicitDefEqProofs [go_sem,hr']
 refine gS ?_
 refine gS ?_
 refine QAS (QIG [QAO l 0] (fun i=>i < 1) (fun i hi=>hi)) ?_
 rintro _ G0 ⟨rfl,h0⟩
 refine gs ?_
 have s0:=LS.start h0 (.box 52 [.nils,.nils,.int .i64 0])
 generalize G0.length = nf at s0 ⊢
 generalize G0 ++ [AObj.box 52 [.nils,.nils,.int .i64 0]] = G1 at s0 ⊢
 refine gS ?_
 refine gS ?_
 refine QAS (QB2 s0.tp (by omega) 24 (by decide)) ?_
 rintro _ _ ⟨x0,rfl,hx0,rfl⟩
 have s1:=s0.tape 1
 generalize G1.set 0 (QAO l (0 + 1)) = G2 at s1 ⊢
 obtain ⟨i0,rfl⟩:∃ i:Nat,x0 = i:=⟨_,(Int.toNat_of_nonneg hx0.1).symm⟩
 refine gs ?_
 refine QAQ (S:=Nat × List AObj) (plyS raw nf) (fun s=>s.1) (plyI l nf) (i0,G2) ⟨by show i0 ≤ 24; omega,1,⟨[],[],0⟩,.nils,.nils,s1.bump (Nat.zero_le _),rfl,by omega⟩ (Wk.jk ?_) ?_
 ·simp +decide -dsimp -implicitDefEqProofs [go_sem,jkT]
 rintro ⟨i,G⟩ ⟨hi,k,W,x,y,hL,hnz,hk⟩
 simp only at hi hL hk
 unfold plyS
 by_cases hi0:0 < i
 rotate_left
 ·have hi1:¬ (0:Int) < (i:Int):=by omega
  simp +decide -dsimp -implicitDefEqProofs [go_sem,hi0]
  refine QAD ?_
  refine gs ?_
  refine QAA QF6 rfl rfl ?_
  simp +decide -dsimp -implicitDefEqProofs [go_sem]
 have hi1:(0:Int) < (i:Int):=by omega
 have r0:=hL.rf
 simp +decide -dsimp -implicitDefEqProofs [go_sem,hi0,r0]
 refine QAS (hL.call (by omega) (by omega) raw (by omega) hnz) ?_
 rintro _ G3 ⟨W',k',rfl,hk',hL3⟩
 have r3:=(hL3.new [.box 52 (QBA W')]).rf
 have lt3:=(List.getElem?_eq_some_iff.1 hL3.rf).1
 have hL4:=(hL3.new [.box 52 (QBA W')]).upd (.box 52 (QBA W'))
 have ne3:G3.length ≠ nf:=by omega
 unfold QBA at r3 hL4 ⊢
 simp +decide -dsimp -implicitDefEqProofs [go_sem,r3]
 have lt4:nf < G3.length + 1:=by omega
 rw [if_pos lt4]
 generalize (G3 ++ [AObj.box 52 [.imm (W'.ready.map QAR),.imm (W'.subs.map QAv),.int .i64 W'.last]]).set nf (.box 52 [.imm (W'.ready.map QAR),.imm (W'.subs.map QAv),.int .i64 W'.last]) = G4 at hL4 ⊢
 obtain ⟨B4,b4⟩:=hL4.bx
 have hOk:=hL4.ok
 have r4:=hL4.rf
 have hrl:=hOk.rl
 have w1:IntKind.i64.wrap ((i:Int) - 1) = ((i - 1:Nat):Int):=by rw [w64 (by omega) (by omega)]; omega
 refine QRj b4 ?_
 simp +decide -dsimp -implicitDefEqProofs [go_sem,r4]
 refine allD b4 (by omega) ?_
 simp +decide -dsimp -implicitDefEqProofs [go_sem,r4]
 refine QAK (QJQ W'.ready (fun r hr=>QTJ (hOk.rs r hr)) (by omega)) (by simp [QAB,QAE,QAM]) rfl ?_
 simp +decide -dsimp -implicitDefEqProofs [go_sem,w1]
 refine ⟨by simp +decide [QBB,QCz],?_⟩
 refine QAG (S:=Nat × List AObj) (i - 1,G4) ⟨by show i - 1 ≤ 24; omega,k',W',_,_,hL4.bump (by show 24 - i + 1 ≤ 24 - (i - 1); omega),by simp [QBA,nzL,nz,QCp,QCA],by show k' ≤ 1 + (24 - (i - 1)) * 300; omega⟩ (by show i - 1 < i; omega) (Wk.jk ?_)
 simp +decide -dsimp -implicitDefEqProofs [go_sem,jkT]
end Go.Ab
