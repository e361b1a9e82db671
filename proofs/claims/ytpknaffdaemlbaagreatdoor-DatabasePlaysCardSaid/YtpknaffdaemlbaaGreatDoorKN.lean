/- The example of the chapter. -/
import Derived.Test.YtpknaffdaemlbaaGreatDoorDB
import Derived.Test.YtpknaffdaemlbaaGreatDoorW9
import Derived.Test.YtpknaffdaemlbaaGreatDoorC22
namespace Go.Ab
open Go Go.Proofs
@[go_sem] theorem rg1 (a:Nat):List.range' a 1 = [a]:=rfl
@[go_sem] theorem rg2 (a:Nat):List.range' a 2 = [a,a + 1]:=rfl
@[go_sem] theorem rg4 (a:Nat):List.range' a 4 = [a,a + 1,a + 2,a + 3]:=rfl
/-! ### A nil slice where an empty one is wanted -/
mutual
def nle:AV → AV → Prop
 | .nils,.imm l=>l = []
 | .agg a,.agg b=>QQ5 a b
 | x,y=>x = y
def QQ5:List AV → List AV → Prop
 | [],[]=>True
 | x :: xs,y :: ys=>nle x y ∧ QQ5 xs ys
 | _,_=>False
end
mutual
theorem QSK {c:Cx}:∀ {x y:AV} {v:Value},nle x y → Val c x v → Val c y v:=fun {x y v} h hv=>by
 unfold nle at h
 split at h
 ·subst h
  simp only [Val] at hv ⊢
  exact .inr ⟨trivial,none,0,hv⟩
 ·simp only [Val] at hv ⊢
  obtain ⟨vs,h1,h2,h3⟩:=hv
  exact ⟨vs,h1,QHY h h2,h3⟩
 ·subst h; exact hv
theorem QHY {c:Cx}:∀ {xs ys:List AV} {vs:List Value},QQ5 xs ys → QAo c xs vs → QAo c ys vs
 | [],[],_,_,hv=>hv
 | x :: xs,y :: ys,vs,h,hv=>by
  simp only [QQ5] at h
  simp only [QAo] at hv ⊢
  obtain ⟨v,vs',h1,h2,h3⟩:=hv
  exact ⟨v,vs',h1,QSK h.1 h2,QHY h.2 h3⟩
 | [],_ :: _,_,h,_=>h.elim
 | _ :: _,[],_,h,_=>h.elim
end
theorem QHZ {P:Program} {f:Nat} {xs:List AV} (ys:List AV) {H:List AObj} {K:List AObj → AV → Prop} {u:QCB K} (h:QQ5 xs ys) (hc:QFE P f ys H K u):QFE P f xs H K u:=
 ⟨hc.1,fun c vs hH hr hv=>hc.2 c vs hH hr (QHY h hv)⟩

theorem QKO (dur seen:QAs) (pend:List Wr):ACalls Tryz.prog 32 [.ptr 0 0] (dbO dur seen pend) (.int .i64 pend.length) (dbO dur seen pend):=by
 have hcl:=QBI
 have hsc:∀ (m:QAs) (k:Nat) (a b:AV),(a,b) ∈ smK .str m → QAM k a = true ∧ QAM k b = true:=fun m k=>QBU (k:=k) fun _=>rfl
 refine QAF c32_ok rfl ?_
 unfold c32 dbO dbB mO
 simp +decide -dsimp -implicitDefEqProofs [go_sem,hcl]
 exact ⟨hsc _ _,hsc _ _⟩

def rX (p:List UInt8) (i:Int):Rcd:=⟨p,i,[],[],[],[],[],[],0,[],[],0⟩
theorem QI6 {p:List UInt8} {i:Int} (hp:QAd p = true) (hi:1 ≤ i ∧ i ≤ 1073741824):QAb (rX p i) = true:=by
 simp [QAb,rX,hp,hi,QEc,QF1,QGE]
theorem QLQ:QAd [47,97] = true:=QGI (l:=[[97]]) (by decide) (by simp) (by simp)
theorem QOH:QAd [47,98] = true:=QGI (l:=[[98]]) (by decide) (by simp) (by simp)
theorem QQ6 (x:Rcd):QBJ x ≠ []:=by intro h; simp [QBJ,QBT] at h
theorem QUa:¬ QAw [47,97] = QAw [47,98]:=fun h=>by have:=QDY h; revert this; decide
set_option maxRecDepth 20000 in
set_option maxHeartbeats 4000000 in
theorem QI7:ACalls Tryz.prog 22 [] [] (.bool true) []:=by
 have s1:=QI6 (i:=1) QLQ (by decide)
 have s2:=QI6 (i:=2) QLQ (by decide)
 have s3:=QI6 (i:=3) QOH (by decide)
 have h1:=QO4 [] [] [] _ s1 (by simp) (by simp [QGM])
 have n0:=QQ6
 have hab:=QUa
 have hl2:=QC7 s2
 have hu2:∀ y,QAb y = true → QBJ y = QBJ (rX [47,97] 2) → y = rX [47,97] 2:=fun y hy he=>QD6 hy s2 he
 have e1:(rX [47,97] 1).path = [47,97]:=rfl
 have e2:(rX [47,97] 2).path = [47,97]:=rfl
 have e3:(rX [47,98] 3).path = [47,98]:=rfl
 rw [e1] at h1
 have h4:=QRa [] (QC4 (QAw [47,97]) (QBJ (rX [47,97] 1)) []) ([] ++ [(QAw [47,97],some (QBJ (rX [47,97] 1)))])
 obtain ⟨m1,hm1⟩:∃ m,m = QC4 (QAw [47,97]) (QBJ (rX [47,97] 1)) ([]:QAs):=⟨_,rfl⟩
 rw [← hm1] at h1 h4
 have h2:=QO4 m1 m1 [] _ s2 (by simp) (by rw [hm1]; simp [QC4,QGM])
 rw [e2] at h2
 obtain ⟨m2,hm2⟩:∃ m,m = QC4 (QAw [47,97]) (QBJ (rX [47,97] 2)) m1:=⟨_,rfl⟩
 rw [← hm2] at h2
 have h3:=QO4 m1 m2 ([] ++ [(QAw [47,97],some (QBJ (rX [47,97] 2)))]) _ s3 (by simp) (by rw [hm2,hm1]; simp [QC4,QGM])
 rw [e3] at h3
 obtain ⟨m3,hm3⟩:∃ m,m = QC4 (QAw [47,98]) (QBJ (rX [47,98] 3)) m2:=⟨_,rfl⟩
 rw [← hm3] at h3
 obtain ⟨w1,hw1⟩:∃ w:Wr,w = (QAw [47,97],some (QBJ (rX [47,97] 1))):=⟨_,rfl⟩
 obtain ⟨w2,hw2⟩:∃ w:Wr,w = (QAw [47,97],some (QBJ (rX [47,97] 2))):=⟨_,rfl⟩
 obtain ⟨w3,hw3⟩:∃ w:Wr,w = (QAw [47,98],some (QBJ (rX [47,98] 3))):=⟨_,rfl⟩
 rw [← hw1] at h1 h4
 rw [← hw2] at h2 h3
 rw [← hw3] at h3
 have h5:=QKO m1 m3 ([] ++ [w2] ++ [w3])
 have h6:=QO5 m1 m3 ([] ++ [w2] ++ [w3]) 1 (by simp)
 have ek:QDr 1 ([] ++ [w2] ++ [w3]).length = 1:=by simp [QDr]
 have ef:QA8 m1 (([] ++ [w2] ++ [w3]).take 1) = m2:=by rw [hm2,hw2]; rfl
 rw [ek,ef] at h6
 have ga:QAv (QAw [47,97]) m2 = some (QBJ (rX [47,97] 2)):=by rw [hm2,QBQ,if_pos rfl]
 have gb:QAv (QAw [47,98]) m2 = none:=by rw [hm2,QBQ,if_neg hab,hm1,QBQ,if_neg hab]; rfl
 obtain ⟨ra,ba,hra,h7⟩:=QQh m2 m2 [] [47,97] QLQ (by simp) (by rw [ga]; simp only [Option.getD_some]; omega)
 obtain ⟨rb,bb,hrb,h8⟩:=QQh m2 m2 [] [47,98] QOH (by simp) (by rw [gb]; simp)
 have era:ra = rX [47,97] 2 ∧ ba = true:=by
  rcases hra with ⟨x,hx,hxe,_,rfl,rfl⟩ | ⟨hno,_⟩
  ·rw [ga] at hxe; exact ⟨hu2 _ hx hxe,rfl⟩
  ·exact (hno _ s2 (by rw [ga]; rfl) rfl).elim
 have erb:rb = QCR ∧ bb = false:=by
  rcases hrb with ⟨x,_,hxe,_⟩ | ⟨_,h,h'⟩
  ·rw [gb] at hxe; exact (n0 x hxe).elim
  ·exact ⟨h,h'⟩
 obtain ⟨rfl,rfl⟩:=era
 obtain ⟨rfl,rfl⟩:=erb
 clear hm1 hm2 hm3 hra hrb
 have row1:∀ p i,QAU (rX p i) = [.str p,.int .i64 i,.imm [],.imm [],.imm [],.imm [],.imm [],.str [],.int .i64 0,.str [],.str [],.int .i64 0]:=fun p i=>by simp [QAU,rX]
 simp only [dbO,dbB,mO,List.nil_append,List.cons_append,QGn] at h1 h2 h3 h4 h5 h6 h7 h8
 rw [row1] at h1 h2 h3 h7
 rw [QEE] at h8
 have hsr:=QAp
 have hwr:=QAr
 have hw1r:∀ (w:Wr) (is:List Nat),QA4 is [QCG w] = [QCG w]:=fun w is=>QAr is [w]
 have hwL:∀ (w:Wr) (is:List Nat),QDB is (QCG w) = QCG w:=fun w is=>by simp [QCG,QDB,QLi]
 have hwc:∀ (w:Wr) (r:List (List AV)) (is:List Nat),QA4 is (QCG w :: r) = QCG w :: QA4 is r:=fun w r is=>by rw [QA4,hwL]
 have hwn:∀ (is:List Nat),QA4 is [] = []:=fun _=>rfl
 refine QAF c22_ok rfl ?_
 unfold c22
 simp +decide -dsimp -implicitDefEqProofs [go_sem]
 refine QBG [] 4 QTE rfl (fun v G h=>by rw [h.2]; rfl) (by simp +decide) rfl (by simp) ?_
 rintro _ _ ⟨rfl,rfl⟩
 simp +decide -dsimp -implicitDefEqProofs [go_sem,dbO,dbB,mO,hsr,hwn]
 refine QHZ [.ptr 0 0,.agg [.str [47,97],.int .i64 1,.imm [],.imm [],.imm [],.imm [],.imm [],.str [],.int .i64 0,.str [],.str [],.int .i64 0]] (by simp [QQ5,nle]) (QAB [0,1,2,3] h1 rfl rfl (by simp) (by simp +decide -dsimp -implicitDefEqProofs [go_sem]) (by simp +decide -dsimp -implicitDefEqProofs [go_sem,hsr,hwn]) ?_)
 simp +decide -dsimp -implicitDefEqProofs [go_sem,hsr,hwc,hwn]
 refine QBG [0,1,2,3] 2 h4 rfl (fun v G h=>by rw [h.2]; rfl) (by simp +decide) (by simp +decide -dsimp -implicitDefEqProofs [go_sem]) (by simp +decide -dsimp -implicitDefEqProofs [go_sem,hsr,hwc,hwn]) ?_
 rintro _ _ ⟨rfl,rfl⟩
 simp +decide -dsimp -implicitDefEqProofs [go_sem,hsr,hwc,hwn]
 refine QHZ [.ptr 0 0,.agg [.str [47,97],.int .i64 2,.imm [],.imm [],.imm [],.imm [],.imm [],.str [],.int .i64 0,.str [],.str [],.int .i64 0]] (by simp [QQ5,nle]) (QAB [0,4,2,5] h2 rfl rfl (by simp) (by simp +decide -dsimp -implicitDefEqProofs [go_sem]) (by simp +decide -dsimp -implicitDefEqProofs [go_sem,hsr,hwn]) ?_)
 simp +decide -dsimp -implicitDefEqProofs [go_sem,hsr,hwc,hwn]
 refine QHZ [.ptr 0 0,.agg [.str [47,98],.int .i64 3,.imm [],.imm [],.imm [],.imm [],.imm [],.str [],.int .i64 0,.str [],.str [],.int .i64 0]] (by simp [QQ5,nle]) (QAB [0,4,2,5] h3 rfl rfl (by simp) (by simp +decide -dsimp -implicitDefEqProofs [go_sem]) (by simp +decide -dsimp -implicitDefEqProofs [go_sem,hsr,hwc,hwn]) ?_)
 simp +decide -dsimp -implicitDefEqProofs [go_sem,hsr,hwc,hwn]
 refine QAB [0,4,2,5] h5 rfl rfl (by simp) (by simp +decide -dsimp -implicitDefEqProofs [go_sem]) (by simp +decide -dsimp -implicitDefEqProofs [go_sem,hsr,hwc,hwn]) ?_
 simp +decide -dsimp -implicitDefEqProofs [go_sem,hsr,hwc,hwn]
 refine QBG [0,4,2,5] 2 h6 rfl (fun v G h=>by rw [h.2]; rfl) (by simp +decide) (by simp +decide -dsimp -implicitDefEqProofs [go_sem]) (by simp +decide -dsimp -implicitDefEqProofs [go_sem,hsr,hwc,hwn]) ?_
 rintro _ _ ⟨rfl,rfl⟩
 simp +decide -dsimp -implicitDefEqProofs [go_sem,hsr,hwc,hwn]
 refine QAB [0,4,6,7] h7 rfl rfl (by simp) (by simp +decide -dsimp -implicitDefEqProofs [go_sem]) (by simp +decide -dsimp -implicitDefEqProofs [go_sem,hsr,hwn]) ?_
 simp +decide -dsimp -implicitDefEqProofs [go_sem,hsr,hwn]
 refine QAB [0,4,6,7] h8 rfl rfl (by simp) (by simp +decide -dsimp -implicitDefEqProofs [go_sem]) (by simp +decide -dsimp -implicitDefEqProofs [go_sem,hsr,hwn]) ?_
 simp +decide -dsimp -implicitDefEqProofs [go_sem,hsr,hwn]
end Go.Ab
