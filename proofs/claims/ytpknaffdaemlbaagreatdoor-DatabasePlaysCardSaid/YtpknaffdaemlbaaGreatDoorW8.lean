/- The program: Decode. -/
import Derived.Test.YtpknaffdaemlbaaGreatDoorW7
import Derived.Test.YtpknaffdaemlbaaGreatDoorW4
namespace Go.Ab
open Go Go.Proofs
theorem QDC (b:UInt8) {s:List UInt8}:∀ {r:List UInt8},r <:+ s → (QB5 b r).2 <:+ s ∧ (QB5 b r).1.length + (QB5 b r).2.length ≤ r.length ∧ ∀ x ∈ (QB5 b r).1,x.length ≤ r.length:=by
 intro r
 generalize hn:r.length = n
 induction n using Nat.strongRecOn generalizing r with
 | _ n ih=>
  intro h
  subst hn
  cases hp:QDX b r with
  | none=>
   rw [QGG hp]
   exact ⟨h,by simp,by simp⟩
  | some p=>
   have h1:=QEI hp h
   obtain ⟨g1,g2,g3⟩:=ih p.2.length (by omega) rfl h1.1
   rw [QGF hp]
   refine ⟨g1,by simp; omega,fun x hx=>?_⟩
   rcases List.mem_cons.1 hx with rfl | hx
   ·omega
   ·have:=g3 x hx; omega
theorem QFf (b:UInt8) {r s:List UInt8} (h:r <:+ s):(QBL b r).1.length ≤ s.length:=by
 have:=QEH h
 unfold QBL; split
 ·rename_i p hp; have:=(QEI hp h).2; omega
 ·simp
theorem QKA (t:List UInt8):(QDG t).1.length ≤ t.length ∧ (QDG t).2.length ≤ t.length:=by
 unfold QDG
 split
 ·rename_i p hp
  obtain ⟨h1,_⟩:=QDh (a:=p.1) (b:=p.2) hp
  rw [h1]; simp; omega
 ·simp

set_option maxRecDepth 20000 in
set_option maxHeartbeats 2000000 in
theorem QPj (s:List UInt8) (hl:s.length < 50000000):ACalls Tryz.prog 84 [.str s] [] (QNI s) []:=by
 have hl':s.length < 4294967281:=by omega
 -- the reading
 obtain ⟨r1,hr1⟩:∃ x,x = (QBL 80 s).2:=⟨_,rfl⟩
 obtain ⟨vp,hvp⟩:∃ x,x = (QBL 80 s).1:=⟨_,rfl⟩
 have s1:r1 <:+ s:=hr1 ▸ QDZ (List.suffix_refl s)
 have cP:=QID s s 80 (List.suffix_refl s) hl'
 rw [← hr1,← hvp] at cP
 have cI:=QG7 s r1 73 10 (.inr rfl) s1 hl'
 obtain ⟨r2,hr2⟩:∃ x,x = (QBL 73 r1).2:=⟨_,rfl⟩
 have s2:r2 <:+ s:=hr2 ▸ QDZ s1
 have cE:=QJi s r2 69 s2 hl'
 have fE:=QDC 69 s2
 obtain ⟨vE,hvE⟩:∃ x,x = (QB5 69 r2).1:=⟨_,rfl⟩
 obtain ⟨r3,hr3⟩:∃ x,x = (QB5 69 r2).2:=⟨_,rfl⟩
 rw [← hvE,← hr3] at cE fE
 have s3:r3 <:+ s:=fE.1
 have cG:=QJi s r3 71 s3 hl'
 have fG:=QDC 71 s3
 obtain ⟨vG,hvG⟩:∃ x,x = (QB5 71 r3).1:=⟨_,rfl⟩
 obtain ⟨r4,hr4⟩:∃ x,x = (QB5 71 r3).2:=⟨_,rfl⟩
 rw [← hvG,← hr4] at cG fG
 have s4:r4 <:+ s:=fG.1
 have cL:=QJi s r4 76 s4 hl'
 have fL:=QDC 76 s4
 obtain ⟨vL,hvL⟩:∃ x,x = (QB5 76 r4).1:=⟨_,rfl⟩
 obtain ⟨r5,hr5⟩:∃ x,x = (QB5 76 r4).2:=⟨_,rfl⟩
 rw [← hvL,← hr5] at cL fL
 have s5:r5 <:+ s:=fL.1
 have cR:=QJi s r5 82 s5 hl'
 have fR:=QDC 82 s5
 obtain ⟨vR,hvR⟩:∃ x,x = (QB5 82 r5).1:=⟨_,rfl⟩
 obtain ⟨r6,hr6⟩:∃ x,x = (QB5 82 r5).2:=⟨_,rfl⟩
 rw [← hvR,← hr6] at cR fR
 have s6:r6 <:+ s:=fR.1
 have cM:=QJi s r6 77 s6 hl'
 have fM:=QDC 77 s6
 obtain ⟨vM,hvM⟩:∃ x,x = (QB5 77 r6).1:=⟨_,rfl⟩
 obtain ⟨r7,hr7⟩:∃ x,x = (QB5 77 r6).2:=⟨_,rfl⟩
 rw [← hvM,← hr7] at cM fM
 have s7:r7 <:+ s:=fM.1
 have cN:=QID s r7 78 s7 hl'
 have gN:=QFf 78 s7
 obtain ⟨vN,hvN⟩:∃ x,x = (QBL 78 r7).1:=⟨_,rfl⟩
 obtain ⟨r8,hr8⟩:∃ x,x = (QBL 78 r7).2:=⟨_,rfl⟩
 rw [← hvN,← hr8] at cN
 rw [← hvN] at gN
 have s8:r8 <:+ s:=hr8 ▸ QDZ s7
 have cO:=QID s r8 79 s8 hl'
 have gO:=QFf 79 s8
 obtain ⟨vO,hvO⟩:∃ x,x = (QBL 79 r8).1:=⟨_,rfl⟩
 obtain ⟨r9,hr9⟩:∃ x,x = (QBL 79 r8).2:=⟨_,rfl⟩
 rw [← hvO,← hr9] at cO
 rw [← hvO] at gO
 have s9:r9 <:+ s:=hr9 ▸ QDZ s8
 have cQ:=QID s r9 81 s9 hl'
 have gQ:=QFf 81 s9
 obtain ⟨vQ,hvQ⟩:∃ x,x = (QBL 81 r9).1:=⟨_,rfl⟩
 obtain ⟨r10,hr10⟩:∃ x,x = (QBL 81 r9).2:=⟨_,rfl⟩
 rw [← hvQ,← hr10] at cQ
 rw [← hvQ] at gQ
 have s10:r10 <:+ s:=hr10 ▸ QDZ s9
 have cY:=QG7 s r10 89 10 (.inr rfl) s10 hl'
 obtain ⟨r11,hr11⟩:∃ x,x = (QBL 89 r10).2:=⟨_,rfl⟩
 have s11:r11 <:+ s:=hr11 ▸ QDZ s10
 have cX:=QG7 s r11 88 8 (.inl rfl) s11 hl'
 obtain ⟨r12,hr12⟩:∃ x,x = (QBL 88 r11).2:=⟨_,rfl⟩
 have gP:=QFf 80 (List.suffix_refl s)
 rw [← hvp] at gP
 obtain ⟨wE,hwE⟩:∃ w,w = vE.map QDG:=⟨_,rfl⟩
 have hwl:wE.length = vE.length:=by rw [hwE,List.length_map]
 refine QBw c84_ok rfl ?_
 unfold c84
 refine QAL ⟨tmps 85 [(0,.str s),(2,.ptr 0 0),(3,.int .i64 0)],[.box 34 [.str [],.int .i64 0,.nils,.nils,.nils,.nils,.nils,.str [],.int .i64 0,.str [],.str [],.int .i64 0]]⟩ (QAJ ?_) (QAL ⟨tmps 85 [(0,.str s),(2,.ptr 0 0),(3,.int .i64 0),(4,.ptr 1 0)],[.box 34 [.str [],.int .i64 0,.nils,.nils,.nils,.nils,.nils,.str [],.int .i64 0,.str [],.str [],.int .i64 0],rdR s s]⟩ (QAJ ?_)
  (QAL ⟨tmps 85 [(0,.str s),(2,.ptr 0 0),(3,.int .i64 0),(4,.ptr 1 0),(5,.ptr 2 0)],[.box 34 [.str [],.int .i64 0,.nils,.nils,.nils,.nils,.nils,.str [],.int .i64 0,.str [],.str [],.int .i64 0],rdR s s,.box 34 [.str [],.int .i64 0,.nils,.nils,.nils,.nils,.nils,.str [],.int .i64 0,.str [],.str [],.int .i64 0]]⟩ (QAJ ?_) (QAL ⟨tmps 85 [(0,.str s),(2,.ptr 0 0),(3,.int .i64 0),(4,.ptr 1 0),(5,.ptr 2 0)],[.box 34 [.str [],.int .i64 0,.nils,.nils,.nils,.nils,.nils,.str [],.int .i64 0,.str [],.str [],.int .i64 0],rdR s r1,.box 34 [.str vp,.int .i64 0,.nils,.nils,.nils,.nils,.nils,.str [],.int .i64 0,.str [],.str [],.int .i64 0]]⟩ (QAJ ?_) (QCk (fun ni:Int=>⟨tmps 85 [(0,.str s),(2,.ptr 0 0),(3,.int .i64 0),(4,.ptr 1 0),(5,.ptr 2 0)],[.box 34 [.str [],.int .i64 0,.nils,.nils,.nils,.nils,.nils,.str [],.int .i64 0,.str [],.str [],.int .i64 0],rdR s r2,.box 34 [.str vp,.int .i64 ni,.nils,.nils,.nils,.nils,.nils,.str [],.int .i64 0,.str [],.str [],.int .i64 0]]⟩) (fun ni=>∀ m:Int,m.natAbs < 10 ^ 10 → (QBL 73 r1).1 = QBA 10 m → ni = m) (QAJ ?_) (fun ni ni1=>QAL ⟨tmps 85 [(0,.str s),(2,.ptr 0 0),(3,.int .i64 0),(4,.ptr 1 0),(5,.ptr 2 0)],[.box 34 [.str [],.int .i64 0,.nils,.nils,.nils,.nils,.nils,.str [],.int .i64 0,.str [],.str [],.int .i64 0],rdR s r3,.box 34 [.str vp,.int .i64 ni,.imm (wE.map QBF),.nils,.nils,.nils,.nils,.str [],.int .i64 0,.str [],.str [],.int .i64 0]]⟩ (QAJ ?_) (QAJ ?_))))))
 ·simp +decide -dsimp -implicitDefEqProofs [go_sem]
  refine QAH (by simp) ?_
  simp +decide -dsimp -implicitDefEqProofs [go_sem]
 ·simp +decide -dsimp -implicitDefEqProofs [go_sem]
  refine QAH (by simp) ?_
  simp +decide -dsimp -implicitDefEqProofs [go_sem,rdR,rdO]
 ·simp +decide -dsimp -implicitDefEqProofs [go_sem]
  refine QAH (by simp) ?_
  simp +decide -dsimp -implicitDefEqProofs [go_sem,rdR,rdO]
 ·simp +decide -dsimp -implicitDefEqProofs [go_sem]
  refine QAB [1] cP rfl rfl (by simp) (by simp +decide -dsimp -implicitDefEqProofs [go_sem]) (by simp +decide -dsimp -implicitDefEqProofs [go_sem,QBB]) ?_
  simp +decide -dsimp -implicitDefEqProofs [go_sem,QBB]
  refine QAH (by simp) ?_
  simp +decide -dsimp -implicitDefEqProofs [go_sem,rdR,rdO]
 ·simp +decide -dsimp -implicitDefEqProofs [go_sem]
  refine QAk [1] cI rfl (fun v G ⟨n,_,_,_,h⟩=>by subst h; rfl) (by simp) (by simp +decide -dsimp -implicitDefEqProofs [go_sem]) (by simp +decide -dsimp -implicitDefEqProofs [go_sem,QBB]) ?_
  rintro _ _ ⟨ni,rfl,ni1,_,rfl⟩
  rw [← hr2]
  simp +decide -dsimp -implicitDefEqProofs [go_sem,QBB]
  refine QBt ni ni1 (QAD (by simp) ?_)
  simp +decide -dsimp -implicitDefEqProofs [go_sem,rdR,rdO]
 ·-- the attributes
  have fE2:=fE.2.1
  have l2:=QEH s2
  simp +decide -dsimp -implicitDefEqProofs [go_sem]
  refine QAB [1] cE rfl rfl (by simp) (by simp +decide -dsimp -implicitDefEqProofs [go_sem]) (by simp +decide -dsimp -implicitDefEqProofs [go_sem,QBB]) ?_
  simp +decide -dsimp -implicitDefEqProofs [go_sem,QBB,QBg]
  refine QAR (S:=Nat) (fun i=>⟨tmps 85 [(0,.str s),(2,.ptr 0 0),(3,.int .i64 0),(4,.ptr 1 0),(5,.ptr 2 0),(23,.imm (vE.map QAf)),(24,.int .i64 vE.length),(25,.int .i64 i)],[.box 34 [.str [],.int .i64 0,.nils,.nils,.nils,.nils,.nils,.str [],.int .i64 0,.str [],.str [],.int .i64 0],rdR s r3,.box 34 [.str vp,.int .i64 ni,.own 3 i,.nils,.nils,.nils,.nils,.str [],.int .i64 0,.str [],.str [],.int .i64 0],.reg 93 2 ((wE.take i).map QBF)]⟩) (fun i=>vE.length - i)
   (fun i=>i ≤ vE.length) 0 (by simp) ((Wk.nilB 2 2 93 2 rfl rfl (by simp)).trans (QAD (by simp) ?_)) ?_
  ·simp +decide -dsimp -implicitDefEqProofs [go_sem,rdR,rdO]
  intro i hi
  by_cases h:i < vE.length
  ·have w:IntKind.i64.wrap ((i:Int) + 1) = i + 1:=w64 (by omega) (by omega)
   have hvl:=fE.2.2 _ (List.getElem_mem h)
   have hcut:=QRe vE[i] 61 (by omega)
   have hcl:QAM 0 (QNL 61 vE[i]) = true:=by unfold QNL; split <;> simp [go_sem]
   have eA:∃ b,QNL 61 vE[i] = .tup [.str (QDG vE[i]).1,.str (QDG vE[i]).2,.bool b]:=by
    cases hq:QKI 61 vE[i] <;> simp [QNL,QDG,hq]
   obtain ⟨b,eA⟩:=eA
   have hiw:i < wE.length:=by omega
   have ew:wE[i] = QDG vE[i]:=by simp [hwE]
   have hmin:min i wE.length = i:=by omega
   have eR:List.take i (List.map QBF wE) ++ [[AV.str (QDG vE[i]).1,AV.str (QDG vE[i]).2]] = List.map QBF (wE.take (i + 1)):=by
    rw [List.take_succ_eq_append_getElem hiw,List.map_append,ew,List.map_take]; rfl
   simp +decide -dsimp -implicitDefEqProofs [go_sem,h]
   refine QAA hcut rfl hcl ?_
   rw [eA]
   simp +decide -dsimp -implicitDefEqProofs [go_sem,hmin,maxLen,w,-List.map_take]
   refine ⟨⟨by omega,by omega⟩,?_⟩
   rw [eR]
   refine QAI (i + 1) (by omega) (by omega) (QAD (by simp) ?_)
   simp +decide -dsimp -implicitDefEqProofs [go_sem,rdR,rdO,-List.map_take]
  ·have e:i = vE.length:=by omega
   subst e
   have hmin:wE.take vE.length = wE:=by rw [← hwl,List.take_length]
   rw [hmin]
   simp +decide -dsimp -implicitDefEqProofs [go_sem]
   refine QAH (by simp) ?_
   simp +decide -dsimp -implicitDefEqProofs [go_sem,rdR,rdO,hwl]
 simp +decide -dsimp -implicitDefEqProofs [go_sem]
 refine QAB [1] cG rfl rfl (by simp) (by simp +decide -dsimp -implicitDefEqProofs [go_sem]) (by simp +decide -dsimp -implicitDefEqProofs [go_sem,QBB]) ?_
 simp +decide -dsimp -implicitDefEqProofs [go_sem,QBB]
 refine QAB [1] cL rfl rfl (by simp) (by simp +decide -dsimp -implicitDefEqProofs [go_sem]) (by simp +decide -dsimp -implicitDefEqProofs [go_sem,QBB]) ?_
 simp +decide -dsimp -implicitDefEqProofs [go_sem,QBB]
 refine QAB [1] cR rfl rfl (by simp) (by simp +decide -dsimp -implicitDefEqProofs [go_sem]) (by simp +decide -dsimp -implicitDefEqProofs [go_sem,QBB]) ?_
 simp +decide -dsimp -implicitDefEqProofs [go_sem,QBB]
 refine QAB [1] cM rfl rfl (by simp) (by simp +decide -dsimp -implicitDefEqProofs [go_sem]) (by simp +decide -dsimp -implicitDefEqProofs [go_sem,QBB]) ?_
 simp +decide -dsimp -implicitDefEqProofs [go_sem,QBB]
 refine QAB [1] cN rfl rfl (by simp) (by simp +decide -dsimp -implicitDefEqProofs [go_sem]) (by simp +decide -dsimp -implicitDefEqProofs [go_sem,QBB]) ?_
 simp +decide -dsimp -implicitDefEqProofs [go_sem,QBB]
 refine QAB [1] cO rfl rfl (by simp) (by simp +decide -dsimp -implicitDefEqProofs [go_sem]) (by simp +decide -dsimp -implicitDefEqProofs [go_sem,QBB]) ?_
 simp +decide -dsimp -implicitDefEqProofs [go_sem,QBB]
 refine QAB [1] cQ rfl rfl (by simp) (by simp +decide -dsimp -implicitDefEqProofs [go_sem]) (by simp +decide -dsimp -implicitDefEqProofs [go_sem,QBB]) ?_
 simp +decide -dsimp -implicitDefEqProofs [go_sem,QBB]
 refine QAk [1] cY rfl (fun v G ⟨n,_,_,_,h⟩=>by subst h; rfl) (by simp) (by simp +decide -dsimp -implicitDefEqProofs [go_sem]) (by simp +decide -dsimp -implicitDefEqProofs [go_sem,QBB]) ?_
 rintro _ _ ⟨ny,rfl,ny1,ny0,rfl⟩
 rw [← hr11]
 simp +decide -dsimp -implicitDefEqProofs [go_sem,QBB]
 refine QAk [1] cX rfl (fun v G ⟨n,_,_,_,h⟩=>by subst h; rfl) (by simp) (by simp +decide -dsimp -implicitDefEqProofs [go_sem]) (by simp +decide -dsimp -implicitDefEqProofs [go_sem,QBB]) ?_
 rintro _ _ ⟨nx,rfl,nx1,nx0,rfl⟩
 rw [← hr12]
 simp +decide -dsimp -implicitDefEqProofs [go_sem,QBB]
 obtain ⟨x,hx⟩:∃ x:Rcd,x = ⟨vp,ni,wE,vG,vL,vR,vM,vN,ny,vO,vQ,nx⟩:=⟨_,rfl⟩
 -- what was encoded is read
 have hback:∀ r,QAb r = true → QBJ r = s → x = r:=by
  intro r hS he
  have hn:=QFD hS
  have R:=QOE hn
  have Rp:=R.p
  rw [he] at Rp
  have e1:vp = r.path:=by rw [hvp,Rp]
  have e2:r1 = tl1 r:=by rw [hr1,Rp]
  subst e2
  have e3:r2 = tl2 r:=by rw [hr2,R.i]
  have e4:ni = r.index:=ni1 _ (by have:=hn.index; omega) (by rw [R.i])
  subst e3
  have e5:vE = r.props.map QCo:=by rw [hvE,R.e]
  have e6:r3 = tl3 r:=by rw [hr3,R.e]
  subst e6
  have e7:vG = r.tags:=by rw [hvG,R.g]
  have e8:r4 = tl4 r:=by rw [hr4,R.g]
  subst e8
  have e9:vL = r.links:=by rw [hvL,R.l]
  have e10:r5 = tl5 r:=by rw [hr5,R.l]
  subst e10
  have e11:vR = r.run:=by rw [hvR,R.rn]
  have e12:r6 = tl6 r:=by rw [hr6,R.rn]
  subst e12
  have e13:vM = r.load:=by rw [hvM,R.m]
  have e14:r7 = tl7 r:=by rw [hr7,R.m]
  subst e14
  have e15:vN = r.name:=by rw [hvN,R.n]
  have e16:r8 = tl8 r:=by rw [hr8,R.n]
  subst e16
  have e17:vO = r.owner:=by rw [hvO,R.o]
  have e18:r9 = tl9 r:=by rw [hr9,R.o]
  subst e18
  have e19:vQ = r.group:=by rw [hvQ,R.q]
  have e20:r10 = QPp r:=by rw [hr10,R.q]
  subst e20
  have e21:r11 = QPo r:=by rw [hr11,R.y]
  have e22:ny = r.prio:=by
   by_cases h0:r.prio = 0
   ·rw [h0]; exact ny0 (by rw [R.y,(QFm (by decide) (by decide)).2 h0])
   ·exact ny1 _ (by have:=hn.prio; omega) (by rw [R.y]; simp [QDE,h0])
  subst e21
  have e23:nx = r.mode:=by
   by_cases h0:r.mode = 0
   ·rw [h0]; exact nx0 (by rw [R.x,(QFm (by decide) (by decide)).2 h0])
   ·exact nx1 _ (by have:=hn.mode; rw [QPk]; omega) (by rw [R.x]; simp [QDE,h0])
  rw [hx,hwE,e1,e4,e5,e7,e9,e11,e13,e15,e17,e19,e22,e23,QQ4 hn]
 have hfew:Few x:=by
  have l2:=QEH s2; have l3:=QEH s3; have l4:=QEH s4; have l5:=QEH s5; have l6:=QEH s6
  subst hx
  refine ⟨?_,?_,?_,?_,?_,?_,?_,?_,?_,?_⟩ <;> simp only
  ·omega
  ·have:=fG.2.1; omega
  ·have:=fE.2.1; omega
  ·intro p hp
   rw [hwE] at hp
   obtain ⟨t,ht,rfl⟩:=List.mem_map.1 hp
   have:=fE.2.2 t ht
   have:=(QKA t).2
   omega
  ·have:=fL.2.1; omega
  ·intro y hy; have:=fL.2.2 y hy; omega
  ·have:=fR.2.1; omega
  ·intro y hy; have:=fR.2.2 y hy; omega
  ·have:=fM.2.1; omega
  ·intro y hy; have:=fM.2.2 y hy; omega
 have cEnc:=QIs x hfew
 have hV:QNI s = if QAb x = true ∧ QBJ x = s then .tup [.agg (QAU x),.int .i64 0] else .tup [.agg (QAU QCR),.int .i64 251]:=by
  unfold QNI
  by_cases hd:QSJ s
  ·have hc:=hd.choose_spec
   have hxc:=hback _ hc.1 hc.2
   rw [dif_pos hd,if_pos ⟨hxc ▸ hc.1,hxc ▸ hc.2⟩,hxc]
  ·rw [dif_neg hd,if_neg fun h=>hd ⟨x,h⟩]
 have hrow:AV.agg [.str vp,.int .i64 ni,.imm (wE.map QBF),.imm (vG.map QAf),.imm (vL.map QAf),.imm (vR.map QAf),.imm (vM.map QAf),.str vN,.int .i64 ny,.str vO,.str vQ,.int .i64 nx] = .agg (QAU x):=by rw [hx]; rfl
 rw [← hrow] at cEnc
 refine QAA cEnc (by simp [go_sem]) rfl ?_
 rw [hV]
 by_cases hS:QAb x = true
 ·have e1:QKq x = QBJ x:=by simp [QKq,hS]
  have e2:QJe x = 0:=by simp [QJe,hS]
  rw [e1,e2]
  by_cases he:QBJ x = s
  ·rw [if_pos ⟨hS,he⟩,← hrow]
   simp +decide -dsimp -implicitDefEqProofs [go_sem,he]
  ·rw [if_neg fun h=>he h.2]
   simp +decide -dsimp -implicitDefEqProofs [go_sem,he,QAU,QCR]
 ·have e2:QJe x = 250:=by simp [QJe,hS]
  rw [e2,if_neg fun h=>hS h.1]
  simp +decide -dsimp -implicitDefEqProofs [go_sem,QAU,QCR]
end Go.Ab
namespace Go.Ab
open Go Go.Proofs
theorem QR9 {r:Rcd} (h:QAb r = true):QNI (QBJ r) = .tup [.agg (QAU r),.int .i64 0]:=by
 have hd:QSJ (QBJ r):=⟨r,h,rfl⟩
 have:=QD6 hd.choose_spec.1 h hd.choose_spec.2
 rw [QNI,dif_pos hd,this]
theorem nil0_few:Few QCR:=⟨by simp [QCR],by simp [QCR],by simp [QCR],by simp [QCR],by simp [QCR],by simp [QCR],by simp [QCR],by simp [QCR],by simp [QCR],by simp [QCR]⟩
theorem QSA {s:List UInt8} (h:¬ QSJ s):QNI s = .tup [.agg (QAU QCR),.int .i64 251]:=by rw [QNI,dif_neg h]
theorem QKB (s:List UInt8):(∃ x,QAb x = true ∧ QBJ x = s ∧ QNI s = .tup [.agg (QAU x),.int .i64 0]) ∨ (¬ QSJ s ∧ QNI s = .tup [.agg (QAU QCR),.int .i64 251]):=by
 by_cases hd:QSJ s
 ·obtain ⟨x,hx,rfl⟩:=hd
  exact .inl ⟨x,hx,rfl,QR9 hx⟩
 ·exact .inr ⟨hd,QSA hd⟩
end Go.Ab
