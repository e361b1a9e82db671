/- Made arguments: some of some texts, paths. -/
import Derived.Test.YtpknaffdaemlbaaGreatDoorW1
import Derived.Test.YtpknaffdaemlbaaGreatDoorW2
import Derived.Test.YtpknaffdaemlbaaGreatDoorA5
set_option maxRecDepth 20000
namespace Go.Ab
open Go Go.Proofs
def QEf (t:List Int):Nat → List (List UInt8) → List (List UInt8)
 | _,[]=>[]
 | k,x :: r=>if fold (QAZ t k) 3 = 0 then x :: QEf t (k + 1) r else QEf t (k + 1) r
def QHa:List (List UInt8) → List (List (List UInt8))
 | []=>[[]]
 | x :: r=>(QHa r).map (x :: ·) ++ QHa r
theorem QDj (t:List Int):∀ (ss:List (List UInt8)) (k:Nat),QEf t k ss ∈ QHa ss
 | [],_=>by simp [QEf,QHa]
 | x :: r,k=>by
  unfold QEf QHa
  have:=QDj t r (k + 1)
  split
  ·exact List.mem_append_left _ (List.mem_map.2 ⟨_,this,rfl⟩)
  ·exact List.mem_append_right _ this
theorem QKP (t:List Int) (k:Nat) (ss:List (List UInt8)) (hk:k + ss.length < 1000000000):ACalls Tryz.prog 47 [.ptr 0 0,QDc ss] [QAK t k] (.imm ((QEf t k ss).map QAf)) [QAK t (k + ss.length)]:=by
 refine QAF c47_ok rfl ?_
 unfold c47 QDc
 simp +decide -dsimp -implicitDefEqProofs [go_sem]
 refine QAR (S:=Nat × List (List UInt8)) (fun s=>⟨tmps 23 [(0,.ptr 0 0),(5,.own 1 s.2.length),(8,.imm (ss.map QAf)),(9,.int .i64 ss.length),(10,.int .i64 s.1)],[QAK t (k + s.1),.reg 9 1 (s.2.map QAf)]⟩) (fun s=>ss.length - s.1)
  (fun s=>s.1 ≤ ss.length ∧ QEf t k ss = s.2 ++ QEf t (k + s.1) (ss.drop s.1) ∧ s.2.length ≤ s.1) (0,[]) ⟨by simp,by simp,by simp⟩ ((Wk.nilT 5 9 1 rfl (by simp)).trans (QAD (by simp) ?_)) ?_
 ·simp +decide -dsimp -implicitDefEqProofs [go_sem,QAK]
 rintro ⟨i,acc⟩ ⟨hi,ha,hl⟩
 simp only at hi ha hl
 by_cases h:i < ss.length
 ·have w:IntKind.i64.wrap ((i:Int) + 1) = i + 1:=w64 (by omega) (by omega)
  have hd:ss.drop i = ss[i] :: ss.drop (i + 1):=by rw [List.drop_eq_getElem_cons h]
  simp +decide -dsimp -implicitDefEqProofs [go_sem,h]
  refine QAB [0] (QBK t (k + i) 3 (by omega) (by omega)) rfl rfl (by simp) (by simp +decide -dsimp -implicitDefEqProofs [go_sem]) (by simp +decide -dsimp -implicitDefEqProofs [go_sem,QAC]) ?_
  have ek:k + i + 1 = k + (i + 1):=by omega
  by_cases h0:fold (QAZ t (k + i)) 3 = 0
  ·simp +decide -dsimp -implicitDefEqProofs [go_sem,h0,QAC,maxLen,w]
   refine ⟨⟨by omega,by omega⟩,?_⟩
   have e3:acc.map QAf ++ [[AV.str ss[i]]] = (acc ++ [ss[i]]).map QAf:=by simp [QAf]
   rw [e3,ek]
   refine QAI (i + 1,acc ++ [ss[i]]) ⟨by show i + 1 ≤ _; omega,?_,by simp; omega⟩ (by show _ - (i + 1) < _ - i; omega) (QAD (by simp) ?_)
   ·rw [ha,hd,QEf,if_pos h0,ek]; simp
   simp +decide -dsimp -implicitDefEqProofs [go_sem,QAK,QAf,QAS,QAM]
  ·simp +decide -dsimp -implicitDefEqProofs [go_sem,h0,QAC,w]
   rw [ek]
   refine QAI (i + 1,acc) ⟨by show i + 1 ≤ _; omega,?_,by show acc.length ≤ i + 1; omega⟩ (by show _ - (i + 1) < _ - i; omega) (QAD (by simp) ?_)
   ·rw [ha,hd,QEf,if_neg h0,ek]
   simp +decide -dsimp -implicitDefEqProofs [go_sem,QAK]
 ·have e:i = ss.length:=by omega
  subst e
  have e2:QEf t k ss = acc:=by rw [ha,List.drop_length]; simp [QEf]
  rw [e2]
  simp +decide -dsimp -implicitDefEqProofs [go_sem,QAK]

/-! ### Paths -/
def compS:List (List UInt8):=[[97],[98],[115,100],[112,49],[97,95,98],[120,33,121],[65,45,49]]
def QDK:List (List UInt8) → List UInt8
 | []=>[]
 | x :: r=>47 :: (x ++ QDK r)
theorem QG1:∀ x ∈ compS,QAi x = true ∧ 47 ∉ x ∧ x.length ≤ 3:=by decide +kernel
theorem QHb:∀ (l:List (List UInt8)),(∀ x ∈ l,47 ∉ x) → l ≠ [] → ∀ s,QDK l = 47 :: s → QBY 47 s = l
 | [],_,h,_,_=>absurd rfl h
 | [x],hl,_,s,hs=>by
  simp [QDK] at hs
  rw [← hs]
  exact QFA (hl x (by simp))
 | x :: y :: r,hl,_,s,hs=>by
  simp only [QDK,List.cons.injEq,true_and] at hs
  have ih:=QHb (y :: r) (fun z hz=>hl z (by simp [hz])) (by simp) _ rfl
  rw [← hs,QEq (hl x (by simp))]
  rw [ih]
theorem QGI {l:List (List UInt8)} (hl:∀ x ∈ l,x ∈ compS) (h0:l ≠ []) (h7:l.length ≤ 7):QAd (QDK l) = true:=by
 obtain ⟨x,r,rfl⟩:=List.exists_cons_of_ne_nil h0
 have hs:QDK (x :: r) = 47 :: (x ++ QDK r):=rfl
 have h1:=QHb (x :: r) (fun y hy=>(QG1 y (hl y hy)).2.1) (by simp) _ hs
 unfold QAd QCf
 rw [hs]
 have e:QB9 (x ++ QDK r) 47 = x :: r:=by rw [QCq,h1]
 have e2:((x :: r).all QAi) = true:=List.all_eq_true.2 fun y hy=>(QG1 y (hl y hy)).1
 simp only [e,e2,and_self,if_true]
 simpa using h7
theorem QM2 (l:List (List UInt8)) (x:List UInt8):QDK (l ++ [x]) = QDK l ++ 47 :: x:=by
 induction l with
 | nil=>simp [QDK]
 | cons y l ih=>simp [QDK,ih]
theorem QOI {l:List (List UInt8)} (hl:∀ x ∈ l,x ∈ compS):(QDK l).length ≤ 4 * l.length:=by
 induction l with
 | nil=>simp [QDK]
 | cons y l ih=>
  have:=ih fun x hx=>hl x (by simp [hx])
  have h2:=(QG1 y (hl y (by simp))).2.2
  simp only [QDK,List.length_cons,List.length_append]; omega

def QUb (t:List Int) (k:Nat) (av:AV) (H:List AObj):Prop:=∃ p k',av = .str p ∧ H = [QAK t k'] ∧ QAd p = true ∧ k' ≤ k + 10
theorem QI8 (t:List Int) (k:Nat) (hk:k < 900000000):ACallsR Tryz.prog 15 [.ptr 0 0] [QAK t k] (QUb t k):=by
 refine QC0 (QUb t k) 0 c15_ok ?_
 unfold c15
 have hb:=QAy (QAZ t k) 3 (by omega)
 obtain ⟨n,hn⟩:∃ n:Nat,fold (QAZ t k) 3 = n:=⟨_,(Int.toNat_of_nonneg hb.1).symm⟩
 have w0:IntKind.i64.wrap (1 + (n:Int)) = ((n + 1:Nat):Int):=by rw [w64 (by omega) (by omega)]; omega
 simp +decide -dsimp -implicitDefEqProofs [go_sem]
 refine QAB [0] (QBK t k 3 (by omega) (by omega)) rfl rfl (by simp) (by simp +decide -dsimp -implicitDefEqProofs [go_sem]) (by simp +decide -dsimp -implicitDefEqProofs [go_sem,QAC]) ?_
 rw [hn]
 simp +decide -dsimp -implicitDefEqProofs [go_sem,QAC,w0]
 have hcS:[[AV.str [97]],[.str [98]],[.str [115,100]],[.str [112,49]],[.str [97,95,98]],[.str [120,33,121]],[.str [65,45,49]]] = compS.map QAf:=rfl
 refine QAR (S:=Nat × List (List UInt8)) (fun s=>⟨tmps 19 [(0,.ptr 0 0),(3,.str (QDK s.2)),(4,.int .i64 ((n + 1 - s.1:Nat):Int))],[QAK t (k + 1 + s.1)]⟩) (fun s=>n + 1 - s.1)
  (fun s=>s.1 ≤ n + 1 ∧ s.2.length = s.1 ∧ ∀ x ∈ s.2,x ∈ compS) (0,[]) (by simp) (QAD (by simp) ?_) ?_
 ·simp +decide -dsimp -implicitDefEqProofs [go_sem,QAK,QDK]
 rintro ⟨i,l⟩ ⟨hi,hl,hm⟩
 simp only at hi hl hm
 have hjl:=QOI hm
 by_cases h:i < n + 1
 ·have h':0 < n + 1 - i:=by omega
  have w:IntKind.i64.wrap (((n + 1 - i:Nat):Int) - 1) = ((n + 1 - (i + 1):Nat):Int):=by rw [w64 (by omega) (by omega)]; omega
  have hone:=QEN t (k + 1 + i) compS (by omega) (by decide) (by decide)
  have hmem:=QBW (ss:=compS) (QAZ t (k + 1 + i)) (by decide)
  have hlen:=(QG1 _ hmem).2.2
  generalize QGq compS (QAZ t (k + 1 + i)) = x at hone hmem hlen
  unfold QDc at hone
  simp +decide -dsimp -implicitDefEqProofs [go_sem,h']
  rw [hcS]
  refine QAB [0] hone rfl rfl (by simp) (by simp +decide -dsimp -implicitDefEqProofs [go_sem]) (by simp +decide -dsimp -implicitDefEqProofs [go_sem,QAC]) ?_
  simp +decide -dsimp -implicitDefEqProofs [go_sem,QAC,w]
  refine ⟨by omega,by omega,?_⟩
  have ek:k + 1 + i + 1 = k + 1 + (i + 1):=by omega
  rw [ek,← QM2]
  refine QAI (i + 1,l ++ [x]) ⟨by show i + 1 ≤ _; omega,by simp [hl],fun y hy=>?_⟩ (by show _ - (i + 1) < _ - i; omega) (QAD (by simp) ?_)
  ·rcases List.mem_append.1 hy with hy | hy
   ·exact hm y hy
   ·rw [List.mem_singleton.1 hy]; exact hmem
  simp +decide -dsimp -implicitDefEqProofs [go_sem,QAK]
 ·have e:i = n + 1:=by omega
  subst e
  have h':¬ (0:Int) < ((n + 1 - (n + 1):Nat):Int):=by omega
  have e0:((n + 1 - (n + 1):Nat):Int) = 0:=by omega
  simp +decide -dsimp -implicitDefEqProofs [go_sem]
  refine QAT (.str (QDK l)) [QAK t (k + 1 + (n + 1))] ⟨_,_,rfl,rfl,QGI hm (by intro e; rw [e] at hl; simp at hl) (by omega),by omega⟩ rfl ?_
  simp +decide -dsimp -implicitDefEqProofs [go_sem,QAK]
end Go.Ab
namespace Go.Ab
open Go Go.Proofs
def keysS:List (List UInt8):=[[65],[68,69,86,78,65,77,69],[68,82,73,86,69,82],[73,68,95,83,69,65,84],[75,95,49],[83,84,79,82,65,71,69,95,73,71,78,79,82,69]]
def QM3:List (List UInt8):=[[49],[],[115,101,97,116,49],[120,61,121],[97,32,98],[46],[115,101,97,116,48]]
def QPs:List (List UInt8):=[[98,108,111,99,107],[110,101,116],[117,115,98],[116,116,121]]
def tagsS:List (List UInt8):=[[109,97,115,116,101,114,45,111,102,45,115,101,97,116],[115,101,97,116],[115,121,115,116,101,109,100],[117,97,99,99,101,115,115]]
def linksS:List (List UInt8):=[[98,121,45,105,100,47,97],[98,121,45,105,100,47,98],[100,105,115,107],[122,47,122,47,122]]
def runsS:List (List UInt8):=[[114,117,110,32,98],[114,117,110,32,97],[114,117,110,32,97]]
def loadsS:List (List UInt8):=[[112,99,105,58,49],[117,115,98,58,42],[120]]
def QOJ:List (List UInt8):=[[108,97,110,48],[101,116,104,49]]
def QWM:List (List UInt8):=[[114,111,111,116],[97,110,110]]
def QWN:List (List UInt8):=[[114,111,111,116],[100,105,115,107]]
def QTW:List UInt8:=[83,85,66,83,89,83,84,69,77]
theorem QSL:∀ l ∈ QHa keysS,(∀ x ∈ l,QEu x = true) ∧ QGE (l ++ [QTW]) = true ∧ l.length ≤ 6:=by decide +kernel
theorem QSM:QEu QTW = true:=by decide +kernel
theorem QSN:∀ x ∈ QM3,QCv x = true ∧ x.length ≤ 10:=by decide +kernel
theorem QSO:∀ x ∈ QPs,QCv x = true ∧ x.length ≤ 10:=by decide +kernel
theorem QSP:∀ l ∈ QHa tagsS,QF1 l QAi 16 = true:=by decide +kernel
theorem QOK:∀ l ∈ QHa linksS,QGE l = true ∧ l.length ≤ 16 ∧ ∀ x ∈ l,x ∈ linksS:=by decide +kernel
theorem QPt:∀ x ∈ linksS,(decide (x.length ≤ 256) && (QBY 47 x).all QFj) = true:=by decide +kernel
theorem QPu {l:List (List UInt8)} (h:l ∈ QHa linksS):QF1 l QCw 16 = true:=by
 obtain ⟨h1,h2,h3⟩:=QOK l h
 have h4:l.all QCw = true:=List.all_eq_true.2 fun x hx=>by
  unfold QCw; rw [QCq]; exact QPt x (h3 x hx)
 simp [QF1,h1,h2,h4]
theorem QSQ:∀ l ∈ QHa runsS,l.all QBl = true ∧ l.length ≤ 3:=by decide +kernel
theorem QPv:∀ l ∈ QHa loadsS,QF1 l QBl 16 = true:=by decide +kernel
theorem QPw:∀ x ∈ QOJ,QCb x = true:=by decide +kernel
theorem QUc:∀ x ∈ QWM,QAi x = true:=by decide +kernel
theorem QUd:∀ x ∈ QWN,QAi x = true:=by decide +kernel

def prS (t:List Int):Nat → List (List UInt8) → List (List UInt8 × List UInt8)
 | _,[]=>[]
 | k,x :: r=>(x,QGq QM3 (QAZ t k)) :: prS t (k + 1) r
theorem QOL (t:List Int):∀ (l:List (List UInt8)) (k:Nat),(prS t k l).length = l.length
 | [],_=>rfl
 | x :: r,k=>by simp [prS,QOL t r]
theorem QQ7 (t:List Int):∀ (l:List (List UInt8)) (k i:Nat) (h:i < l.length) (h2:i < (prS t k l).length),(prS t k l)[i] = (l[i],QGq QM3 (QAZ t (k + i)))
 | x :: r,k,0,_,_=>rfl
 | x :: r,k,i + 1,h,h2=>by
  have:=QQ7 t r (k + 1) i (by simpa using h) (by simpa [prS] using h2)
  simp only [prS,List.getElem_cons_succ,this]
  rw [show k + 1 + i = k + (i + 1) by omega]
theorem QLR (t:List Int):∀ (l:List (List UInt8)) (k:Nat),(prS t k l).map (·.1) = l
 | [],_=>rfl
 | x :: r,k=>by simp [prS,QLR t r]
theorem QOM (t:List Int):∀ (l:List (List UInt8)) (k:Nat),∀ p ∈ prS t k l,QCv p.2 = true
 | [],_,p,h=>by simp [prS] at h
 | x :: r,k,p,h=>by
  simp only [prS,List.mem_cons] at h
  rcases h with rfl | h
  ·exact (QSN _ (QBW _ (by decide))).1
  ·exact QOM t r (k + 1) p h

def recR (t:List Int) (k:Nat) (p:List UInt8) (n:Int) (av:AV) (H:List AObj):Prop:=∃ r k',av = .agg (QAU r) ∧ H = [QAK t k'] ∧ QAb r = true ∧ r.path = p ∧ r.index = n ∧ k' ≤ k + 100
set_option maxHeartbeats 4000000 in
theorem QHc (t:List Int) (k:Nat) (p:List UInt8) (n:Int) (hk:k < 800000000) (hp:QAd p = true) (hn:1 ≤ n ∧ n ≤ 1073741824):ACallsR Tryz.prog 17 [.ptr 0 0,.str p,.int .i64 n] [QAK t k] (recR t k p n):=by
 refine QKa (recR t k p n) 0 c17_ok ?_
 unfold c17
 -- what the tape gives
 have o1:=QEN t k QWM (by omega) (by decide) (by decide)
 have m1:=QBW (ss:=QWM) (QAZ t k) (by decide)
 generalize QGq QWM (QAZ t k) = ow at o1 m1
 have o2:=QEN t (k + 1) QWN (by omega) (by decide) (by decide)
 have m2:=QBW (ss:=QWN) (QAZ t (k + 1)) (by decide)
 generalize QGq QWN (QAZ t (k + 1)) = gr at o2 m2
 have o3:=QBK t (k + 1 + 1) 8 (by omega) (by omega)
 have b3:=QAy (QAZ t (k + 1 + 1)) 8 (by omega)
 generalize fold (QAZ t (k + 1 + 1)) 8 = a8 at o3 b3
 have o4:=QBK t (k + 1 + 1 + 1) 64 (by omega) (by omega)
 have b4:=QAy (QAZ t (k + 1 + 1 + 1)) 64 (by omega)
 generalize fold (QAZ t (k + 1 + 1 + 1)) 64 = a64 at o4 b4
 have w1:IntKind.i64.wrap (64 * a8) = 64 * a8:=w64 (by omega) (by omega)
 have w2:IntKind.i64.wrap (64 * a8 + a64) = 64 * a8 + a64:=w64 (by omega) (by omega)
 obtain ⟨k5,hk5⟩:∃ k5,k5 = k + 1 + 1 + 1 + 1:=⟨_,rfl⟩
 rw [← hk5] at o4
 have o5:=QKP t k5 keysS (by have:keysS.length = 6:=rfl; omega)
 have m5:=QDj t keysS k5
 generalize QEf t k5 keysS = ks at o5 m5
 obtain ⟨q1,q2,q3⟩:=QSL ks m5
 unfold QDc at o1 o2 o5
 refine QAL ⟨tmps 91 [(0,.ptr 0 0),(1,.str p),(2,.int .i64 n),(6,.ptr 1 0)],[QAK t k,.box 34 [.str [],.int .i64 0,.nils,.nils,.nils,.nils,.nils,.str [],.int .i64 0,.str [],.str [],.int .i64 0]]⟩ (QAJ ?_) (QAL ⟨tmps 91 [(0,.ptr 0 0),(1,.str p),(2,.int .i64 n),(6,.ptr 1 0),(7,.ptr 2 0)],[QAK t k5,.box 34 [.str [],.int .i64 0,.nils,.nils,.nils,.nils,.nils,.str [],.int .i64 0,.str [],.str [],.int .i64 0],.box 34 [.str p,.int .i64 n,.nils,.nils,.nils,.nils,.nils,.str [],.int .i64 0,.str ow,.str gr,.int .i64 (64 * a8 + a64)]]⟩ (QAJ ?_) ?_)
 ·simp +decide -dsimp -implicitDefEqProofs [go_sem]
  refine QAH (by simp) ?_
  simp +decide -dsimp -implicitDefEqProofs [go_sem,QAK]
 ·simp +decide -dsimp -implicitDefEqProofs [go_sem]
  refine QAB [0] o1 rfl rfl (by simp) rfl (by simp +decide -dsimp -implicitDefEqProofs [go_sem,QAC]) ?_
  simp +decide -dsimp -implicitDefEqProofs [go_sem,QAC]
  refine QAB [0] o2 rfl rfl (by simp) rfl (by simp +decide -dsimp -implicitDefEqProofs [go_sem,QAC]) ?_
  simp +decide -dsimp -implicitDefEqProofs [go_sem,QAC]
  refine QAB [0] o3 rfl rfl (by simp) rfl (by simp +decide -dsimp -implicitDefEqProofs [go_sem,QAC]) ?_
  simp +decide -dsimp -implicitDefEqProofs [go_sem,QAC,w1]
  refine QAB [0] o4 rfl rfl (by simp) rfl (by simp +decide -dsimp -implicitDefEqProofs [go_sem,QAC]) ?_
  simp +decide -dsimp -implicitDefEqProofs [go_sem,QAC,w2]
  refine QAH (by simp) ?_
  simp +decide -dsimp -implicitDefEqProofs [go_sem,QAK]
 obtain ⟨k6,hk6⟩:∃ k6,k6 = k5 + keysS.length:=⟨_,rfl⟩
 rw [← hk6] at o5
 have hk6':k6 = k5 + 6:=hk6
 obtain ⟨pr0,hpr0⟩:∃ q,q = prS t k6 ks:=⟨_,rfl⟩
 have hpl:pr0.length = ks.length:=by rw [hpr0,QOL]
 have o7:=QEN t (k6 + ks.length) QPs (by omega) (by decide) (by decide)
 have m7:=QBW (ss:=QPs) (QAZ t (k6 + ks.length)) (by decide)
 generalize QGq QPs (QAZ t (k6 + ks.length)) = sv at o7 m7
 obtain ⟨prs,hprs⟩:∃ q,q = pr0 ++ [(QTW,sv)]:=⟨_,rfl⟩
 obtain ⟨k8,hk8⟩:∃ k8,k8 = k6 + ks.length + 1:=⟨_,rfl⟩
 rw [← hk8] at o7
 have o8:=QKP t k8 tagsS (by have:tagsS.length = 4:=rfl; omega)
 have m8:=QDj t tagsS k8
 generalize QEf t k8 tagsS = tgs at o8 m8
 obtain ⟨k9,hk9⟩:∃ k9,k9 = k8 + tagsS.length:=⟨_,rfl⟩
 rw [← hk9] at o8
 have o9:=QKP t k9 linksS (by have:linksS.length = 4:=rfl; have:tagsS.length = 4:=rfl; omega)
 have m9:=QDj t linksS k9
 generalize QEf t k9 linksS = lns at o9 m9
 obtain ⟨k10,hk10⟩:∃ k10,k10 = k9 + linksS.length:=⟨_,rfl⟩
 rw [← hk10] at o9
 have o10:=QKP t k10 runsS (by have:runsS.length = 3:=rfl; have:linksS.length = 4:=rfl; have:tagsS.length = 4:=rfl; omega)
 have m10:=QDj t runsS k10
 generalize QEf t k10 runsS = rns at o10 m10
 obtain ⟨k11,hk11⟩:∃ k11,k11 = k10 + runsS.length:=⟨_,rfl⟩
 rw [← hk11] at o10
 have o11:=QKP t k11 loadsS (by have:loadsS.length = 3:=rfl; have:runsS.length = 3:=rfl; have:linksS.length = 4:=rfl; have:tagsS.length = 4:=rfl; omega)
 have m11:=QDj t loadsS k11
 generalize QEf t k11 loadsS = lds at o11 m11
 obtain ⟨k12,hk12⟩:∃ k12,k12 = k11 + loadsS.length:=⟨_,rfl⟩
 rw [← hk12] at o11
 have hkk:k12 ≤ k + 40:=by
  have:loadsS.length = 3:=rfl
  have:runsS.length = 3:=rfl
  have:linksS.length = 4:=rfl
  have:tagsS.length = 4:=rfl
  omega
 clear hk9 hk10 hk11 hk12
 unfold QDc at o7 o8 o9 o10 o11
 refine QAL ⟨tmps 91 [(0,.ptr 0 0),(6,.ptr 1 0),(7,.ptr 2 0)],[QAK t (k6 + ks.length),.box 34 [.str [],.int .i64 0,.nils,.nils,.nils,.nils,.nils,.str [],.int .i64 0,.str [],.str [],.int .i64 0],.box 34 [.str p,.int .i64 n,.own 3 pr0.length,.nils,.nils,.nils,.nils,.str [],.int .i64 0,.str ow,.str gr,.int .i64 (64 * a8 + a64)],.reg 93 2 (pr0.map QBF)]⟩ (QAJ ?_) ?_
 ·simp +decide -dsimp -implicitDefEqProofs [go_sem]
  refine QAB [0] o5 rfl rfl (by simp) rfl (by simp +decide -dsimp -implicitDefEqProofs [go_sem,QAC]) ?_
  simp +decide -dsimp -implicitDefEqProofs [go_sem,QAC]
  refine QAR (S:=Nat) (fun i=>⟨tmps 91 [(0,.ptr 0 0),(6,.ptr 1 0),(7,.ptr 2 0),(27,.imm (ks.map QAf)),(28,.int .i64 ks.length),(29,.int .i64 i)],[QAK t (k6 + i),.box 34 [.str [],.int .i64 0,.nils,.nils,.nils,.nils,.nils,.str [],.int .i64 0,.str [],.str [],.int .i64 0],.box 34 [.str p,.int .i64 n,.own 3 i,.nils,.nils,.nils,.nils,.str [],.int .i64 0,.str ow,.str gr,.int .i64 (64 * a8 + a64)],.reg 93 2 ((pr0.take i).map QBF)]⟩) (fun i=>ks.length - i)
   (fun i=>i ≤ ks.length) 0 (by simp) ((Wk.nilB 2 2 93 2 rfl rfl (by simp)).trans (QAD (by simp) ?_)) ?_
  ·simp +decide -dsimp -implicitDefEqProofs [go_sem,QAK]
  intro i hi
  by_cases h:i < ks.length
  ·have w:IntKind.i64.wrap ((i:Int) + 1) = i + 1:=w64 (by omega) (by omega)
   have hiw:i < pr0.length:=by omega
   have hmin:min i pr0.length = i:=by omega
   have oo:=QEN t (k6 + i) QM3 (by omega) (by decide) (by decide)
   have ea:pr0[i] = (ks[i],QGq QM3 (QAZ t (k6 + i))):=by subst hpr0; exact QQ7 t ks k6 i h _
   generalize QGq QM3 (QAZ t (k6 + i)) = vv at oo ea
   have eR:List.take i (List.map QBF pr0) ++ [[AV.str ks[i],AV.str vv]] = List.map QBF (pr0.take (i + 1)):=by
    rw [List.take_succ_eq_append_getElem hiw,List.map_append,ea,List.map_take]; rfl
   unfold QDc at oo
   simp +decide -dsimp -implicitDefEqProofs [go_sem,h]
   refine QBD [0] oo rfl rfl (by simp) rfl (by simp +decide -dsimp -implicitDefEqProofs [go_sem,QAC]) ?_
   simp +decide -dsimp -implicitDefEqProofs [go_sem,QAC,hmin,maxLen,w]
   refine ⟨⟨by omega,by omega⟩,?_⟩
   rw [eR,show k6 + i + 1 = k6 + (i + 1) by omega]
   refine QAI (i + 1) (by omega) (by omega) (QAD (by simp) ?_)
   simp +decide -dsimp -implicitDefEqProofs [go_sem,QAK,-List.map_take]
  ·have e:i = ks.length:=by omega
   subst e
   have e2:pr0.take ks.length = pr0:=by rw [← hpl,List.take_length]
   rw [e2]
   simp +decide -dsimp -implicitDefEqProofs [go_sem]
   refine QAH (by simp) ?_
   simp +decide -dsimp -implicitDefEqProofs [go_sem,QAK,hpl]
 refine QAL ⟨tmps 91 [(0,.ptr 0 0),(6,.ptr 1 0),(7,.ptr 2 0)],[QAK t k8,.box 34 [.str [],.int .i64 0,.nils,.nils,.nils,.nils,.nils,.str [],.int .i64 0,.str [],.str [],.int .i64 0],.box 34 [.str p,.int .i64 n,.imm (prs.map QBF),.nils,.nils,.nils,.nils,.str [],.int .i64 0,.str ow,.str gr,.int .i64 (64 * a8 + a64)]]⟩ (QAJ ?_) (QAL ⟨tmps 91 [(0,.ptr 0 0),(6,.ptr 1 0),(7,.ptr 2 0)],[QAK t k9,.box 34 [.str [],.int .i64 0,.nils,.nils,.nils,.nils,.nils,.str [],.int .i64 0,.str [],.str [],.int .i64 0],.box 34 [.str p,.int .i64 n,.imm (prs.map QBF),.imm (tgs.map QAf),.nils,.nils,.nils,.str [],.int .i64 0,.str ow,.str gr,.int .i64 (64 * a8 + a64)]]⟩ (QAJ ?_) (QAL ⟨tmps 91 [(0,.ptr 0 0),(6,.ptr 1 0),(7,.ptr 2 0)],[QAK t k10,.box 34 [.str [],.int .i64 0,.nils,.nils,.nils,.nils,.nils,.str [],.int .i64 0,.str [],.str [],.int .i64 0],.box 34 [.str p,.int .i64 n,.imm (prs.map QBF),.imm (tgs.map QAf),.imm (lns.map QAf),.nils,.nils,.str [],.int .i64 0,.str ow,.str gr,.int .i64 (64 * a8 + a64)]]⟩ (QAJ ?_) (QAL ⟨tmps 91 [(0,.ptr 0 0),(6,.ptr 1 0),(7,.ptr 2 0)],[QAK t k11,.box 34 [.str [],.int .i64 0,.nils,.nils,.nils,.nils,.nils,.str [],.int .i64 0,.str [],.str [],.int .i64 0],.box 34 [.str p,.int .i64 n,.imm (prs.map QBF),.imm (tgs.map QAf),.imm (lns.map QAf),.imm (rns.map QAf),.nils,.str [],.int .i64 0,.str ow,.str gr,.int .i64 (64 * a8 + a64)]]⟩ (QAJ ?_) (QAL ⟨tmps 91 [(0,.ptr 0 0),(6,.ptr 1 0),(7,.ptr 2 0)],[QAK t k12,.box 34 [.str [],.int .i64 0,.nils,.nils,.nils,.nils,.nils,.str [],.int .i64 0,.str [],.str [],.int .i64 0],.box 34 [.str p,.int .i64 n,.imm (prs.map QBF),.imm (tgs.map QAf),.imm (lns.map QAf),.imm (rns.map QAf),.imm (lds.map QAf),.str [],.int .i64 0,.str ow,.str gr,.int .i64 (64 * a8 + a64)]]⟩ (QAJ ?_) ?_))))
 ·have eR:List.map QBF pr0 ++ [[AV.str QTW,AV.str sv]] = prs.map QBF:=by rw [hprs]; simp [QBF]
  unfold QTW at eR
  simp +decide -dsimp -implicitDefEqProofs [go_sem]
  refine QBD [0] o7 rfl rfl (by simp) rfl (by simp +decide -dsimp -implicitDefEqProofs [go_sem,QAC]) ?_
  simp +decide -dsimp -implicitDefEqProofs [go_sem,QAC,maxLen]
  refine ⟨⟨by omega,by omega⟩,?_⟩
  rw [eR]
  refine QAH (by simp) ?_
  simp +decide -dsimp -implicitDefEqProofs [go_sem,QAK,hprs,QBF]
 ·simp +decide -dsimp -implicitDefEqProofs [go_sem]
  refine QAB [0] o8 rfl rfl (by simp) rfl (by simp +decide -dsimp -implicitDefEqProofs [go_sem,QAC]) ?_
  simp +decide -dsimp -implicitDefEqProofs [go_sem,QAC]
  refine QAH (by simp) ?_
  simp +decide -dsimp -implicitDefEqProofs [go_sem,QAK]
 ·simp +decide -dsimp -implicitDefEqProofs [go_sem]
  refine QAB [0] o9 rfl rfl (by simp) rfl (by simp +decide -dsimp -implicitDefEqProofs [go_sem,QAC]) ?_
  simp +decide -dsimp -implicitDefEqProofs [go_sem,QAC]
  refine QAH (by simp) ?_
  simp +decide -dsimp -implicitDefEqProofs [go_sem,QAK]
 ·simp +decide -dsimp -implicitDefEqProofs [go_sem]
  refine QAB [0] o10 rfl rfl (by simp) rfl (by simp +decide -dsimp -implicitDefEqProofs [go_sem,QAC]) ?_
  simp +decide -dsimp -implicitDefEqProofs [go_sem,QAC]
  refine QAH (by simp) ?_
  simp +decide -dsimp -implicitDefEqProofs [go_sem,QAK]
 ·simp +decide -dsimp -implicitDefEqProofs [go_sem]
  refine QAB [0] o11 rfl rfl (by simp) rfl (by simp +decide -dsimp -implicitDefEqProofs [go_sem,QAC]) ?_
  simp +decide -dsimp -implicitDefEqProofs [go_sem,QAC]
  refine QAH (by simp) ?_
  simp +decide -dsimp -implicitDefEqProofs [go_sem,QAK]
 -- a name, or none
 obtain ⟨nm,k13,hnm⟩:∃ nm k13,(fold (QAZ t k12) 4 = 0 ∧ nm = QGq QOJ (QAZ t (k12 + 1)) ∧ k13 = k12 + 1 + 1) ∨ (¬ fold (QAZ t k12) 4 = 0 ∧ nm = [] ∧ k13 = k12 + 1):=by
  by_cases h:fold (QAZ t k12) 4 = 0
  ·exact ⟨_,_,.inl ⟨h,rfl,rfl⟩⟩
  ·exact ⟨_,_,.inr ⟨h,rfl,rfl⟩⟩
 have gnm:nm = [] ∨ QCb nm = true:=by
  rcases hnm with ⟨_,rfl,_⟩ | ⟨_,rfl,_⟩
  ·exact .inr (QPw _ (QBW _ (by decide)))
  ·exact .inl rfl
 have hk13:k13 ≤ k12 + 2:=by rcases hnm with ⟨_,_,h⟩ | ⟨_,_,h⟩ <;> omega
 obtain ⟨pri,k14,hpri⟩:∃ pri k14,(fold (QAZ t k13) 3 = 0 ∧ pri = fold (QAZ t (k13 + 1)) 2001 - 1000 ∧ k14 = k13 + 1 + 1) ∨ (¬ fold (QAZ t k13) 3 = 0 ∧ pri = 0 ∧ k14 = k13 + 1):=by
  by_cases h:fold (QAZ t k13) 3 = 0
  ·exact ⟨_,_,.inl ⟨h,rfl,rfl⟩⟩
  ·exact ⟨_,_,.inr ⟨h,rfl,rfl⟩⟩
 have gpri:-1000 ≤ pri ∧ pri ≤ 1000:=by
  rcases hpri with ⟨_,rfl,_⟩ | ⟨_,rfl,_⟩
  ·have:=QAy (QAZ t (k13 + 1)) 2001 (by omega); omega
  ·omega
 have hk14:k14 ≤ k13 + 2:=by rcases hpri with ⟨_,_,h⟩ | ⟨_,_,h⟩ <;> omega
 refine QAL ⟨tmps 91 [(0,.ptr 0 0),(6,.ptr 1 0),(7,.ptr 2 0)],[QAK t k13,.box 34 [.str [],.int .i64 0,.nils,.nils,.nils,.nils,.nils,.str [],.int .i64 0,.str [],.str [],.int .i64 0],.box 34 [.str p,.int .i64 n,.imm (prs.map QBF),.imm (tgs.map QAf),.imm (lns.map QAf),.imm (rns.map QAf),.imm (lds.map QAf),.str nm,.int .i64 0,.str ow,.str gr,.int .i64 (64 * a8 + a64)]]⟩ (QAJ ?_) (QAL ⟨tmps 91 [(0,.ptr 0 0),(6,.ptr 1 0),(7,.ptr 2 0)],[QAK t k14,.box 34 [.str [],.int .i64 0,.nils,.nils,.nils,.nils,.nils,.str [],.int .i64 0,.str [],.str [],.int .i64 0],.box 34 [.str p,.int .i64 n,.imm (prs.map QBF),.imm (tgs.map QAf),.imm (lns.map QAf),.imm (rns.map QAf),.imm (lds.map QAf),.str nm,.int .i64 pri,.str ow,.str gr,.int .i64 (64 * a8 + a64)]]⟩ (QAJ ?_) (QAJ ?_))
 ·have n1:=QBK t k12 4 (by omega) (by omega)
  have b1:=QAy (QAZ t k12) 4 (by omega)
  rcases hnm with ⟨h1,rfl,rfl⟩ | ⟨h1,rfl,rfl⟩
  ·have n2:=QEN t (k12 + 1) QOJ (by omega) (by decide) (by decide)
   rw [h1] at n1
   unfold QDc at n2
   simp +decide -dsimp -implicitDefEqProofs [go_sem]
   refine QAB [0] n1 rfl rfl (by simp) rfl (by simp +decide -dsimp -implicitDefEqProofs [go_sem,QAC]) ?_
   simp +decide -dsimp -implicitDefEqProofs [go_sem,QAC]
   refine QAB [0] n2 rfl rfl (by simp) rfl (by simp +decide -dsimp -implicitDefEqProofs [go_sem,QAC]) ?_
   simp +decide -dsimp -implicitDefEqProofs [go_sem,QAC]
   refine QAH (by simp) ?_
   simp +decide -dsimp -implicitDefEqProofs [go_sem,QAK]
  ·simp +decide -dsimp -implicitDefEqProofs [go_sem]
   refine QAB [0] n1 rfl rfl (by simp) rfl (by simp +decide -dsimp -implicitDefEqProofs [go_sem,QAC]) ?_
   simp +decide -dsimp -implicitDefEqProofs [go_sem,QAC,h1]
   refine QAH (by simp) ?_
   simp +decide -dsimp -implicitDefEqProofs [go_sem,QAK]
 ·have n1:=QBK t k13 3 (by omega) (by omega)
  rcases hpri with ⟨h1,rfl,rfl⟩ | ⟨h1,rfl,rfl⟩
  ·have n2:=QBK t (k13 + 1) 2001 (by omega) (by omega)
   have b2:=QAy (QAZ t (k13 + 1)) 2001 (by omega)
   have w:IntKind.i64.wrap (fold (QAZ t (k13 + 1)) 2001 - 1000) = fold (QAZ t (k13 + 1)) 2001 - 1000:=w64 (by omega) (by omega)
   rw [h1] at n1
   simp +decide -dsimp -implicitDefEqProofs [go_sem]
   refine QAB [0] n1 rfl rfl (by simp) rfl (by simp +decide -dsimp -implicitDefEqProofs [go_sem,QAC]) ?_
   simp +decide -dsimp -implicitDefEqProofs [go_sem,QAC]
   refine QAB [0] n2 rfl rfl (by simp) rfl (by simp +decide -dsimp -implicitDefEqProofs [go_sem,QAC]) ?_
   simp +decide -dsimp -implicitDefEqProofs [go_sem,QAC,w]
   refine QAH (by simp) ?_
   simp +decide -dsimp -implicitDefEqProofs [go_sem,QAK]
  ·simp +decide -dsimp -implicitDefEqProofs [go_sem]
   refine QAB [0] n1 rfl rfl (by simp) rfl (by simp +decide -dsimp -implicitDefEqProofs [go_sem,QAC]) ?_
   simp +decide -dsimp -implicitDefEqProofs [go_sem,QAC,h1]
   refine QAH (by simp) ?_
   simp +decide -dsimp -implicitDefEqProofs [go_sem,QAK]
 -- the end: all of it, or without an owner
 have gA:QEc prs 64 = true:=by
  have h1:prs.map (·.1) = ks ++ [QTW]:=by rw [hprs,List.map_append,hpr0,QLR]; rfl
  have h2:prs.all QDJ = true:=List.all_eq_true.2 fun x hx=>by
   rw [hprs] at hx
   rcases List.mem_append.1 hx with hx | hx
   ·have hx1:x.1 ∈ ks:=by
     have:=List.mem_map_of_mem (f:=(·.1)) hx
     rwa [hpr0,QLR] at this
    have hx2:=QOM t ks k6 x (hpr0 ▸ hx)
    simp [QDJ,q1 _ hx1,hx2]
   ·rw [List.mem_singleton.1 hx]
    simp [QDJ,QSM,(QSO _ m7).1]
  have h3:prs.length ≤ 64:=by rw [hprs]; simp; omega
  simp only [QEc,h1,h2,q2,h3,decide_true,Bool.and_self]
 have gT:=QSP _ m8
 have gL:=QPu m9
 have gR:=QSQ _ m10
 have gM:=QPv _ m11
 have gI:=QUc _ m1
 have gG:=QUd _ m2
 have gn:(decide (nm = []) || QCb nm) = true:=by rcases gnm with h | h <;> simp [h]
 have gLn:QF1 [] QCw 16 = true:=rfl
 have n1:=QBK t k14 4 (by omega) (by omega)
 by_cases h1:fold (QAZ t k14) 4 = 0
 ·rw [h1] at n1
  simp +decide -dsimp -implicitDefEqProofs [go_sem]
  refine QAB [0] n1 rfl rfl (by simp) rfl (by simp +decide -dsimp -implicitDefEqProofs [go_sem,QAC]) ?_
  simp +decide -dsimp -implicitDefEqProofs [go_sem,QAC]
  refine QAT (.agg (QAU ⟨p,n,prs,tgs,[],rns,lds,nm,pri,[],[],0⟩)) [QAK t (k14 + 1)] ⟨_,_,rfl,rfl,?_,rfl,rfl,by omega⟩ rfl ?_
  ·simp only [QAb,hp,hn,gA,gT,gLn,gR.1,gM,gn,gpri,and_self,decide_true,Bool.and_self,Bool.true_and,Bool.true_or]
   simp; omega
  simp +decide -dsimp -implicitDefEqProofs [go_sem,QAK,QAU]
 ·simp +decide -dsimp -implicitDefEqProofs [go_sem]
  refine QAB [0] n1 rfl rfl (by simp) rfl (by simp +decide -dsimp -implicitDefEqProofs [go_sem,QAC]) ?_
  simp +decide -dsimp -implicitDefEqProofs [go_sem,QAC,h1]
  refine QAT (.agg (QAU ⟨p,n,prs,tgs,lns,rns,lds,nm,pri,ow,gr,64 * a8 + a64⟩)) [QAK t (k14 + 1)] ⟨_,_,rfl,rfl,?_,rfl,rfl,by omega⟩ rfl ?_
  ·simp only [QAb,hp,hn,gA,gT,gL,gR.1,gM,gn,gpri,gI,gG,and_self,decide_true,Bool.and_self,Bool.true_and,Bool.or_true]
   have hm:0 ≤ 64 * a8 + a64 ∧ 64 * a8 + a64 ≤ 4095:=by omega
   simp [hm]; omega
  simp +decide -dsimp -implicitDefEqProofs [go_sem,QAK,QAU]
end Go.Ab
