/- Made arguments: some of some texts, paths. -/
import Derived.Test.YtneghlianebffaaGreatDoorOX
import Derived.Test.YtneghlianebffaaGreatDoorW1
import Derived.Test.YtneghlianebffaaGreatDoorW2
import Derived.Test.YtneghlianebffaaGreatDoorA5
import Derived.Test.YtneghlianebffaaGreatDoorC1
set_option maxRecDepth 20000
set_option maxHeartbeats 8000000
namespace Go.Ab
open Go Go.Proofs
def QE7 (t:List Int):Nat → List (List UInt8) → List (List UInt8)
 | _,[]=>[]
 | k,x :: r=>if QFg (QAx t k) 3 = 0 then x :: QE7 t (k + 1) r else QE7 t (k + 1) r
def QIb:List (List UInt8) → List (List (List UInt8))
 | []=>[[]]
 | x :: r=>(QIb r).map (x :: ·) ++ QIb r
theorem QEO (t:List Int):∀ (ss:List (List UInt8)) (k:Nat),QE7 t k ss ∈ QIb ss
 | [],_=>by simp [QE7,QIb]
 | x :: r,k=>by
  unfold QE7 QIb
  have:=QEO t r (k + 1)
  split
  ·exact List.mem_append_left _ (List.mem_map.2 ⟨_,this,rfl⟩)
  ·exact List.mem_append_right _ this
theorem QLW (t:List Int) (k:Nat) (ss:List (List UInt8)) (hk:k + ss.length < 1000000000):ACalls Tryz.prog 58 [.ptr 0 0,QEP ss] [QAO t k] (.imm ((QE7 t k ss).map QAT)) [QAO t (k + ss.length)]:=by
 refine QAH cqq rfl ?_
 unfold QEP
 refine gs ?_
 refine QAQ (S:=Nat × List (List UInt8)) (fun s=>⟨tmps 23 [(0,.ptr 0 0),(5,.own 1 s.2.length),(8,.imm (ss.map QAT)),(9,.int .i64 ss.length),(10,.int .i64 s.1)],[QAO t (k + s.1),.reg 9 1 (s.2.map QAT)]⟩) (fun s=>ss.length - s.1)
  (fun s=>s.1 ≤ ss.length ∧ QE7 t k ss = s.2 ++ QE7 t (k + s.1) (ss.drop s.1) ∧ s.2.length ≤ s.1) (0,[]) ⟨by simp,by simp,by simp⟩ ((Wk.nilT 5 9 1 rfl (by simp)).trans (QAC (by simp) ?_)) ?_
 ·simp +decide -dsimp -implicitDefEqProofs [go_sem,QAO]
 rintro ⟨i,acc⟩ ⟨hi,ha,hl⟩
 simp only at hi ha hl
 by_cases h:i < ss.length
 ·have w:IntKind.i64.wrap ((i:Int) + 1) = i + 1:=w64 (by omega) (by omega)
  have hd:ss.drop i = ss[i] :: ss.drop (i + 1):=by rw [List.drop_eq_getElem_cons h]
  simp +decide -dsimp -implicitDefEqProofs [go_sem,h]
  refine QAL [0] (QDW t (k + i) 3 (by omega) (by omega)) rfl rfl (by simp) (by simp +decide -dsimp -implicitDefEqProofs [go_sem]) (by simp +decide -dsimp -implicitDefEqProofs [go_sem,QAI]) ?_
  have ek:k + i + 1 = k + (i + 1):=by omega
  by_cases h0:QFg (QAx t (k + i)) 3 = 0
  ·simp +decide -dsimp -implicitDefEqProofs [go_sem,h0,QAI,maxLen,w]
   refine ⟨⟨by omega,by omega⟩,?_⟩
   have e3:acc.map QAT ++ [[AV.str ss[i]]] = (acc ++ [ss[i]]).map QAT:=by simp [QAT]
   rw [e3,ek]
   refine QAG (i + 1,acc ++ [ss[i]]) ⟨by show i + 1 ≤ _; omega,?_,by simp; omega⟩ (by show _ - (i + 1) < _ - i; omega) (QAC (by simp) ?_)
   ·rw [ha,hd,QE7,if_pos h0,ek]; simp
   simp +decide -dsimp -implicitDefEqProofs [go_sem,QAO,QAT,QAB,QAE]
  ·simp +decide -dsimp -implicitDefEqProofs [go_sem,h0,QAI,w]
   rw [ek]
   refine QAG (i + 1,acc) ⟨by show i + 1 ≤ _; omega,?_,by show acc.length ≤ i + 1; omega⟩ (by show _ - (i + 1) < _ - i; omega) (QAC (by simp) ?_)
   ·rw [ha,hd,QE7,if_neg h0,ek]
   simp +decide -dsimp -implicitDefEqProofs [go_sem,QAO]
 ·have e:i = ss.length:=by omega
  subst e
  have e2:QE7 t k ss = acc:=by rw [ha,List.drop_length]; simp [QE7]
  rw [e2]
  simp +decide -dsimp -implicitDefEqProofs [go_sem,QAO]

/-! ### Paths -/
def compS:List (List UInt8):=[[97],[98],[115,100],[112,49],[97,95,98],[120,33,121],[65,45,49]]
theorem QHy:∀ x ∈ compS,QAe x = true ∧ 47 ∉ x ∧ x.length ≤ 3:=by decide +kernel
theorem QF2:∀ (l:List (List UInt8)),(∀ x ∈ l,47 ∉ x) → l ≠ [] → ∀ s,QBm l = 47 :: s → QCF 47 s = l
 | [],_,h,_,_=>absurd rfl h
 | [x],hl,_,s,hs=>by
  simp [QBm] at hs
  rw [← hs]
  exact QF4 (hl x (by simp))
 | x :: y :: r,hl,_,s,hs=>by
  simp only [QBm,List.cons.injEq,true_and] at hs
  have ih:=QF2 (y :: r) (fun z hz=>hl z (by simp [hz])) (by simp) _ rfl
  rw [← hs,QG9 (hl x (by simp))]
  rw [ih]
theorem QON {l:List (List UInt8)} (hl:∀ x ∈ l,x ∈ compS) (h0:l ≠ []) (h7:l.length ≤ 7):QAf (QBm l) = true:=by
 obtain ⟨x,r,rfl⟩:=List.exists_cons_of_ne_nil h0
 have hs:QBm (x :: r) = 47 :: (x ++ QBm r):=rfl
 have h1:=QF2 (x :: r) (fun y hy=>(QHy y (hl y hy)).2.1) (by simp) _ hs
 unfold QAf QCm
 rw [hs]
 have e:QCl (x ++ QBm r) 47 = x :: r:=by rw [QDt,h1]
 have e2:((x :: r).all QAe) = true:=List.all_eq_true.2 fun y hy=>(QHy y (hl y hy)).1
 simp only [e,e2,and_self,if_true]
 simpa using h7
theorem QJU (l:List (List UInt8)) (x:List UInt8):QBm (l ++ [x]) = QBm l ++ 47 :: x:=by
 induction l with
 | nil=>simp [QBm]
 | cons y l ih=>simp [QBm,ih]
theorem QP4 {l:List (List UInt8)} (hl:∀ x ∈ l,x ∈ compS):(QBm l).length ≤ 4 * l.length:=by
 induction l with
 | nil=>simp [QBm]
 | cons y l ih=>
  have:=ih fun x hx=>hl x (by simp [hx])
  have h2:=(QHy y (hl y (by simp))).2.2
  simp only [QBm,List.length_cons,List.length_append]; omega

def QYF (t:List Int) (k:Nat) (av:AV) (H:List AObj):Prop:=∃ p k',av = .str p ∧ H = [QAO t k'] ∧ QAf p = true ∧ k' ≤ k + 10
theorem QUt (t:List Int) (k:Nat) (hk:k < 900000000):ACallsR Tryz.prog 57 [.ptr 0 0] [QAO t k] (QYF t k):=by
 refine QKY (QYF t k) 0 cqq ?_
 have hb:=QCi (QAx t k) 3 (by omega)
 obtain ⟨n,hn⟩:∃ n:Nat,QFg (QAx t k) 3 = n:=⟨_,(Int.toNat_of_nonneg hb.1).symm⟩
 have w0:IntKind.i64.wrap (1 + (n:Int)) = ((n + 1:Nat):Int):=by rw [w64 (by omega) (by omega)]; omega
 refine gs ?_
 refine QAL [0] (QDW t k 3 (by omega) (by omega)) rfl rfl (by simp) (by simp +decide -dsimp -implicitDefEqProofs [go_sem]) (by simp +decide -dsimp -implicitDefEqProofs [go_sem,QAI]) ?_
 rw [hn]
 simp +decide -dsimp -implicitDefEqProofs [go_sem,QAI,w0]
 have hcS:[[AV.str [97]],[.str [98]],[.str [115,100]],[.str [112,49]],[.str [97,95,98]],[.str [120,33,121]],[.str [65,45,49]]] = compS.map QAT:=rfl
 refine QAQ (S:=Nat × List (List UInt8)) (fun s=>⟨tmps 19 [(0,.ptr 0 0),(3,.str (QBm s.2)),(4,.int .i64 ((n + 1 - s.1:Nat):Int))],[QAO t (k + 1 + s.1)]⟩) (fun s=>n + 1 - s.1)
  (fun s=>s.1 ≤ n + 1 ∧ s.2.length = s.1 ∧ ∀ x ∈ s.2,x ∈ compS) (0,[]) (by simp) (QAC (by simp) ?_) ?_
 ·simp +decide -dsimp -implicitDefEqProofs [go_sem,QAO,QBm]
 rintro ⟨i,l⟩ ⟨hi,hl,hm⟩
 simp only at hi hl hm
 have hjl:=QP4 hm
 by_cases h:i < n + 1
 ·have h':0 < n + 1 - i:=by omega
  have w:IntKind.i64.wrap (((n + 1 - i:Nat):Int) - 1) = ((n + 1 - (i + 1):Nat):Int):=by rw [w64 (by omega) (by omega)]; omega
  have hone:=QE8 t (k + 1 + i) compS (by omega) (by decide) (by decide)
  have hmem:=QBw (ss:=compS) (QAx t (k + 1 + i)) (by decide)
  have hlen:=(QHy _ hmem).2.2
  generalize QHq compS (QAx t (k + 1 + i)) = x at hone hmem hlen
  unfold QEP at hone
  simp +decide -dsimp -implicitDefEqProofs [go_sem,h']
  rw [hcS]
  refine QAL [0] hone rfl rfl (by simp) (by simp +decide -dsimp -implicitDefEqProofs [go_sem]) (by simp +decide -dsimp -implicitDefEqProofs [go_sem,QAI]) ?_
  simp +decide -dsimp -implicitDefEqProofs [go_sem,QAI,w]
  refine ⟨by omega,by omega,?_⟩
  have ek:k + 1 + i + 1 = k + 1 + (i + 1):=by omega
  rw [ek,← QJU]
  refine QAG (i + 1,l ++ [x]) ⟨by show i + 1 ≤ _; omega,by simp [hl],fun y hy=>?_⟩ (by show _ - (i + 1) < _ - i; omega) (QAC (by simp) ?_)
  ·rcases List.mem_append.1 hy with hy | hy
   ·exact hm y hy
   ·rw [List.mem_singleton.1 hy]; exact hmem
  simp +decide -dsimp -implicitDefEqProofs [go_sem,QAO]
 ·have e:i = n + 1:=by omega
  subst e
  have h':¬ (0:Int) < ((n + 1 - (n + 1):Nat):Int):=by omega
  have e0:((n + 1 - (n + 1):Nat):Int) = 0:=by omega
  refine gs ?_
  refine QBE (.str (QBm l)) [QAO t (k + 1 + (n + 1))] ⟨_,_,rfl,rfl,QON hm (by intro e; rw [e] at hl; simp at hl) (by omega),by omega⟩ rfl ?_
  simp +decide -dsimp -implicitDefEqProofs [go_sem,QAO]
end Go.Ab
namespace Go.Ab
open Go Go.Proofs
def keysS:List (List UInt8):=[[65],[68,69,86,78,65,77,69],[68,82,73,86,69,82],[73,68,95,83,69,65,84],[75,95,49],[83,84,79,82,65,71,69,95,73,71,78,79,82,69]]
def QOO:List (List UInt8):=[[49],[],[115,101,97,116,49],[120,61,121],[97,32,98],[46],[115,101,97,116,48]]
def QRt:List (List UInt8):=[[98,108,111,99,107],[110,101,116],[117,115,98],[116,116,121]]
def tagsS:List (List UInt8):=[[109,97,115,116,101,114,45,111,102,45,115,101,97,116],[115,101,97,116],[115,121,115,116,101,109,100],[117,97,99,99,101,115,115]]
def linksS:List (List UInt8):=[[98,121,45,105,100,47,97],[98,121,45,105,100,47,98],[100,105,115,107],[122,47,122,47,122]]
def runsS:List (List UInt8):=[[114,117,110,32,98],[114,117,110,32,97],[114,117,110,32,97]]
def loadsS:List (List UInt8):=[[112,99,105,58,49],[117,115,98,58,42],[120]]
def QP5:List (List UInt8):=[[108,97,110,48],[101,116,104,49]]
def QZV:List (List UInt8):=[[114,111,111,116],[97,110,110]]
def QZW:List (List UInt8):=[[114,111,111,116],[100,105,115,107]]
def QWZ:List UInt8:=[83,85,66,83,89,83,84,69,77]
theorem QUu:∀ l ∈ QIb keysS,(∀ x ∈ l,QG6 x = true) ∧ QHi (l ++ [QWZ]) = true ∧ l.length ≤ 6:=by decide +kernel
theorem QUv:QG6 QWZ = true:=by decide +kernel
theorem QUw:∀ x ∈ QOO,QCb x = true ∧ x.length ≤ 10:=by decide +kernel
theorem QUx:∀ x ∈ QRt,QCb x = true ∧ x.length ≤ 10:=by decide +kernel
theorem QUy:∀ l ∈ QIb tagsS,QHj l QAe 16 = true:=by decide +kernel
theorem QP6:∀ l ∈ QIb linksS,QHi l = true ∧ l.length ≤ 16 ∧ ∀ x ∈ l,x ∈ linksS:=by decide +kernel
theorem QRu:∀ x ∈ linksS,(decide (x.length ≤ 256) && (QCF 47 x).all QG8) = true:=by decide +kernel
theorem QRv {l:List (List UInt8)} (h:l ∈ QIb linksS):QHj l QDs 16 = true:=by
 obtain ⟨h1,h2,h3⟩:=QP6 l h
 have h4:l.all QDs = true:=List.all_eq_true.2 fun x hx=>by
  unfold QDs; rw [QDt]; exact QRu x (h3 x hx)
 simp [QHj,h1,h2,h4]
theorem QUz:∀ l ∈ QIb runsS,l.all QCO = true ∧ l.length ≤ 3:=by decide +kernel
theorem QRw:∀ l ∈ QIb loadsS,QHj l QCO 16 = true:=by decide +kernel
theorem QRx:∀ x ∈ QP5,QDY x = true:=by decide +kernel
theorem QYG:∀ x ∈ QZV,QAe x = true:=by decide +kernel
theorem QYH:∀ x ∈ QZW,QAe x = true:=by decide +kernel

def prS (t:List Int):Nat → List (List UInt8) → List (List UInt8 × List UInt8)
 | _,[]=>[]
 | k,x :: r=>(x,QHq QOO (QAx t k)) :: prS t (k + 1) r
theorem QP7 (t:List Int):∀ (l:List (List UInt8)) (k:Nat),(prS t k l).length = l.length
 | [],_=>rfl
 | x :: r,k=>by simp [prS,QP7 t r]
theorem QTR (t:List Int):∀ (l:List (List UInt8)) (k i:Nat) (h:i < l.length) (h2:i < (prS t k l).length),(prS t k l)[i] = (l[i],QHq QOO (QAx t (k + i)))
 | x :: r,k,0,_,_=>rfl
 | x :: r,k,i + 1,h,h2=>by
  have:=QTR t r (k + 1) i (by simpa using h) (by simpa [prS] using h2)
  simp only [prS,List.getElem_cons_succ,this]
  rw [show k + 1 + i = k + (i + 1) by omega]
theorem QMP (t:List Int):∀ (l:List (List UInt8)) (k:Nat),(prS t k l).map (·.1) = l
 | [],_=>rfl
 | x :: r,k=>by simp [prS,QMP t r]
theorem QP8 (t:List Int):∀ (l:List (List UInt8)) (k:Nat),∀ p ∈ prS t k l,QCb p.2 = true
 | [],_,p,h=>by simp [prS] at h
 | x :: r,k,p,h=>by
  simp only [prS,List.mem_cons] at h
  rcases h with rfl | h
  ·exact (QUw _ (QBw _ (by decide))).1
  ·exact QP8 t r (k + 1) p h

def recR (t:List Int) (k:Nat) (p:List UInt8) (n:Int) (av:AV) (H:List AObj):Prop:=∃ r k',av = .agg (QAR r) ∧ H = [QAO t k'] ∧ (∀ q,QAf q = true → QAk { r with path:=q } = true) ∧ r.path = p ∧ r.index = n ∧ k' ≤ k + 100
theorem QP9 (t:List Int) (k:Nat) (p:List UInt8) (n:Int) (hk:k < 800000000) (hn:1 ≤ n ∧ n ≤ 1073741824):ACallsR Tryz.prog 26 [.ptr 0 0,.str p,.int .i64 n] [QAO t k] (recR t k p n):=by
 refine QFE (recR t k p n) 0 cqq ?_
 -- what the tape gives
 have o1:=QE8 t k QZV (by omega) (by decide) (by decide)
 have m1:=QBw (ss:=QZV) (QAx t k) (by decide)
 generalize QHq QZV (QAx t k) = ow at o1 m1
 have o2:=QE8 t (k + 1) QZW (by omega) (by decide) (by decide)
 have m2:=QBw (ss:=QZW) (QAx t (k + 1)) (by decide)
 generalize QHq QZW (QAx t (k + 1)) = gr at o2 m2
 have o3:=QDW t (k + 1 + 1) 8 (by omega) (by omega)
 have b3:=QCi (QAx t (k + 1 + 1)) 8 (by omega)
 generalize QFg (QAx t (k + 1 + 1)) 8 = a8 at o3 b3
 have o4:=QDW t (k + 1 + 1 + 1) 64 (by omega) (by omega)
 have b4:=QCi (QAx t (k + 1 + 1 + 1)) 64 (by omega)
 generalize QFg (QAx t (k + 1 + 1 + 1)) 64 = a64 at o4 b4
 have w1:IntKind.i64.wrap (64 * a8) = 64 * a8:=w64 (by omega) (by omega)
 have w2:IntKind.i64.wrap (64 * a8 + a64) = 64 * a8 + a64:=w64 (by omega) (by omega)
 obtain ⟨k5,hk5⟩:∃ k5,k5 = k + 1 + 1 + 1 + 1:=⟨_,rfl⟩
 rw [← hk5] at o4
 have o5:=QLW t k5 keysS (by have:keysS.length = 6:=rfl; omega)
 have m5:=QEO t keysS k5
 generalize QE7 t k5 keysS = ks at o5 m5
 obtain ⟨q1,q2,q3⟩:=QUu ks m5
 unfold QEP at o1 o2 o5
 refine QAP ⟨tmps 91 [(0,.ptr 0 0),(1,.str p),(2,.int .i64 n),(6,.ptr 1 0)],[QAO t k,.box 36 [.str [],.int .i64 0,.nils,.nils,.nils,.nils,.nils,.str [],.int .i64 0,.str [],.str [],.int .i64 0]]⟩ (QAD ?_) (QAP ⟨tmps 91 [(0,.ptr 0 0),(1,.str p),(2,.int .i64 n),(6,.ptr 1 0),(7,.ptr 2 0)],[QAO t k5,.box 36 [.str [],.int .i64 0,.nils,.nils,.nils,.nils,.nils,.str [],.int .i64 0,.str [],.str [],.int .i64 0],.box 36 [.str p,.int .i64 n,.nils,.nils,.nils,.nils,.nils,.str [],.int .i64 0,.str ow,.str gr,.int .i64 (64 * a8 + a64)]]⟩ (QAD ?_) ?_)
 ·simp +decide -dsimp -implicitDefEqProofs [go_sem]
  refine QAN (by simp) ?_
  simp +decide -dsimp -implicitDefEqProofs [go_sem,QAO]
 ·simp +decide -dsimp -implicitDefEqProofs [go_sem]
  refine QAL [0] o1 rfl rfl (by simp) rfl (by simp +decide -dsimp -implicitDefEqProofs [go_sem,QAI]) ?_
  simp +decide -dsimp -implicitDefEqProofs [go_sem,QAI]
  refine QAL [0] o2 rfl rfl (by simp) rfl (by simp +decide -dsimp -implicitDefEqProofs [go_sem,QAI]) ?_
  simp +decide -dsimp -implicitDefEqProofs [go_sem,QAI]
  refine QAL [0] o3 rfl rfl (by simp) rfl (by simp +decide -dsimp -implicitDefEqProofs [go_sem,QAI]) ?_
  simp +decide -dsimp -implicitDefEqProofs [go_sem,QAI,w1]
  refine QAL [0] o4 rfl rfl (by simp) rfl (by simp +decide -dsimp -implicitDefEqProofs [go_sem,QAI]) ?_
  simp +decide -dsimp -implicitDefEqProofs [go_sem,QAI,w2]
  refine QAN (by simp) ?_
  simp +decide -dsimp -implicitDefEqProofs [go_sem,QAO]
 obtain ⟨k6,hk6⟩:∃ k6,k6 = k5 + keysS.length:=⟨_,rfl⟩
 rw [← hk6] at o5
 have hk6':k6 = k5 + 6:=hk6
 obtain ⟨pr0,hpr0⟩:∃ q,q = prS t k6 ks:=⟨_,rfl⟩
 have hpl:pr0.length = ks.length:=by rw [hpr0,QP7]
 have o7:=QE8 t (k6 + ks.length) QRt (by omega) (by decide) (by decide)
 have m7:=QBw (ss:=QRt) (QAx t (k6 + ks.length)) (by decide)
 generalize QHq QRt (QAx t (k6 + ks.length)) = sv at o7 m7
 obtain ⟨prs,hprs⟩:∃ q,q = pr0 ++ [(QWZ,sv)]:=⟨_,rfl⟩
 obtain ⟨k8,hk8⟩:∃ k8,k8 = k6 + ks.length + 1:=⟨_,rfl⟩
 rw [← hk8] at o7
 have o8:=QLW t k8 tagsS (by have:tagsS.length = 4:=rfl; omega)
 have m8:=QEO t tagsS k8
 generalize QE7 t k8 tagsS = tgs at o8 m8
 obtain ⟨k9,hk9⟩:∃ k9,k9 = k8 + tagsS.length:=⟨_,rfl⟩
 rw [← hk9] at o8
 have o9:=QLW t k9 linksS (by have:linksS.length = 4:=rfl; have:tagsS.length = 4:=rfl; omega)
 have m9:=QEO t linksS k9
 generalize QE7 t k9 linksS = lns at o9 m9
 obtain ⟨k10,hk10⟩:∃ k10,k10 = k9 + linksS.length:=⟨_,rfl⟩
 rw [← hk10] at o9
 have o10:=QLW t k10 runsS (by have:runsS.length = 3:=rfl; have:linksS.length = 4:=rfl; have:tagsS.length = 4:=rfl; omega)
 have m10:=QEO t runsS k10
 generalize QE7 t k10 runsS = rns at o10 m10
 obtain ⟨k11,hk11⟩:∃ k11,k11 = k10 + runsS.length:=⟨_,rfl⟩
 rw [← hk11] at o10
 have o11:=QLW t k11 loadsS (by have:loadsS.length = 3:=rfl; have:runsS.length = 3:=rfl; have:linksS.length = 4:=rfl; have:tagsS.length = 4:=rfl; omega)
 have m11:=QEO t loadsS k11
 generalize QE7 t k11 loadsS = lds at o11 m11
 obtain ⟨k12,hk12⟩:∃ k12,k12 = k11 + loadsS.length:=⟨_,rfl⟩
 rw [← hk12] at o11
 have hkk:k12 ≤ k + 40:=by
  have:loadsS.length = 3:=rfl
  have:runsS.length = 3:=rfl
  have:linksS.length = 4:=rfl
  have:tagsS.length = 4:=rfl
  omega
 clear hk9 hk10 hk11 hk12
 unfold QEP at o7 o8 o9 o10 o11
 refine QAP ⟨tmps 91 [(0,.ptr 0 0),(6,.ptr 1 0),(7,.ptr 2 0)],[QAO t (k6 + ks.length),.box 36 [.str [],.int .i64 0,.nils,.nils,.nils,.nils,.nils,.str [],.int .i64 0,.str [],.str [],.int .i64 0],.box 36 [.str p,.int .i64 n,.own 3 pr0.length,.nils,.nils,.nils,.nils,.str [],.int .i64 0,.str ow,.str gr,.int .i64 (64 * a8 + a64)],.reg 97 2 (pr0.map QBK)]⟩ (QAD ?_) ?_
 ·simp +decide -dsimp -implicitDefEqProofs [go_sem]
  refine QAL [0] o5 rfl rfl (by simp) rfl (by simp +decide -dsimp -implicitDefEqProofs [go_sem,QAI]) ?_
  simp +decide -dsimp -implicitDefEqProofs [go_sem,QAI]
  refine QAQ (S:=Nat) (fun i=>⟨tmps 91 [(0,.ptr 0 0),(6,.ptr 1 0),(7,.ptr 2 0),(27,.imm (ks.map QAT)),(28,.int .i64 ks.length),(29,.int .i64 i)],[QAO t (k6 + i),.box 36 [.str [],.int .i64 0,.nils,.nils,.nils,.nils,.nils,.str [],.int .i64 0,.str [],.str [],.int .i64 0],.box 36 [.str p,.int .i64 n,.own 3 i,.nils,.nils,.nils,.nils,.str [],.int .i64 0,.str ow,.str gr,.int .i64 (64 * a8 + a64)],.reg 97 2 ((pr0.take i).map QBK)]⟩) (fun i=>ks.length - i)
   (fun i=>i ≤ ks.length) 0 (by simp) ((Wk.nilB 2 2 97 2 rfl rfl (by simp)).trans (QAC (by simp) ?_)) ?_
  ·simp +decide -dsimp -implicitDefEqProofs [go_sem,QAO]
  intro i hi
  by_cases h:i < ks.length
  ·have w:IntKind.i64.wrap ((i:Int) + 1) = i + 1:=w64 (by omega) (by omega)
   have hiw:i < pr0.length:=by omega
   have hmin:min i pr0.length = i:=by omega
   have oo:=QE8 t (k6 + i) QOO (by omega) (by decide) (by decide)
   have ea:pr0[i] = (ks[i],QHq QOO (QAx t (k6 + i))):=by subst hpr0; exact QTR t ks k6 i h _
   generalize QHq QOO (QAx t (k6 + i)) = vv at oo ea
   have eR:List.take i (List.map QBK pr0) ++ [[AV.str ks[i],AV.str vv]] = List.map QBK (pr0.take (i + 1)):=by
    rw [List.take_succ_eq_append_getElem hiw,List.map_append,ea,List.map_take]; rfl
   unfold QEP at oo
   simp +decide -dsimp -implicitDefEqProofs [go_sem,h]
   refine QAu [0] oo rfl rfl (by simp) rfl (by simp +decide -dsimp -implicitDefEqProofs [go_sem,QAI]) ?_
   simp +decide -dsimp -implicitDefEqProofs [go_sem,QAI,hmin,maxLen,w]
   refine ⟨⟨by omega,by omega⟩,?_⟩
   rw [eR,show k6 + i + 1 = k6 + (i + 1) by omega]
   refine QAG (i + 1) (by omega) (by omega) (QAC (by simp) ?_)
   simp +decide -dsimp -implicitDefEqProofs [go_sem,QAO,-List.map_take]
  ·have e:i = ks.length:=by omega
   subst e
   have e2:pr0.take ks.length = pr0:=by rw [← hpl,List.take_length]
   rw [e2]
   refine gs ?_
   refine QAN (by simp) ?_
   simp +decide -dsimp -implicitDefEqProofs [go_sem,QAO,hpl]
 refine QAP ⟨tmps 91 [(0,.ptr 0 0),(6,.ptr 1 0),(7,.ptr 2 0)],[QAO t k8,.box 36 [.str [],.int .i64 0,.nils,.nils,.nils,.nils,.nils,.str [],.int .i64 0,.str [],.str [],.int .i64 0],.box 36 [.str p,.int .i64 n,.imm (prs.map QBK),.nils,.nils,.nils,.nils,.str [],.int .i64 0,.str ow,.str gr,.int .i64 (64 * a8 + a64)]]⟩ (QAD ?_) (QAP ⟨tmps 91 [(0,.ptr 0 0),(6,.ptr 1 0),(7,.ptr 2 0)],[QAO t k9,.box 36 [.str [],.int .i64 0,.nils,.nils,.nils,.nils,.nils,.str [],.int .i64 0,.str [],.str [],.int .i64 0],.box 36 [.str p,.int .i64 n,.imm (prs.map QBK),.imm (tgs.map QAT),.nils,.nils,.nils,.str [],.int .i64 0,.str ow,.str gr,.int .i64 (64 * a8 + a64)]]⟩ (QAD ?_) (QAP ⟨tmps 91 [(0,.ptr 0 0),(6,.ptr 1 0),(7,.ptr 2 0)],[QAO t k10,.box 36 [.str [],.int .i64 0,.nils,.nils,.nils,.nils,.nils,.str [],.int .i64 0,.str [],.str [],.int .i64 0],.box 36 [.str p,.int .i64 n,.imm (prs.map QBK),.imm (tgs.map QAT),.imm (lns.map QAT),.nils,.nils,.str [],.int .i64 0,.str ow,.str gr,.int .i64 (64 * a8 + a64)]]⟩ (QAD ?_) (QAP ⟨tmps 91 [(0,.ptr 0 0),(6,.ptr 1 0),(7,.ptr 2 0)],[QAO t k11,.box 36 [.str [],.int .i64 0,.nils,.nils,.nils,.nils,.nils,.str [],.int .i64 0,.str [],.str [],.int .i64 0],.box 36 [.str p,.int .i64 n,.imm (prs.map QBK),.imm (tgs.map QAT),.imm (lns.map QAT),.imm (rns.map QAT),.nils,.str [],.int .i64 0,.str ow,.str gr,.int .i64 (64 * a8 + a64)]]⟩ (QAD ?_) (QAP ⟨tmps 91 [(0,.ptr 0 0),(6,.ptr 1 0),(7,.ptr 2 0)],[QAO t k12,.box 36 [.str [],.int .i64 0,.nils,.nils,.nils,.nils,.nils,.str [],.int .i64 0,.str [],.str [],.int .i64 0],.box 36 [.str p,.int .i64 n,.imm (prs.map QBK),.imm (tgs.map QAT),.imm (lns.map QAT),.imm (rns.map QAT),.imm (lds.map QAT),.str [],.int .i64 0,.str ow,.str gr,.int .i64 (64 * a8 + a64)]]⟩ (QAD ?_) ?_))))
 ·have eR:List.map QBK pr0 ++ [[AV.str QWZ,AV.str sv]] = prs.map QBK:=by rw [hprs]; simp [QBK]
  unfold QWZ at eR
  refine gs ?_
  refine QAu [0] o7 rfl rfl (by simp) rfl (by simp +decide -dsimp -implicitDefEqProofs [go_sem,QAI]) ?_
  simp +decide -dsimp -implicitDefEqProofs [go_sem,QAI,maxLen]
  refine ⟨⟨by omega,by omega⟩,?_⟩
  rw [eR]
  refine QAN (by simp) ?_
  simp +decide -dsimp -implicitDefEqProofs [go_sem,QAO,hprs,QBK]
 ·simp +decide -dsimp -implicitDefEqProofs [go_sem]
  refine QAL [0] o8 rfl rfl (by simp) rfl (by simp +decide -dsimp -implicitDefEqProofs [go_sem,QAI]) ?_
  simp +decide -dsimp -implicitDefEqProofs [go_sem,QAI]
  refine QAN (by simp) ?_
  simp +decide -dsimp -implicitDefEqProofs [go_sem,QAO]
 ·simp +decide -dsimp -implicitDefEqProofs [go_sem]
  refine QAL [0] o9 rfl rfl (by simp) rfl (by simp +decide -dsimp -implicitDefEqProofs [go_sem,QAI]) ?_
  simp +decide -dsimp -implicitDefEqProofs [go_sem,QAI]
  refine QAN (by simp) ?_
  simp +decide -dsimp -implicitDefEqProofs [go_sem,QAO]
 ·simp +decide -dsimp -implicitDefEqProofs [go_sem]
  refine QAL [0] o10 rfl rfl (by simp) rfl (by simp +decide -dsimp -implicitDefEqProofs [go_sem,QAI]) ?_
  simp +decide -dsimp -implicitDefEqProofs [go_sem,QAI]
  refine QAN (by simp) ?_
  simp +decide -dsimp -implicitDefEqProofs [go_sem,QAO]
 ·simp +decide -dsimp -implicitDefEqProofs [go_sem]
  refine QAL [0] o11 rfl rfl (by simp) rfl (by simp +decide -dsimp -implicitDefEqProofs [go_sem,QAI]) ?_
  simp +decide -dsimp -implicitDefEqProofs [go_sem,QAI]
  refine QAN (by simp) ?_
  simp +decide -dsimp -implicitDefEqProofs [go_sem,QAO]
 -- a name, or none
 obtain ⟨nm,k13,hnm⟩:∃ nm k13,(QFg (QAx t k12) 4 = 0 ∧ nm = QHq QP5 (QAx t (k12 + 1)) ∧ k13 = k12 + 1 + 1) ∨ (¬ QFg (QAx t k12) 4 = 0 ∧ nm = [] ∧ k13 = k12 + 1):=by
  by_cases h:QFg (QAx t k12) 4 = 0
  ·exact ⟨_,_,.inl ⟨h,rfl,rfl⟩⟩
  ·exact ⟨_,_,.inr ⟨h,rfl,rfl⟩⟩
 have gnm:nm = [] ∨ QDY nm = true:=by
  rcases hnm with ⟨_,rfl,_⟩ | ⟨_,rfl,_⟩
  ·exact .inr (QRx _ (QBw _ (by decide)))
  ·exact .inl rfl
 have hk13:k13 ≤ k12 + 2:=by rcases hnm with ⟨_,_,h⟩ | ⟨_,_,h⟩ <;> omega
 obtain ⟨pri,k14,hpri⟩:∃ pri k14,(QFg (QAx t k13) 3 = 0 ∧ pri = QFg (QAx t (k13 + 1)) 2001 - 1000 ∧ k14 = k13 + 1 + 1) ∨ (¬ QFg (QAx t k13) 3 = 0 ∧ pri = 0 ∧ k14 = k13 + 1):=by
  by_cases h:QFg (QAx t k13) 3 = 0
  ·exact ⟨_,_,.inl ⟨h,rfl,rfl⟩⟩
  ·exact ⟨_,_,.inr ⟨h,rfl,rfl⟩⟩
 have gpri:-1000 ≤ pri ∧ pri ≤ 1000:=by
  rcases hpri with ⟨_,rfl,_⟩ | ⟨_,rfl,_⟩
  ·have:=QCi (QAx t (k13 + 1)) 2001 (by omega); omega
  ·omega
 have hk14:k14 ≤ k13 + 2:=by rcases hpri with ⟨_,_,h⟩ | ⟨_,_,h⟩ <;> omega
 refine QAP ⟨tmps 91 [(0,.ptr 0 0),(6,.ptr 1 0),(7,.ptr 2 0)],[QAO t k13,.box 36 [.str [],.int .i64 0,.nils,.nils,.nils,.nils,.nils,.str [],.int .i64 0,.str [],.str [],.int .i64 0],.box 36 [.str p,.int .i64 n,.imm (prs.map QBK),.imm (tgs.map QAT),.imm (lns.map QAT),.imm (rns.map QAT),.imm (lds.map QAT),.str nm,.int .i64 0,.str ow,.str gr,.int .i64 (64 * a8 + a64)]]⟩ (QAD ?_) (QAP ⟨tmps 91 [(0,.ptr 0 0),(6,.ptr 1 0),(7,.ptr 2 0)],[QAO t k14,.box 36 [.str [],.int .i64 0,.nils,.nils,.nils,.nils,.nils,.str [],.int .i64 0,.str [],.str [],.int .i64 0],.box 36 [.str p,.int .i64 n,.imm (prs.map QBK),.imm (tgs.map QAT),.imm (lns.map QAT),.imm (rns.map QAT),.imm (lds.map QAT),.str nm,.int .i64 pri,.str ow,.str gr,.int .i64 (64 * a8 + a64)]]⟩ (QAD ?_) (QAD ?_))
 ·have n1:=QDW t k12 4 (by omega) (by omega)
  have b1:=QCi (QAx t k12) 4 (by omega)
  rcases hnm with ⟨h1,rfl,rfl⟩ | ⟨h1,rfl,rfl⟩
  ·have n2:=QE8 t (k12 + 1) QP5 (by omega) (by decide) (by decide)
   rw [h1] at n1
   unfold QEP at n2
   refine gs ?_
   refine QAL [0] n1 rfl rfl (by simp) rfl (by simp +decide -dsimp -implicitDefEqProofs [go_sem,QAI]) ?_
   simp +decide -dsimp -implicitDefEqProofs [go_sem,QAI]
   refine QAL [0] n2 rfl rfl (by simp) rfl (by simp +decide -dsimp -implicitDefEqProofs [go_sem,QAI]) ?_
   simp +decide -dsimp -implicitDefEqProofs [go_sem,QAI]
   refine QAN (by simp) ?_
   simp +decide -dsimp -implicitDefEqProofs [go_sem,QAO]
  ·simp +decide -dsimp -implicitDefEqProofs [go_sem]
   refine QAL [0] n1 rfl rfl (by simp) rfl (by simp +decide -dsimp -implicitDefEqProofs [go_sem,QAI]) ?_
   simp +decide -dsimp -implicitDefEqProofs [go_sem,QAI,h1]
   refine QAN (by simp) ?_
   simp +decide -dsimp -implicitDefEqProofs [go_sem,QAO]
 ·have n1:=QDW t k13 3 (by omega) (by omega)
  rcases hpri with ⟨h1,rfl,rfl⟩ | ⟨h1,rfl,rfl⟩
  ·have n2:=QDW t (k13 + 1) 2001 (by omega) (by omega)
   have b2:=QCi (QAx t (k13 + 1)) 2001 (by omega)
   have w:IntKind.i64.wrap (QFg (QAx t (k13 + 1)) 2001 - 1000) = QFg (QAx t (k13 + 1)) 2001 - 1000:=w64 (by omega) (by omega)
   rw [h1] at n1
   refine gs ?_
   refine QAL [0] n1 rfl rfl (by simp) rfl (by simp +decide -dsimp -implicitDefEqProofs [go_sem,QAI]) ?_
   simp +decide -dsimp -implicitDefEqProofs [go_sem,QAI]
   refine QAL [0] n2 rfl rfl (by simp) rfl (by simp +decide -dsimp -implicitDefEqProofs [go_sem,QAI]) ?_
   simp +decide -dsimp -implicitDefEqProofs [go_sem,QAI,w]
   refine QAN (by simp) ?_
   simp +decide -dsimp -implicitDefEqProofs [go_sem,QAO]
  ·simp +decide -dsimp -implicitDefEqProofs [go_sem]
   refine QAL [0] n1 rfl rfl (by simp) rfl (by simp +decide -dsimp -implicitDefEqProofs [go_sem,QAI]) ?_
   simp +decide -dsimp -implicitDefEqProofs [go_sem,QAI,h1]
   refine QAN (by simp) ?_
   simp +decide -dsimp -implicitDefEqProofs [go_sem,QAO]
 -- the end: all of it, or without an owner
 have gA:QFh prs 64 = true:=by
  have h1:prs.map (·.1) = ks ++ [QWZ]:=by rw [hprs,List.map_append,hpr0,QMP]; rfl
  have h2:prs.all QDz = true:=List.all_eq_true.2 fun x hx=>by
   rw [hprs] at hx
   rcases List.mem_append.1 hx with hx | hx
   ·have hx1:x.1 ∈ ks:=by
     have:=List.mem_map_of_mem (f:=(·.1)) hx
     rwa [hpr0,QMP] at this
    have hx2:=QP8 t ks k6 x (hpr0 ▸ hx)
    simp [QDz,q1 _ hx1,hx2]
   ·rw [List.mem_singleton.1 hx]
    simp [QDz,QUv,(QUx _ m7).1]
  have h3:prs.length ≤ 64:=by rw [hprs]; simp; omega
  simp only [QFh,h1,h2,q2,h3,decide_true,Bool.and_self]
 have gT:=QUy _ m8
 have gL:=QRv m9
 have gR:=QUz _ m10
 have gM:=QRw _ m11
 have gI:=QYG _ m1
 have gG:=QYH _ m2
 have gn:(decide (nm = []) || QDY nm) = true:=by rcases gnm with h | h <;> simp [h]
 have gLn:QHj [] QDs 16 = true:=rfl
 have n1:=QDW t k14 4 (by omega) (by omega)
 by_cases h1:QFg (QAx t k14) 4 = 0
 ·rw [h1] at n1
  refine gs ?_
  refine QAL [0] n1 rfl rfl (by simp) rfl (by simp +decide -dsimp -implicitDefEqProofs [go_sem,QAI]) ?_
  simp +decide -dsimp -implicitDefEqProofs [go_sem,QAI]
  refine QBE (.agg (QAR ⟨p,n,prs,tgs,[],rns,lds,nm,pri,[],[],0⟩)) [QAO t (k14 + 1)] ⟨_,_,rfl,rfl,?_,rfl,rfl,by omega⟩ rfl ?_
  ·intro q hp
   simp only [QAk,hp,hn,gA,gT,gLn,gR.1,gM,gn,gpri,and_self,decide_true,Bool.and_self,Bool.true_and,Bool.true_or]
   simp; omega
  simp +decide -dsimp -implicitDefEqProofs [go_sem,QAO,QAR]
 ·simp +decide -dsimp -implicitDefEqProofs [go_sem]
  refine QAL [0] n1 rfl rfl (by simp) rfl (by simp +decide -dsimp -implicitDefEqProofs [go_sem,QAI]) ?_
  simp +decide -dsimp -implicitDefEqProofs [go_sem,QAI,h1]
  refine QBE (.agg (QAR ⟨p,n,prs,tgs,lns,rns,lds,nm,pri,ow,gr,64 * a8 + a64⟩)) [QAO t (k14 + 1)] ⟨_,_,rfl,rfl,?_,rfl,rfl,by omega⟩ rfl ?_
  ·intro q hp
   simp only [QAk,hp,hn,gA,gT,gL,gR.1,gM,gn,gpri,gI,gG,and_self,decide_true,Bool.and_self,Bool.true_and,Bool.or_true]
   have hm:0 ≤ 64 * a8 + a64 ∧ 64 * a8 + a64 ≤ 4095:=by omega
   simp [hm]; omega
  simp +decide -dsimp -implicitDefEqProofs [go_sem,QAO,QAR]
end Go.Ab
namespace Go.Ab
open Go Go.Proofs
def spR (t:List Int) (k:Nat) (av:AV) (H:List AObj):Prop:=∃ r k',av = .agg (QAR r) ∧ H = [QAO t k'] ∧ Few r ∧ k' ≤ k + 30
def QU0 (r:Rcd) (a b c:AV):AObj:=.box 36 [.str r.path,.int .i64 r.index,a,b,c,.imm (r.run.map QAT),.imm (r.load.map QAT),.str r.name,.int .i64 r.prio,.str r.owner,.str r.group,.int .i64 r.mode]
def QaI (j:Nat):List UInt8:=[116,UInt8.ofNat (97 + j)]
def QIc (i:Nat):List (List UInt8):=(List.range i).map QaI
theorem QOP (i:Nat):QIc (i + 1) = QIc i ++ [QaI i]:=by simp [QIc,List.range_succ]
theorem QQA (i:Nat):(QIc i).length = i:=by simp [QIc]
theorem QU1 {n m:Nat} (h:n < 256) (h':m < 256):unb [[AV.int .u8 (n:Int)],[AV.int .u8 (m:Int)]] = some [UInt8.ofNat n,UInt8.ofNat m]:=by
 rw [QIq h,QIq h']; exact QQX [UInt8.ofNat n,UInt8.ofNat m]
def QRy:List (List UInt8):=[[],[47],[97],[47,97,47],[47,97,47,47,98],[47,46,46],[47,97,32,98],[47,49,47,50,47,51,47,52,47,53,47,54,47,55,47,56]]
theorem QRz:∀ x ∈ QRy,x.length ≤ 20:=by decide
def QR0:List (List UInt8):=[[65],[90,90],[97],[49,65],[],[83,85,66,83,89,83,84,69,77]]
theorem QR1:∀ x ∈ QR0,x.length ≤ 20:=by decide
def QR2:List (List UInt8):=[[49],[10],[127],[111,107]]
theorem QR3:∀ x ∈ QR2,x.length ≤ 20:=by decide
def QR4:List (List UInt8):=[[97],[122,122],[],[122,32,122],[117,97,99,99,101,115,115],[46,46]]
theorem QR5:∀ x ∈ QR4,x.length ≤ 20:=by decide
def QR6:List (List UInt8):=[[97],[122,122],[],[47,122],[122,47,47,122],[122,122,47],[122,47,46,46],[122,122,47,97,35,98]]
theorem QR7:∀ x ∈ QR6,x.length ≤ 20:=by decide
def QR8:List (List UInt8):=[[],[120],[9],[114,117,110,32,122]]
theorem QR9:∀ x ∈ QR8,x.length ≤ 20:=by decide
def QSA:List (List UInt8):=[[],[120],[122],[97],[0]]
theorem QSB:∀ x ∈ QSA,x.length ≤ 20:=by decide
def QSC:List (List UInt8):=[[97,58,98],[97,33,98],[49,50,51,52,53,54,55,56,57,48,49,50,51,52,53,54],[49,50,51,52,53,54,55,56,57,48,49,50,51,52,53],[46,46],[120]]
theorem QSD:∀ x ∈ QSC,x.length ≤ 20:=by decide
def QSE:List (List UInt8):=[[],[97,32,98],[120],[46,46]]
theorem QSF:∀ x ∈ QSE,x.length ≤ 20:=by decide
def QNT:List (List UInt8):=[[],[10],[121]]
theorem QQB:∀ x ∈ QNT,x.length ≤ 20:=by decide
theorem QSG (t:List Int) (k:Nat) (r:Rcd) (hk:k < 800000000) (hr:Small r):ACallsR Tryz.prog 51 [.ptr 0 0,.agg (QAR r)] [QAO t k] (spR t k):=by
 refine QFE (spR t k) 0 cqq ?_
 have z1:=hr.props; have z2:=hr.tags; have z3:=hr.links; have z4:=hr.runs; have z5:=hr.loads; have z6:=hr.path
 have few:=hr.few
 refine QAP ⟨tmps 225 [(0,.ptr 0 0),(3,.ptr 1 0),(4,.ptr 2 0)],[QAO t k,.box 36 (QAR r),.box 36 [.str [],.int .i64 0,.nils,.nils,.nils,.nils,.nils,.str [],.int .i64 0,.str [],.str [],.int .i64 0]]⟩ (QAD ?_)
  (QAP ⟨tmps 225 [(0,.ptr 0 0),(3,.ptr 1 0),(4,.ptr 2 0)],[QAO t k,QU0 r (.own 3 r.props.length) (.imm (r.tags.map QAT)) (.imm (r.links.map QAT)),.box 36 [.str [],.int .i64 0,.nils,.nils,.nils,.nils,.nils,.str [],.int .i64 0,.str [],.str [],.int .i64 0],.reg 97 2 (r.props.map QBK)]⟩ (QAD ?_)
  (QAP ⟨tmps 225 [(0,.ptr 0 0),(3,.ptr 1 0),(4,.ptr 2 0)],[QAO t k,QU0 r (.own 3 r.props.length) (.own 4 r.tags.length) (.imm (r.links.map QAT)),.box 36 [.str [],.int .i64 0,.nils,.nils,.nils,.nils,.nils,.str [],.int .i64 0,.str [],.str [],.int .i64 0],.reg 97 2 (r.props.map QBK),.reg 9 1 (r.tags.map QAT)]⟩ (QAD ?_)
  (QAP ⟨tmps 225 [(0,.ptr 0 0),(3,.ptr 1 0),(4,.ptr 2 0)],[QAO t k,QU0 r (.own 3 r.props.length) (.own 4 r.tags.length) (.own 5 r.links.length),.box 36 [.str [],.int .i64 0,.nils,.nils,.nils,.nils,.nils,.str [],.int .i64 0,.str [],.str [],.int .i64 0],.reg 97 2 (r.props.map QBK),.reg 9 1 (r.tags.map QAT),.reg 9 1 (r.links.map QAT)]⟩ (QAD ?_) (QAD ?_))))
 ·unfold QAR
  refine gs ?_
  refine QAN (by simp) ?_
  simp +decide -dsimp -implicitDefEqProofs [go_sem,QAO]
 ·unfold QAR
  simp +decide -dsimp -implicitDefEqProofs [go_sem,maxLen]
  refine ⟨fun q x y h e=>by subst e; rfl,⟨by omega,by omega⟩,?_⟩
  refine QAN (by simp) ?_
  simp +decide -dsimp -implicitDefEqProofs [go_sem,QAO,QU0]
 ·unfold QU0
  simp +decide -dsimp -implicitDefEqProofs [go_sem,maxLen]
  refine ⟨⟨by omega,by omega⟩,?_⟩
  refine QAN (by simp) ?_
  simp +decide -dsimp -implicitDefEqProofs [go_sem,QAO]
 ·unfold QU0
  simp +decide -dsimp -implicitDefEqProofs [go_sem,maxLen]
  refine ⟨⟨by omega,by omega⟩,?_⟩
  refine QAN (by simp) ?_
  simp +decide -dsimp -implicitDefEqProofs [go_sem,QAO]
 have o1:=QDW t k 14 (by omega) (by omega)
 have b1:=QCi (QAx t k) 14 (by omega)
 generalize QFg (QAx t k) 14 = v at o1 b1
 have fr:∀ {a b:AV} {c d:AV → Prop},True:=trivial
 unfold QU0
 refine gs ?_
 refine QAL [0] o1 rfl rfl (by simp) rfl (by simp +decide -dsimp -implicitDefEqProofs [go_sem,QAI]) ?_
 simp +decide -dsimp -implicitDefEqProofs [go_sem,QAI]
 by_cases h0:v = 0
 ·rw [if_pos h0]
  have ox:=QE8 t (k + 1) QRy (by omega) (by decide) (by decide)
  have mx:=QRz _ (QBw (ss:=QRy) (QAx t (k + 1)) (by decide))
  generalize QHq QRy (QAx t (k + 1)) = x at ox mx
  unfold QEP at ox
  refine QAL [0] ox rfl rfl (by simp) rfl (by simp +decide -dsimp -implicitDefEqProofs [go_sem,QAI]) ?_
  simp +decide -dsimp -implicitDefEqProofs [go_sem,QAI]
  refine QBE (.agg (QAR { r with path:=x })) [QAO t (k + 1 + 1)] ⟨_,_,rfl,rfl,⟨by show x.length < _; omega,few.tags,few.props,few.vals,few.links,few.link,few.runs,few.rn,few.loads,few.ld⟩,by omega⟩ rfl ?_
  simp +decide -dsimp -implicitDefEqProofs [go_sem,QAO,QAR,QAT,QBK]
 rw [if_neg h0]
 by_cases h1:v = 1
 ·rw [if_pos h1]
  have o2:=QDW t (k + 1) 4 (by omega) (by omega)
  have b2:=QCi (QAx t (k + 1)) 4 (by omega)
  generalize QFg (QAx t (k + 1)) 4 = y at o2 b2
  refine QAL [0] o2 rfl rfl (by simp) rfl (by simp +decide -dsimp -implicitDefEqProofs [go_sem,QAI]) ?_
  rcases (by omega:y = 0 ∨ y = 1 ∨ y = 2 ∨ y = 3) with rfl | rfl | rfl | rfl
  ·simp +decide -dsimp -implicitDefEqProofs [go_sem,QAI]
   refine QBE (.agg (QAR { r with index:=0 })) [QAO t (k + 1 + 1)] ⟨_,_,rfl,rfl,⟨few.path,few.tags,few.props,few.vals,few.links,few.link,few.runs,few.rn,few.loads,few.ld⟩,by omega⟩ rfl ?_
   simp +decide -dsimp -implicitDefEqProofs [go_sem,QAO,QAR,QAT,QBK]
  ·simp +decide -dsimp -implicitDefEqProofs [go_sem,QAI]
   refine QBE (.agg (QAR { r with index:=-1 })) [QAO t (k + 1 + 1)] ⟨_,_,rfl,rfl,⟨few.path,few.tags,few.props,few.vals,few.links,few.link,few.runs,few.rn,few.loads,few.ld⟩,by omega⟩ rfl ?_
   simp +decide -dsimp -implicitDefEqProofs [go_sem,QAO,QAR,QAT,QBK]
  ·simp +decide -dsimp -implicitDefEqProofs [go_sem,QAI]
   refine QBE (.agg (QAR { r with index:=1073741824 })) [QAO t (k + 1 + 1)] ⟨_,_,rfl,rfl,⟨few.path,few.tags,few.props,few.vals,few.links,few.link,few.runs,few.rn,few.loads,few.ld⟩,by omega⟩ rfl ?_
   simp +decide -dsimp -implicitDefEqProofs [go_sem,QAO,QAR,QAT,QBK]
  ·simp +decide -dsimp -implicitDefEqProofs [go_sem,QAI]
   refine QBE (.agg (QAR { r with index:=1073741825 })) [QAO t (k + 1 + 1)] ⟨_,_,rfl,rfl,⟨few.path,few.tags,few.props,few.vals,few.links,few.link,few.runs,few.rn,few.loads,few.ld⟩,by omega⟩ rfl ?_
   simp +decide -dsimp -implicitDefEqProofs [go_sem,QAO,QAR,QAT,QBK]
 rw [if_neg h1]
 by_cases h2:v = 2
 ·rw [if_pos h2]
  have ox:=QE8 t (k + 1) QR0 (by omega) (by decide) (by decide)
  have mx:=QR1 _ (QBw (ss:=QR0) (QAx t (k + 1)) (by decide))
  generalize QHq QR0 (QAx t (k + 1)) = x at ox mx
  unfold QEP at ox
  refine QAu [0] ox rfl rfl (by simp) rfl (by simp +decide -dsimp -implicitDefEqProofs [go_sem,QAI]) ?_
  simp +decide -dsimp -implicitDefEqProofs [go_sem,QAI]
  have oy:=QE8 t (k + 1 + 1) QR2 (by omega) (by decide) (by decide)
  have my:=QR3 _ (QBw (ss:=QR2) (QAx t (k + 1 + 1)) (by decide))
  generalize QHq QR2 (QAx t (k + 1 + 1)) = y at oy my
  unfold QEP at oy
  refine QAu [0] oy rfl rfl (by simp) rfl (by simp +decide -dsimp -implicitDefEqProofs [go_sem,QAI]) ?_
  simp +decide -dsimp -implicitDefEqProofs [go_sem,QAI,maxLen]
  refine ⟨⟨by omega,by omega⟩,?_⟩
  refine QBE (.agg (QAR { r with props:=r.props ++ [(x,y)] })) [QAO t (k + 1 + 1 + 1)] ⟨_,_,rfl,rfl,⟨few.path,few.tags,by show (r.props ++ _).length < _; simp; omega,fun p hp=>by
   rcases List.mem_append.1 hp with hp | hp
   ·exact few.vals p hp
   ·rw [List.mem_singleton.1 hp]; show y.length < _; omega,few.links,few.link,few.runs,few.rn,few.loads,few.ld⟩,by omega⟩ rfl ?_
  simp +decide -dsimp -implicitDefEqProofs [go_sem,QAO,QAR,QAT,QBK]
 rw [if_neg h2]
 by_cases h3:v = 3
 ·rw [if_pos h3]
  have ox:=QE8 t (k + 1) QR4 (by omega) (by decide) (by decide)
  have mx:=QR5 _ (QBw (ss:=QR4) (QAx t (k + 1)) (by decide))
  generalize QHq QR4 (QAx t (k + 1)) = x at ox mx
  unfold QEP at ox
  refine QAu [0] ox rfl rfl (by simp) rfl (by simp +decide -dsimp -implicitDefEqProofs [go_sem,QAI]) ?_
  simp +decide -dsimp -implicitDefEqProofs [go_sem,QAI,maxLen]
  refine ⟨⟨by omega,by omega⟩,?_⟩
  refine QBE (.agg (QAR { r with tags:=r.tags ++ [x] })) [QAO t (k + 1 + 1)] ⟨_,_,rfl,rfl,⟨few.path,by show (r.tags ++ _).length < _; simp; omega,few.props,few.vals,few.links,few.link,few.runs,few.rn,few.loads,few.ld⟩,by omega⟩ rfl ?_
  simp +decide -dsimp -implicitDefEqProofs [go_sem,QAO,QAR,QAT,QBK]
 rw [if_neg h3]
 by_cases h4:v = 4
 ·rw [if_pos h4]
  have ox:=QE8 t (k + 1) QR6 (by omega) (by decide) (by decide)
  have mx:=QR7 _ (QBw (ss:=QR6) (QAx t (k + 1)) (by decide))
  generalize QHq QR6 (QAx t (k + 1)) = x at ox mx
  unfold QEP at ox
  refine QAu [0] ox rfl rfl (by simp) rfl (by simp +decide -dsimp -implicitDefEqProofs [go_sem,QAI]) ?_
  simp +decide -dsimp -implicitDefEqProofs [go_sem,QAI,maxLen]
  refine ⟨⟨by omega,by omega⟩,?_⟩
  refine QBE (.agg (QAR { r with links:=r.links ++ [x] })) [QAO t (k + 1 + 1)] ⟨_,_,rfl,rfl,⟨few.path,few.tags,few.props,few.vals,by show (r.links ++ _).length < _; simp; omega,fun p hp=>by
   rcases List.mem_append.1 hp with hp | hp
   ·exact few.link p hp
   ·rw [List.mem_singleton.1 hp]; show x.length < _; omega,few.runs,few.rn,few.loads,few.ld⟩,by omega⟩ rfl ?_
  simp +decide -dsimp -implicitDefEqProofs [go_sem,QAO,QAR,QAT,QBK]
 rw [if_neg h4]
 by_cases h5:v = 5
 ·rw [if_pos h5]
  simp +decide -dsimp -implicitDefEqProofs [go_sem,maxLen]
  refine ⟨⟨by omega,by omega⟩,?_⟩
  have ox:=QE8 t (k + 1) QR8 (by omega) (by decide) (by decide)
  have mx:=QR9 _ (QBw (ss:=QR8) (QAx t (k + 1)) (by decide))
  generalize QHq QR8 (QAx t (k + 1)) = x at ox mx
  unfold QEP at ox
  refine QAL [0] ox rfl rfl (by simp) rfl (by simp +decide -dsimp -implicitDefEqProofs [go_sem,QAI]) ?_
  simp +decide -dsimp -implicitDefEqProofs [go_sem,QAI,maxLen]
  refine ⟨⟨by omega,by omega⟩,?_⟩
  refine QBE (.agg (QAR { r with run:=r.run ++ [x] })) [QAO t (k + 1 + 1)] ⟨_,_,rfl,rfl,⟨few.path,few.tags,few.props,few.vals,few.links,few.link,by show (r.run ++ _).length < _; simp; omega,fun p hp=>by
   rcases List.mem_append.1 hp with hp | hp
   ·exact few.rn p hp
   ·rw [List.mem_singleton.1 hp]; show x.length < _; omega,few.loads,few.ld⟩,by omega⟩ rfl ?_
  simp +decide -dsimp -implicitDefEqProofs [go_sem,QAO,QAR,QAT,QBK]
 rw [if_neg h5]
 by_cases h6:v = 6
 ·rw [if_pos h6]
  simp +decide -dsimp -implicitDefEqProofs [go_sem,maxLen]
  refine ⟨⟨by omega,by omega⟩,?_⟩
  have ox:=QE8 t (k + 1) QSA (by omega) (by decide) (by decide)
  have mx:=QSB _ (QBw (ss:=QSA) (QAx t (k + 1)) (by decide))
  generalize QHq QSA (QAx t (k + 1)) = x at ox mx
  unfold QEP at ox
  refine QAL [0] ox rfl rfl (by simp) rfl (by simp +decide -dsimp -implicitDefEqProofs [go_sem,QAI]) ?_
  simp +decide -dsimp -implicitDefEqProofs [go_sem,QAI,maxLen]
  refine ⟨⟨by omega,by omega⟩,?_⟩
  refine QBE (.agg (QAR { r with load:=r.load ++ [x] })) [QAO t (k + 1 + 1)] ⟨_,_,rfl,rfl,⟨few.path,few.tags,few.props,few.vals,few.links,few.link,few.runs,few.rn,by show (r.load ++ _).length < _; simp; omega,fun p hp=>by
   rcases List.mem_append.1 hp with hp | hp
   ·exact few.ld p hp
   ·rw [List.mem_singleton.1 hp]; show x.length < _; omega⟩,by omega⟩ rfl ?_
  simp +decide -dsimp -implicitDefEqProofs [go_sem,QAO,QAR,QAT,QBK]
 rw [if_neg h6]
 by_cases h7:v = 7
 ·rw [if_pos h7]
  have ox:=QE8 t (k + 1) QSC (by omega) (by decide) (by decide)
  have mx:=QSD _ (QBw (ss:=QSC) (QAx t (k + 1)) (by decide))
  generalize QHq QSC (QAx t (k + 1)) = x at ox mx
  unfold QEP at ox
  refine QAL [0] ox rfl rfl (by simp) rfl (by simp +decide -dsimp -implicitDefEqProofs [go_sem,QAI]) ?_
  simp +decide -dsimp -implicitDefEqProofs [go_sem,QAI]
  refine QBE (.agg (QAR { r with name:=x })) [QAO t (k + 1 + 1)] ⟨_,_,rfl,rfl,⟨few.path,few.tags,few.props,few.vals,few.links,few.link,few.runs,few.rn,few.loads,few.ld⟩,by omega⟩ rfl ?_
  simp +decide -dsimp -implicitDefEqProofs [go_sem,QAO,QAR,QAT,QBK]
 rw [if_neg h7]
 by_cases h8:v = 8
 ·rw [if_pos h8]
  have o2:=QDW t (k + 1) 5 (by omega) (by omega)
  have b2:=QCi (QAx t (k + 1)) 5 (by omega)
  generalize QFg (QAx t (k + 1)) 5 = y at o2 b2
  refine QAL [0] o2 rfl rfl (by simp) rfl (by simp +decide -dsimp -implicitDefEqProofs [go_sem,QAI]) ?_
  rcases (by omega:y = 0 ∨ y = 1 ∨ y = 2 ∨ y = 3 ∨ y = 4) with rfl | rfl | rfl | rfl | rfl
  ·simp +decide -dsimp -implicitDefEqProofs [go_sem,QAI]
   refine QBE (.agg (QAR { r with prio:=1000 })) [QAO t (k + 1 + 1)] ⟨_,_,rfl,rfl,⟨few.path,few.tags,few.props,few.vals,few.links,few.link,few.runs,few.rn,few.loads,few.ld⟩,by omega⟩ rfl ?_
   simp +decide -dsimp -implicitDefEqProofs [go_sem,QAO,QAR,QAT,QBK]
  ·simp +decide -dsimp -implicitDefEqProofs [go_sem,QAI]
   refine QBE (.agg (QAR { r with prio:=1001 })) [QAO t (k + 1 + 1)] ⟨_,_,rfl,rfl,⟨few.path,few.tags,few.props,few.vals,few.links,few.link,few.runs,few.rn,few.loads,few.ld⟩,by omega⟩ rfl ?_
   simp +decide -dsimp -implicitDefEqProofs [go_sem,QAO,QAR,QAT,QBK]
  ·simp +decide -dsimp -implicitDefEqProofs [go_sem,QAI]
   refine QBE (.agg (QAR { r with prio:=-1000 })) [QAO t (k + 1 + 1)] ⟨_,_,rfl,rfl,⟨few.path,few.tags,few.props,few.vals,few.links,few.link,few.runs,few.rn,few.loads,few.ld⟩,by omega⟩ rfl ?_
   simp +decide -dsimp -implicitDefEqProofs [go_sem,QAO,QAR,QAT,QBK]
  ·simp +decide -dsimp -implicitDefEqProofs [go_sem,QAI]
   refine QBE (.agg (QAR { r with prio:=-1001 })) [QAO t (k + 1 + 1)] ⟨_,_,rfl,rfl,⟨few.path,few.tags,few.props,few.vals,few.links,few.link,few.runs,few.rn,few.loads,few.ld⟩,by omega⟩ rfl ?_
   simp +decide -dsimp -implicitDefEqProofs [go_sem,QAO,QAR,QAT,QBK]
  ·simp +decide -dsimp -implicitDefEqProofs [go_sem,QAI]
   refine QBE (.agg (QAR { r with prio:=0 })) [QAO t (k + 1 + 1)] ⟨_,_,rfl,rfl,⟨few.path,few.tags,few.props,few.vals,few.links,few.link,few.runs,few.rn,few.loads,few.ld⟩,by omega⟩ rfl ?_
   simp +decide -dsimp -implicitDefEqProofs [go_sem,QAO,QAR,QAT,QBK]
 rw [if_neg h8]
 by_cases h9:v = 9
 ·rw [if_pos h9]
  have ox:=QE8 t (k + 1) QSE (by omega) (by decide) (by decide)
  have mx:=QSF _ (QBw (ss:=QSE) (QAx t (k + 1)) (by decide))
  generalize QHq QSE (QAx t (k + 1)) = x at ox mx
  unfold QEP at ox
  refine QAL [0] ox rfl rfl (by simp) rfl (by simp +decide -dsimp -implicitDefEqProofs [go_sem,QAI]) ?_
  simp +decide -dsimp -implicitDefEqProofs [go_sem,QAI]
  refine QBE (.agg (QAR { r with owner:=x })) [QAO t (k + 1 + 1)] ⟨_,_,rfl,rfl,⟨few.path,few.tags,few.props,few.vals,few.links,few.link,few.runs,few.rn,few.loads,few.ld⟩,by omega⟩ rfl ?_
  simp +decide -dsimp -implicitDefEqProofs [go_sem,QAO,QAR,QAT,QBK]
 rw [if_neg h9]
 by_cases h10:v = 10
 ·rw [if_pos h10]
  have ox:=QE8 t (k + 1) QNT (by omega) (by decide) (by decide)
  have mx:=QQB _ (QBw (ss:=QNT) (QAx t (k + 1)) (by decide))
  generalize QHq QNT (QAx t (k + 1)) = x at ox mx
  unfold QEP at ox
  refine QAL [0] ox rfl rfl (by simp) rfl (by simp +decide -dsimp -implicitDefEqProofs [go_sem,QAI]) ?_
  simp +decide -dsimp -implicitDefEqProofs [go_sem,QAI]
  refine QBE (.agg (QAR { r with group:=x })) [QAO t (k + 1 + 1)] ⟨_,_,rfl,rfl,⟨few.path,few.tags,few.props,few.vals,few.links,few.link,few.runs,few.rn,few.loads,few.ld⟩,by omega⟩ rfl ?_
  simp +decide -dsimp -implicitDefEqProofs [go_sem,QAO,QAR,QAT,QBK]
 rw [if_neg h10]
 by_cases h11:v = 11
 ·rw [if_pos h11]
  have o2:=QDW t (k + 1) 4 (by omega) (by omega)
  have b2:=QCi (QAx t (k + 1)) 4 (by omega)
  generalize QFg (QAx t (k + 1)) 4 = y at o2 b2
  refine QAL [0] o2 rfl rfl (by simp) rfl (by simp +decide -dsimp -implicitDefEqProofs [go_sem,QAI]) ?_
  rcases (by omega:y = 0 ∨ y = 1 ∨ y = 2 ∨ y = 3) with rfl | rfl | rfl | rfl
  ·simp +decide -dsimp -implicitDefEqProofs [go_sem,QAI]
   refine QBE (.agg (QAR { r with mode:=0 })) [QAO t (k + 1 + 1)] ⟨_,_,rfl,rfl,⟨few.path,few.tags,few.props,few.vals,few.links,few.link,few.runs,few.rn,few.loads,few.ld⟩,by omega⟩ rfl ?_
   simp +decide -dsimp -implicitDefEqProofs [go_sem,QAO,QAR,QAT,QBK]
  ·simp +decide -dsimp -implicitDefEqProofs [go_sem,QAI]
   refine QBE (.agg (QAR { r with mode:=4095 })) [QAO t (k + 1 + 1)] ⟨_,_,rfl,rfl,⟨few.path,few.tags,few.props,few.vals,few.links,few.link,few.runs,few.rn,few.loads,few.ld⟩,by omega⟩ rfl ?_
   simp +decide -dsimp -implicitDefEqProofs [go_sem,QAO,QAR,QAT,QBK]
  ·simp +decide -dsimp -implicitDefEqProofs [go_sem,QAI]
   refine QBE (.agg (QAR { r with mode:=4096 })) [QAO t (k + 1 + 1)] ⟨_,_,rfl,rfl,⟨few.path,few.tags,few.props,few.vals,few.links,few.link,few.runs,few.rn,few.loads,few.ld⟩,by omega⟩ rfl ?_
   simp +decide -dsimp -implicitDefEqProofs [go_sem,QAO,QAR,QAT,QBK]
  ·simp +decide -dsimp -implicitDefEqProofs [go_sem,QAI]
   refine QBE (.agg (QAR { r with mode:=-1 })) [QAO t (k + 1 + 1)] ⟨_,_,rfl,rfl,⟨few.path,few.tags,few.props,few.vals,few.links,few.link,few.runs,few.rn,few.loads,few.ld⟩,by omega⟩ rfl ?_
   simp +decide -dsimp -implicitDefEqProofs [go_sem,QAO,QAR,QAT,QBK]
 rw [if_neg h11]
 by_cases h12:v = 12
 ·rw [if_pos h12]
  have o2:=QDW t (k + 1) 3 (by omega) (by omega)
  have b2:=QCi (QAx t (k + 1)) 3 (by omega)
  generalize QFg (QAx t (k + 1)) 3 = f at o2 b2
  have w1:IntKind.i64.wrap (f + 63) = f + 63:=w64 (by omega) (by omega)
  have w2:IntKind.i64.wrap (f + 63 - (r.props.length:Int)) = f + 63 - r.props.length:=w64 (by omega) (by omega)
  refine QAu [0] o2 rfl rfl (by simp) rfl (by simp +decide -dsimp -implicitDefEqProofs [go_sem,QAI]) ?_
  simp +decide -dsimp -implicitDefEqProofs [go_sem,QAI,w1,w2]
  refine QAQ (S:=Int × List (List UInt8 × List UInt8)) (fun s=>⟨tmps 225 [(0,.ptr 0 0),(3,.ptr 1 0),(4,.ptr 2 0),(5,.int .i64 s.1)],[QAO t (k + 1 + 1),.box 36 [.str r.path,.int .i64 r.index,.own 3 s.2.length,.own 4 r.tags.length,.own 5 r.links.length,.imm (r.run.map QAT),.imm (r.load.map QAT),.str r.name,.int .i64 r.prio,.str r.owner,.str r.group,.int .i64 r.mode],.box 36 [.str [],.int .i64 0,.nils,.nils,.nils,.nils,.nils,.str [],.int .i64 0,.str [],.str [],.int .i64 0],.reg 97 2 (s.2.map QBK),.reg 9 1 (r.tags.map QAT),.reg 9 1 (r.links.map QAT)]⟩) (fun s=>s.1.toNat)
   (fun s=>s.1 ≤ 70 ∧ s.2.length + s.1.toNat ≤ 140 ∧ ∀ x ∈ s.2,x.2.length ≤ 256) (f + 63 - r.props.length,r.props) ⟨by show _ ≤ _; omega,by show r.props.length + (f + 63 - (r.props.length:Int)).toNat ≤ 140; omega,fun x hx=>(hr.attr x hx).2⟩ (QAC (by simp) ?_) ?_
  ·simp +decide -dsimp -implicitDefEqProofs [go_sem,QAO]
  rintro ⟨c,l⟩ ⟨hc,hl,hv⟩
  simp only at hc hl hv
  by_cases h:0 < c
  ·obtain ⟨m,rfl⟩:∃ m:Nat,c = m:=⟨c.toNat,by omega⟩
   have d1:IntKind.i64.wrap ((m:Int) / 26) = (m:Int) / 26:=w64 (by omega) (by omega)
   have d1':(m:Int).tdiv 26 = (m:Int) / 26:=Int.tdiv_eq_ediv_of_nonneg (by omega)
   have d2:(m:Int).tmod 26 = (m:Int) % 26:=Int.tmod_eq_emod_of_nonneg (by omega)
   have d3:IntKind.i64.wrap (65 + (m:Int) / 26) = 65 + (m:Int) / 26:=w64 (by omega) (by omega)
   have d4:IntKind.i64.wrap (65 + (m:Int) % 26) = 65 + (m:Int) % 26:=w64 (by omega) (by omega)
   have d5:IntKind.u8.wrap (65 + (m:Int) / 26) = 65 + (m:Int) / 26:=by rw [IntKind.wrap_u8]; omega
   have d6:IntKind.u8.wrap (65 + (m:Int) % 26) = 65 + (m:Int) % 26:=by rw [IntKind.wrap_u8]; omega
   have d7:IntKind.i64.wrap ((m:Int) - 1) = (m:Int) - 1:=w64 (by omega) (by omega)
   have hu:unb [[AV.int .u8 (65 + (m:Int) / 26)],[AV.int .u8 (65 + (m:Int) % 26)]] = some [UInt8.ofNat (65 + m / 26),UInt8.ofNat (65 + m % 26)]:=by
    have:=QU1 (n:=65 + m / 26) (m:=65 + m % 26) (by omega) (by omega)
    rwa [show ((65 + m / 26:Nat):Int) = 65 + (m:Int) / 26 by omega,show ((65 + m % 26:Nat):Int) = 65 + (m:Int) % 26 by omega] at this
   obtain ⟨nm,hnm⟩:∃ nm:List UInt8,nm = [UInt8.ofNat (65 + m / 26),UInt8.ofNat (65 + m % 26)]:=⟨_,rfl⟩
   rw [← hnm] at hu
   have hnl:nm.length = 2:=by rw [hnm]; rfl
   clear hnm
   have h':0 < m:=by omega
   simp +decide -dsimp -implicitDefEqProofs [go_sem,h',d1,d1',d2,d3,d4,d5,d6,d7,hu,maxLen]
   refine ⟨by omega,⟨by omega,by omega⟩,?_⟩
   have eR:l.map QBK ++ [[AV.str (84 :: nm),AV.str [49]]] = (l ++ [(84 :: nm,[49])]).map QBK:=by simp [QBK]
   rw [eR]
   refine QAG ((m:Int) - 1,l ++ [(84 :: nm,[49])]) ⟨by show _ ≤ _; omega,by show (l ++ _).length + Int.toNat _ ≤ _; simp; omega,fun x hx=>?_⟩ (by show Int.toNat _ < Int.toNat _; omega) (QAC (by simp) ?_)
   ·rcases List.mem_append.1 hx with hx | hx
    ·exact hv x hx
    ·rw [List.mem_singleton.1 hx]; simp
   simp +decide -dsimp -implicitDefEqProofs [go_sem,QAO,QBK]
  have h':¬ (0:Int) < c:=h
  simp +decide -dsimp -implicitDefEqProofs [go_sem,h']
  obtain ⟨n0,hn0⟩:∃ n0,n0 = l.length:=⟨_,rfl⟩
  have hn1:n0 ≤ 140:=by omega
  rw [← hn0]
  refine QAQ (S:=Nat × List (List UInt8 × List UInt8)) (fun s=>⟨tmps 225 [(0,.ptr 0 0),(3,.ptr 1 0),(4,.ptr 2 0),(178,.int .i64 n0),(179,.int .i64 s.1)],[QAO t (k + 1 + 1),.box 36 [.str r.path,.int .i64 r.index,.own 3 n0,.own 4 r.tags.length,.own 5 r.links.length,.imm (r.run.map QAT),.imm (r.load.map QAT),.str r.name,.int .i64 r.prio,.str r.owner,.str r.group,.int .i64 r.mode],.box 36 [.str [],.int .i64 0,.nils,.nils,.nils,.nils,.nils,.str [],.int .i64 0,.str [],.str [],.int .i64 0],.reg 97 2 (s.2.map QBK),.reg 9 1 (r.tags.map QAT),.reg 9 1 (r.links.map QAT)]⟩) (fun s=>n0 - s.1)
   (fun s=>s.1 ≤ n0 ∧ s.2.length = n0 ∧ ∀ x ∈ s.2,x.2.length ≤ 256) (0,l) ⟨by simp,hn0.symm,hv⟩ (QAC (by simp) ?_) ?_
  ·simp +decide -dsimp -implicitDefEqProofs [go_sem,QAO,hn0]
  clear hn0 hl hv h h' hc
  rintro ⟨i,l⟩ ⟨hi,hl,hv⟩
  simp only at hi hl hv
  by_cases h:i < n0
  rotate_left
  ·have e:i = n0:=by omega
   subst e
   refine gs ?_
   refine QBE (.agg (QAR { r with props:=l })) [QAO t (k + 1 + 1)] ⟨_,_,rfl,rfl,⟨few.path,few.tags,by show l.length < _; omega,fun x hx=>by have:=hv x hx; omega,few.links,few.link,few.runs,few.rn,few.loads,few.ld⟩,by omega⟩ rfl ?_
   simp +decide -dsimp -implicitDefEqProofs [go_sem,QAO,QAR,hl]
  have w1:IntKind.i64.wrap ((i:Int) + 1) = i + 1:=w64 (by omega) (by omega)
  simp +decide -dsimp -implicitDefEqProofs [go_sem,h]
  refine QAQ (S:=Nat × List (List UInt8 × List UInt8)) (fun s=>⟨tmps 225 [(0,.ptr 0 0),(3,.ptr 1 0),(4,.ptr 2 0),(7,.int .i64 s.1),(178,.int .i64 n0),(179,.int .i64 i)],[QAO t (k + 1 + 1),.box 36 [.str r.path,.int .i64 r.index,.own 3 n0,.own 4 r.tags.length,.own 5 r.links.length,.imm (r.run.map QAT),.imm (r.load.map QAT),.str r.name,.int .i64 r.prio,.str r.owner,.str r.group,.int .i64 r.mode],.box 36 [.str [],.int .i64 0,.nils,.nils,.nils,.nils,.nils,.str [],.int .i64 0,.str [],.str [],.int .i64 0],.reg 97 2 (s.2.map QBK),.reg 9 1 (r.tags.map QAT),.reg 9 1 (r.links.map QAT)]⟩) (fun s=>s.1)
   (fun s=>s.1 ≤ i ∧ s.2.length = n0 ∧ ∀ x ∈ s.2,x.2.length ≤ 256) (i,l) ⟨by simp,hl,hv⟩ (QAC (by simp) ?_) ?_
  ·simp +decide -dsimp -implicitDefEqProofs [go_sem,QAO]
  clear hl hv
  rintro ⟨j,l⟩ ⟨hj,hl,hv⟩
  simp only at hj hl hv
  by_cases hj0:j = 0
  ·subst hj0
   simp +decide -dsimp -implicitDefEqProofs [go_sem,w1]
   refine QAG (i + 1,l) ⟨by show i + 1 ≤ n0; omega,hl,hv⟩ (by show n0 - (i + 1) < n0 - i; omega) (QAC (by simp) ?_)
   simp +decide -dsimp -implicitDefEqProofs [go_sem,QAO]
  obtain ⟨q,rfl⟩:∃ q,j = q + 1:=⟨j - 1,by omega⟩
  have p1:(0:Int) < (q:Int) + 1:=by omega
  have p2:(0:Int) ≤ (q:Int) + 1:=by omega
  have p3:((q:Int) + 1).toNat = q + 1:=by omega
  have p4:IntKind.i64.wrap (q:Int) = q:=w64 (by omega) (by omega)
  have p5:q + 1 < n0:=by omega
  have p6:q < n0:=by omega
  have p7:q + 1 < l.length:=by omega
  have p8:q < l.length:=by omega
  by_cases hlt:Op.bytesLess l[q + 1].1 l[q].1 = true
  ·simp +decide -dsimp -implicitDefEqProofs [go_sem,p1,p2,p3,p4,p5,p6,hl,hlt]
   have eR:((l.map QBK).set (q + 1) (QBK l[q] ++ List.drop 2 (QBK l[q + 1]))).set q (QBK l[q + 1] ++ List.drop 2 (QBK l[q])) = ((l.set (q + 1) l[q]).set q l[q + 1]).map QBK:=by
    have e1:∀ x,List.drop 2 (QBK x) = []:=fun x=>rfl
    rw [e1,e1,List.append_nil,List.append_nil,List.map_set,List.map_set]
   rw [eR]
   refine QAG (q,(l.set (q + 1) l[q]).set q l[q + 1]) ⟨by show q ≤ i; omega,by simp [hl],fun x hx=>?_⟩ (by show q < q + 1; omega) (QAC (by simp) ?_)
   ·rcases List.mem_or_eq_of_mem_set hx with hx | rfl
    ·rcases List.mem_or_eq_of_mem_set hx with hx | rfl
     ·exact hv x hx
     ·exact hv _ (List.getElem_mem _)
    ·exact hv _ (List.getElem_mem _)
   simp +decide -dsimp -implicitDefEqProofs [go_sem,QAO,-List.map_set]
  ·simp +decide -dsimp -implicitDefEqProofs [go_sem,p1,p2,p3,p4,p5,p6,hl,hlt,w1]
   refine QAG (i + 1,l) ⟨by show i + 1 ≤ n0; omega,hl,hv⟩ (by show n0 - (i + 1) < n0 - i; omega) (QAC (by simp) ?_)
   simp +decide -dsimp -implicitDefEqProofs [go_sem,QAO]
 rw [if_neg h12]
 refine QAQ (S:=Nat × Nat) (fun s=>⟨tmps 225 [(0,.ptr 0 0),(3,.ptr 1 0),(4,.ptr 2 0),(8,.int .i64 s.1)],[QAO t s.2,.box 36 [.str r.path,.int .i64 r.index,.own 3 r.props.length,.own 6 s.1,.own 5 r.links.length,.imm (r.run.map QAT),.imm (r.load.map QAT),.str r.name,.int .i64 r.prio,.str r.owner,.str r.group,.int .i64 r.mode],.box 36 [.str [],.int .i64 0,.nils,.nils,.nils,.nils,.nils,.str [],.int .i64 0,.str [],.str [],.int .i64 0],.reg 97 2 (r.props.map QBK),.reg 9 1 (r.tags.map QAT),.reg 9 1 (r.links.map QAT),.reg 9 1 ((QIc s.1).map QAT)]⟩) (fun s=>18 - s.1)
  (fun s=>s.1 ≤ 17 ∧ s.2 ≤ k + 1 + s.1) (0,k + 1) (by simp) ((Wk.nilB 1 3 9 1 rfl rfl (by simp)).trans (QAC (by simp) ?_)) ?_
 ·simp +decide -dsimp -implicitDefEqProofs [go_sem,QAO,QIc]
 rintro ⟨i,kk⟩ ⟨hi,hkk⟩
 simp only at hi hkk
 have o2:=QDW t kk 3 (by omega) (by omega)
 have b2:=QCi (QAx t kk) 3 (by omega)
 generalize QFg (QAx t kk) 3 = f at o2 b2
 have w1:IntKind.i64.wrap (15 + f) = 15 + f:=w64 (by omega) (by omega)
 have w2:IntKind.i64.wrap ((i:Int) + 1) = i + 1:=w64 (by omega) (by omega)
 have w3:IntKind.i64.wrap (97 + (i:Int)) = 97 + i:=w64 (by omega) (by omega)
 have w4:IntKind.u8.wrap (97 + (i:Int)) = 97 + i:=by rw [IntKind.wrap_u8]; omega
 have hu:unb [[AV.int .u8 (97 + (i:Int))]] = some [UInt8.ofNat (97 + i)]:=by have:=QVf (n:=97 + i) (by omega); rwa [show ((97 + i:Nat):Int) = 97 + (i:Int) by omega] at this
 have hl:=QQA i
 obtain ⟨ch,hch⟩:∃ ch,ch = UInt8.ofNat (97 + i):=⟨_,rfl⟩
 rw [← hch] at hu
 refine gs ?_
 refine QAL [0] o2 rfl rfl (by simp) rfl (by simp +decide -dsimp -implicitDefEqProofs [go_sem,QAI]) ?_
 by_cases hc:(i:Int) < 15 + f
 ·simp +decide -dsimp -implicitDefEqProofs [go_sem,QAI,w1,hc,w2,w3,w4,hu,hl,maxLen]
  refine ⟨⟨by omega,by omega⟩,?_⟩
  have eR:(QIc i).map QAT ++ [[AV.str [116,ch]]] = (QIc (i + 1)).map QAT:=by rw [QOP,hch]; simp [QAT,QaI]
  rw [eR]
  refine QAG (i + 1,kk + 1) ⟨by show i + 1 ≤ 17; omega,by show kk + 1 ≤ _; omega⟩ (by show 18 - (i + 1) < 18 - i; omega) (QAC (by simp) ?_)
  simp +decide -dsimp -implicitDefEqProofs [go_sem,QAO]
 ·simp +decide -dsimp -implicitDefEqProofs [go_sem,QAI,w1,hc]
  refine QBE (.agg (QAR { r with tags:=QIc i })) [QAO t (kk + 1)] ⟨_,_,rfl,rfl,⟨few.path,by show (QIc i).length < _; omega,few.props,few.vals,few.links,few.link,few.runs,few.rn,few.loads,few.ld⟩,by omega⟩ rfl ?_
  simp +decide -dsimp -implicitDefEqProofs [go_sem,QAO,QAR,hl]
end Go.Ab
namespace Go.Ab
open Go Go.Proofs
def c166:AFn:=⟨(sq [(ox 0 (.alloc 208 QHN))] (sq [(ox 1 (.alloc 208 QHN))] (.seq (sq [(ox 2 (.mov (iv 32)))] (.block 0 (.loop (.seq (sq [(mv 3 2),(ox 4 (b1 .leq 3 126))] (cd 4 .skip (.exit 0))) (.seq (.block 1 (.ops [(mv 7 2),(ox 8 (.iaddr (some 127) 1 (.t 1) (.t 7))),(on (.store none (.t 8) (.v (.bool true))))])) (.ops [(mv 5 2),(ox 6 (b1 .add 5 1)),(mv 2 6)])))))) (sq [(ox 9 (.load (some 127) (.t 1))),(on (.store (some 127) (.t 0) (.t 9)))] .ret)))),10,[(.cell 0 (some 127))]⟩
theorem c166_ok:QAg Tryz.prog [] 166 = some c166:=by kernel_rfl
def c167:AFn:=⟨(sq [(ox 2 (.alloc 208 QHN)),(ox 3 (mb false))] (sq [(ox 4 (.alloc 208 QHN))] (.seq (.draw [(mv 9 0),(ox 10 (.nilchk (.t 9))),(ox 11 (fa 0 10)),(ox 12 (ld 11)),(mv 13 0),(ox 14 (.nilchk (.t 13))),(ox 15 (fa 1 14)),(ox 16 (ld 15)),(ox 17 (.slice .str 0 (.t 12) (some (.t 16)) none)),(ox 18 (fc 56 [(.t 17),(.v (.str [33]))])),(mv 5 18)] [0,1,3,7,0,16,48,112,255,511,1023]) (.seq (sq [(mv 19 5)] (cd 19 (.ops [(mv 20 0),(ox 21 (.nilchk (.t 20))),(ox 22 (fa 1 21)),(ox 23 (ld 22)),(ox 24 (b1 .add 23 1)),(ox 25 (.nilchk (.t 20))),(ox 26 (fa 1 25)),(on (.store none (.t 26) (.t 24)))]) .skip)) (.seq (sq [(mv 27 0),(ox 28 (.nilchk (.t 27))),(ox 29 (fa 1 28)),(ox 30 (ld 29)),(mv 6 30)] (.block 0 (.loop (.seq (.seq (.draw [(mv 31 0),(ox 32 (.nilchk (.t 31))),(ox 33 (fa 1 32)),(ox 34 (ld 33)),(mv 35 6),(ox 36 (b2 .eql 34 35)),(mv 37 36),(of 38 (.mov (.t 0)) 37),(of 39 (.nilchk (.t 38)) 37),(of 40 (fa 0 39) 37),(of 41 (ld 40) 37),(of 42 (.mov (.t 0)) 37),(of 43 (.nilchk (.t 42)) 37),(of 44 (fa 1 43) 37),(of 45 (ld 44) 37),(of 46 (.slice .str 0 (.t 41) (some (.t 45)) none) 37),(of 47 (fc 56 [(.t 46),(.v (.str [93]))]) 37),(of 48 (.un .not (.t 47)) 37),(ox 49 (.pick (.t 37) (.v (.bool true)) (.t 48)))] [0,1,3,7,0,31,63,127,255,511,1023,127,2175,6271,14463,32767,65535,131071,262143]) (cd 49 .skip (.exit 0))) (.block 1 (.seq (.draw [(mv 50 0),(ox 51 (.nilchk (.t 50))),(ox 52 (fa 0 51)),(ox 53 (ld 52)),(mv 54 0),(ox 55 (.nilchk (.t 54))),(ox 56 (fa 1 55)),(ox 57 (ld 56)),(ox 58 (.slice .str 0 (.t 53) (some (.t 57)) none)),(ox 59 (fc 56 [(.t 58),(.v (.str [93]))])),(mv 60 59),(of 61 (.mov (.t 0)) 60),(of 62 (fc 192 [(.t 61),(.t 4)]) 60),(of 63 (.un .not (.t 62)) 60),(ox 64 (.pick (.t 60) (.v (.bool true)) (.t 63)))] [0,1,3,7,0,16,48,112,255,511,1023,2047,4095,8191,16383]) (cd 64 (sq [(ox 65 (.build QHN [])),(on (.store (some 127) (.t 2) (.t 65))),(ox 3 (mb false))] .ret) .skip))))))) (sq [(mv 66 0),(ox 67 (.nilchk (.t 66))),(ox 68 (fa 1 67)),(ox 69 (ld 68)),(ox 70 (b1 .add 69 1)),(ox 71 (.nilchk (.t 66))),(ox 72 (fa 1 71)),(on (.store none (.t 72) (.t 70)))] (.seq (sq [(mv 73 5)] (cd 73 (sq [(ox 74 (fc 166 [])),(ox 8 (.alloc 208 QHN)),(ox 7 (.mov (iv 32))),(on (.store (some 127) (.t 8) (.t 74)))] (.block 2 (.loop (.seq (sq [(mv 75 7),(ox 76 (b1 .leq 75 126))] (cd 76 .skip (.exit 2))) (.seq (.block 3 (.ops [(mv 79 7),(mv 80 7),(ox 81 (.iaddr (some 127) 1 (.t 8) (.t 80))),(ox 82 (ld 81)),(mv 83 82),(ot 84 (.mov (.t 7)) 83),(ot 85 (.iaddr (some 127) 1 (.t 4) (.t 84)) 83),(ot 86 (ld 85) 83),(ot 87 (.un .not (.t 86)) 83),(ox 88 (.pick (.t 83) (.t 87) (.v (.bool false)))),(ox 89 (.iaddr (some 127) 1 (.t 4) (.t 79))),(on (.store none (.t 89) (.t 88)))])) (.seq (sq [(ox 90 (.load (some 127) (.t 8)))] (.ops [(ox 8 (.alloc 208 QHN)),(on (.store (some 127) (.t 8) (.t 90)))])) (.ops [(mv 77 7),(ox 78 (b1 .add 77 1)),(mv 7 78)]))))))) .skip)) (sq [(ox 91 (.load (some 127) (.t 4))),(on (.store (some 127) (.t 2) (.t 91))),(ox 3 (mb true))] .ret)))))))),92,[(.cell 2 (some 127)),(.tmp 3)]⟩
theorem c167_ok:QAg Tryz.prog [] 167 = some c167:=by kernel_rfl
end Go.Ab
namespace Go.Ab
open Go Go.Proofs
def c117:AFn:=⟨(sq [(ox 2 (.mov (.v .nils))),(ox 3 (mb false))] (sq [(ox 9 (.bslice 160 1 true [(.v .nils)])),(mv 4 9)] (.seq (.block 0 (.loop (.seq (.seq (.draw [(mv 10 0),(ox 11 (.nilchk (.t 10))),(ox 12 (fa 1 11)),(ox 13 (ld 12)),(mv 14 0),(ox 15 (.nilchk (.t 14))),(ox 16 (fa 0 15)),(ox 17 (ld 16)),(ox 18 (.len .str (.t 17))),(ox 19 (b2 .lss 13 18))] [0,1,3,7,0,16,48,112,240,511]) (cd 19 .skip (.exit 0))) (.block 1 (.seq (.draw [(mv 20 0),(ox 21 (.nilchk (.t 20))),(ox 22 (fa 0 21)),(ox 23 (ld 22)),(mv 24 0),(ox 25 (.nilchk (.t 24))),(ox 26 (fa 1 25)),(ox 27 (ld 26)),(ox 28 (.idx (.t 23) (.t 27))),(mv 5 28)] [0,1,3,7,0,16,48,112,255,511]) (sq [(mv 29 0),(ox 30 (.nilchk (.t 29))),(ox 31 (fa 1 30)),(ox 32 (ld 31)),(ox 33 (b1 .add 32 1)),(ox 34 (.nilchk (.t 29))),(ox 35 (fa 1 34)),(on (.store none (.t 35) (.t 33)))] (sq [(mv 36 5),(ox 37 (.build zE [(0,(1,(.t 36)))])),(ox 6 (.alloc 210 zE)),(on (.store (some 129) (.t 6) (.t 37)))] (.seq (sq [(mv 38 5)] (.block 2 (sq [(ox 43 (.bin .eql (.t 38) (.v (.int .u8 124)))),(mv 42 43)] (cd 42 (sq [(mv 44 4),(ox 45 (.bslice 160 1 false [(.v .nils)])),(ox 46 (.append 160 1 24 (.t 44) (.t 45))),(mv 4 46)] (.exit 1)) (sq [(ox 48 (.bin .eql (.t 38) (.v (.int .u8 42)))),(mv 47 48)] (cd 47 (.ops [(ox 49 (fc 166 [])),(ox 50 (.build zE [(1,(1,(.v (.bool true)))),(2,(127,(.t 49)))])),(on (.store (some 129) (.t 6) (.t 50)))]) (sq [(ox 52 (.bin .eql (.t 38) (.v (.int .u8 63)))),(mv 51 52)] (cd 51 (.ops [(ox 53 (fc 166 [])),(ox 54 (.build zE [(2,(127,(.t 53)))])),(on (.store (some 129) (.t 6) (.t 54)))]) (sq [(ox 56 (.bin .eql (.t 38) (.v (.int .u8 91)))),(mv 55 56)] (cd 55 (sq [(mv 58 0),(ox 59 (fc 167 [(.t 58)])),(mv 57 59),(ox 60 (xt 57 0)),(ox 61 (xt 57 1)),(ox 7 (.alloc 208 QHN)),(on (.store (some 127) (.t 7) (.t 60))),(mv 8 61)] (.seq (sq [(mv 62 8),(ox 63 (.un .not (.t 62)))] (cd 63 (sq [(ox 2 (.mov (.v .nils))),(ox 3 (mb false))] .ret) .skip)) (.ops [(ox 64 (.load (some 127) (.t 7))),(ox 65 (.build zE [(2,(127,(.t 64)))])),(on (.store (some 129) (.t 6) (.t 65)))]))) (.ops [(mv 39 5),(ox 40 (fa 2 6)),(ox 41 (.iaddr (some 127) 1 (.t 40) (.t 39))),(on (.store none (.t 41) (.v (.bool true))))]))))))))))) (.draw [(mv 66 4),(mv 67 4),(ox 68 (.len .sl (.t 67))),(ox 69 (b1 .sub 68 1)),(mv 70 4),(mv 71 4),(ox 72 (.len .sl (.t 71))),(ox 73 (b1 .sub 72 1)),(ox 74 (.iaddr none 1 (.t 70) (.t 73))),(ox 75 (ld 74)),(ox 76 (.load (some 129) (.t 6))),(ox 77 (.bslice 210 129 false [(.t 76)])),(ox 78 (.append 210 129 129 (.t 75) (.t 77))),(ox 79 (.iaddr none 1 (.t 66) (.t 69))),(on (.store none (.t 79) (.t 78)))] [0,0,2,6,0,0,32,96,240,496,0,1024,4080,8191,16383]))))))))) (sq [(mv 80 4),(mv 2 80),(ox 3 (mb true))] .ret)))),81,[(.tmp 2),(.tmp 3)]⟩
theorem c117_ok:QAg Tryz.prog [9] 117 = some c117:=by kernel_rfl
end Go.Ab
namespace Go.Ab
open Go Go.Proofs
def c88:AFn:=⟨(sq [(ox 2 (.mov (.v .nils)))] (.seq (sq [(mv 3 0),(ox 4 (.eqnil false (.t 3)))] (cd 4 (sq [(ox 2 (.mov (.v .nils)))] .ret) .skip)) (sq [(ox 5 (.bslice 97 2 true [])),(mv 6 0),(ox 7 (.append 97 2 32 (.t 5) (.t 6))),(mv 2 7)] .ret))),8,[(.tmp 2)]⟩
theorem c88_ok:QAg Tryz.prog [5] 88 = some c88:=by kernel_rfl
def c89:AFn:=⟨(sq [(ox 2 (.mov (.v .nils)))] (.seq (sq [(mv 3 0),(ox 4 (.eqnil false (.t 3)))] (cd 4 (sq [(ox 2 (.mov (.v .nils)))] .ret) .skip)) (sq [(ox 5 (.bslice 9 1 true [])),(mv 6 0),(ox 7 (.append 9 1 16 (.t 5) (.t 6))),(mv 2 7)] .ret))),8,[(.tmp 2)]⟩
theorem c89_ok:QAg Tryz.prog [5] 89 = some c89:=by kernel_rfl
end Go.Ab
