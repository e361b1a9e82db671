/- A layer of abstract values over the model, and what is proved with it: part RB. -/
import Derived.Shelf.Small.Strs
import Derived.Test.YtpknaffdaemlbaaGreatDoorProg
import Derived.Test.YtpknaffdaemlbaaGreatDoorRA
import Derived.Test.YtpknaffdaemlbaaGreatDoorAA
import Derived.Test.YtpknaffdaemlbaaGreatDoorK3
set_option maxRecDepth 20000
set_option maxHeartbeats 4000000
namespace Go.Proofs
open Go.Shelf Go.RowKit Go.Lib
def Tryz.lays106_ren:Go.Shelf.Ren:=⟨fun | 106=>192 | 213=>215 | 265=>236 | n=>n,fun | 9=>9 | 3=>3 | n=>n,fun | n=>n⟩
theorem Tryz.lays106:Go.Proofs.Lays.n106 Tryz.prog Tryz.lays106_ren:={
 mixed:=by kernel_rfl
 f106:=Tryz.func192.trans (congrArg some (by kernel_rfl))
 f213:=Tryz.func215.trans (congrArg some (by kernel_rfl))
 f265:=Tryz.func236.trans (congrArg some (by kernel_rfl))
 t3:=Tryz.underlying3
 a3:=Tryz.isAgg3
 z3:=Tryz.sizeOf3
 v3:=Tryz.zeroValue3
 t9:=Tryz.underlying9
 a9:=Tryz.isAgg9
 z9:=Tryz.sizeOf9
 v9:=Tryz.zeroValue9 }
theorem Tryz.strings_Compare (a b:ByteArray) (w:World):
  Calls Tryz.prog 192 #[.string a,.string b] w fun e w'=>e = .returned (.int .i64 (Lib.compareBytes a.data.toList b.data.toList)) ∧ w' = w:=Any.strings_Compare Tryz.lays106 a b w
end Go.Proofs
namespace Go.Ab
open Go Go.Proofs Go.Sort
theorem QN4:∀ (a b:List UInt8),Lib.compareBytes a b = QJJ a b
 | [],[]=>by simp [Lib.compareBytes,QJJ]
 | [],_ :: _=>by simp [Lib.compareBytes,QJJ]
 | _ :: _,[]=>by simp [Lib.compareBytes,QJJ]
 | a :: r,b :: s=>by
  rw [Lib.compareBytes,QN4 r s]
  unfold QJJ
  simp only [List.cons_lt_cons_iff]
  by_cases h:a < b
  ·simp [h]
  ·by_cases h2:b < a
   ·have h3:a ≠ b:=fun e=>by subst e; exact h h2
    simp [h,h2,h3]
   ·have h3:a = b:=UInt8.le_antisymm (UInt8.not_lt.1 h2) (UInt8.not_lt.1 h)
    subst h3
    simp [h]
theorem QMv (a b:List UInt8):ACalls Tryz.prog 192 [.str a,.str b] [] (.int .i64 (QJJ a b)) []:=by
 refine .of_below (by kernel_rfl) fun cx vs hv hg=>?_
 simp only [QAo,Val] at hv
 obtain ⟨v,vs',rfl,rfl,v2,vs2,rfl,rfl,rfl⟩:=hv
 refine (Tryz.strings_Compare _ _ cx.w).mono fun e w' hq=>?_
 obtain ⟨rfl,rfl⟩:=hq
 exact ⟨_,rfl,Go.RowKit.Below.refl _ _,fun c'=>by simp only [Val]; rw [QN4]⟩
theorem QMw (l m:List (List UInt8)) (hl:l.length < 1000000) (_hm:m.length < 1000000):ACalls Tryz.prog 157 [.imm (l.map QAf),.imm (m.map QAf)] [] (.int .i64 (QF2 l m)) []:=by
 refine QAF c157_ok rfl ?_
 unfold c157
 simp +decide -dsimp -implicitDefEqProofs [go_sem]
 refine QAR (S:=Nat) (fun i=>⟨tmps 48 [(0,.imm (l.map QAf)),(1,.imm (m.map QAf)),(5,.int .i64 i)],[]⟩) (fun i=>l.length - i)
  (fun i=>i ≤ l.length ∧ i ≤ m.length ∧ QF2 l m = QF2 (l.drop i) (m.drop i)) 0 (by simp) (QAD (by simp) ?_) ?_
 ·simp +decide -dsimp -implicitDefEqProofs [go_sem]
 rintro i ⟨hi,hj,hc⟩
 by_cases h:i < l.length
 ·have hdl:l.drop i = l[i] :: l.drop (i + 1):=List.drop_eq_getElem_cons h
  have w:IntKind.i64.wrap ((i:Int) + 1) = i + 1:=w64 (by omega) (by omega)
  by_cases h2:i < m.length
  ·have hdm:m.drop i = m[i] :: m.drop (i + 1):=List.drop_eq_getElem_cons h2
   rw [hdl,hdm,QF2] at hc
   have cs:=QMv l[i] m[i]
   by_cases he:l[i] = m[i]
   ·rw [if_pos ((QFF _ _).2 he)] at hc
    simp +decide -dsimp -implicitDefEqProofs [go_sem,h,h2,he,w]
    refine QAI (i + 1) ⟨by omega,by omega,hc⟩ (by show l.length - (i + 1) < l.length - i; omega) (QAD (by simp) ?_)
    simp +decide -dsimp -implicitDefEqProofs [go_sem]
   ·rw [if_neg (fun e=>he ((QFF _ _).1 e))] at hc
    simp +decide -dsimp -implicitDefEqProofs [go_sem,h,h2,he]
    refine QAO cs rfl rfl ?_
    simp +decide -dsimp -implicitDefEqProofs [go_sem,hc]
  ·have h3:m.length ≤ i:=by omega
   have hdm:m.drop i = []:=List.drop_eq_nil_of_le h3
   rw [hdl,hdm,QF2] at hc
   have e1:¬ l.length < m.length:=by omega
   have e2:m.length < l.length:=by omega
   simp +decide -dsimp -implicitDefEqProofs [go_sem,h,h2,hc,e1,e2]
 ·have e:i = l.length:=by omega
  rw [List.drop_eq_nil_of_le (show l.length ≤ i by omega)] at hc
  by_cases h2:l.length < m.length
  ·have hdm:m.drop i = m[l.length] :: m.drop (l.length + 1):=by rw [e]; exact List.drop_eq_getElem_cons h2
   rw [hdm,QF2] at hc
   simp +decide -dsimp -implicitDefEqProofs [go_sem,h,h2,hc]
  ·have hdm:m.drop i = []:=List.drop_eq_nil_of_le (by omega)
   rw [hdm,QF2] at hc
   have e2:¬ m.length < l.length:=by omega
   simp +decide -dsimp -implicitDefEqProofs [go_sem,h,h2,hc,e2]
theorem QHP {p:List UInt8} (h:QAd p = true):QB9 p 47 = [] :: QDP p:=by
 obtain ⟨h1,_⟩:=QCi h
 cases p with
 | nil=>cases h1
 | cons c r=>
  simp only [QCf] at h1
  split at h1
  ·rename_i h2
   obtain ⟨rfl,_⟩:=h2
   simp only [Option.some.injEq] at h1
   rw [QCq] at h1 ⊢
   rw [← h1]
   simp [QBY]
  ·cases h1
theorem QR6 (a b:List UInt8) (ha:QAd a = true) (hb:QAd b = true):ACalls Tryz.prog 119 [.str a,.str b] [] (.int .i64 (QEv a b)) []:=by
 obtain ⟨ea,la⟩:=QCi ha
 obtain ⟨eb,lb⟩:=QCi hb
 have ca:=QE8 a 47 (by have:=QBV ha; omega)
 have cb:=QE8 b 47 (by have:=QBV hb; omega)
 rw [QHP ha] at ca
 rw [QHP hb] at cb
 have cc:=QMw ([] :: QDP a) ([] :: QDP b) (by simp; omega) (by simp; omega)
 have e:QF2 ([] :: QDP a) ([] :: QDP b) = QEv a b:=by
  rw [QF2,if_pos ((QFF _ _).2 rfl)]; rfl
 rw [e] at cc
 refine QAF c119_ok rfl ?_
 unfold c119
 simp +decide -dsimp -implicitDefEqProofs [go_sem]
 refine QAA ca rfl (by simp +decide -dsimp -implicitDefEqProofs [go_sem]) ?_
 simp +decide -dsimp -implicitDefEqProofs [go_sem]
 refine QAA cb rfl (by simp +decide -dsimp -implicitDefEqProofs [go_sem]) ?_
 simp +decide -dsimp -implicitDefEqProofs [go_sem]
 refine QAA cc (by simp +decide -dsimp -implicitDefEqProofs [go_sem]) rfl ?_
 simp +decide -dsimp -implicitDefEqProofs [go_sem]
end Go.Ab
namespace Go.Ab
open Go Go.Proofs Go.Sort
structure RecsE (E:List Ent) (l:List Rcd):Prop where
 mem:∀ r,r ∈ l ↔ QAb r = true ∧ (QAw r.path,QBJ r) ∈ E
 ds:l.Pairwise fun a b=>a.path ≠ b.path
 len:l.length ≤ E.length
theorem RecsE.nil:RecsE [] []:=⟨by simp,.nil,Nat.le_refl _⟩
theorem RecsE.step {E:List Ent} {l:List Rcd} {n t:List UInt8} {r:Rcd} {b:Bool} (h:RecsE E l) (hn:∀ e ∈ E,e.1 ≠ n) (hr:QOu t n r b):RecsE (E ++ [(n,t)]) (if b = true then l ++ [r] else l):=by
 rcases hr with ⟨x,hx,hxe,he,rfl,rfl⟩ | ⟨hno,rfl,rfl⟩
 ·rw [if_pos rfl]
  refine ⟨fun s=>?_,?_,by simp; exact h.len⟩
  ·rw [List.mem_append,h.mem,List.mem_append]
   simp only [List.mem_singleton,Prod.mk.injEq]
   constructor
   ·rintro (⟨h1,h2⟩ | rfl)
    ·exact ⟨h1,.inl h2⟩
    ·exact ⟨hx,.inr ⟨he,hxe⟩⟩
   ·rintro ⟨h1,h2 | ⟨h2,h3⟩⟩
    ·exact .inl ⟨h1,h2⟩
    ·exact .inr (QD6 h1 hx (h3.trans hxe.symm))
  ·rw [List.pairwise_append]
   refine ⟨h.ds,by simp,fun a ha b hb e=>?_⟩
   simp only [List.mem_singleton] at hb
   subst hb
   have:=((h.mem a).1 ha).2
   exact hn _ this (by show QAw a.path = n; rw [e,he])
 ·rw [if_neg (by simp)]
  refine ⟨fun s=>?_,h.ds,by rw [List.length_append]; exact Nat.le_add_right_of_le h.len⟩
  rw [h.mem,List.mem_append]
  simp only [List.mem_singleton,Prod.mk.injEq]
  constructor
  ·rintro ⟨h1,h2⟩
   exact ⟨h1,.inl h2⟩
  ·rintro ⟨h1,h2 | ⟨h2,h3⟩⟩
   ·exact ⟨h1,h2⟩
   ·exact (hno s h1 h3 h2).elim
theorem QL4 {E:List Ent} (h:QNB E) {i:Nat} (hi:i < E.length):∀ e ∈ E.take i,e.1 ≠ E[i].1:=fun e he hne=>by
 obtain ⟨j,hj,rfl⟩:=List.mem_iff_getElem.1 he
 rw [List.length_take] at hj
 rw [List.getElem_take] at hne
 have:=(List.pairwise_iff_getElem.1 h) j i (by omega) hi (by omega)
 rw [hne] at this
 exact List.lt_irrefl _ this
theorem QGz (r:Rcd) (K:AV → Prop):ldK none (QAU r) K = K (.str r.path):=rfl
theorem QUQ (dm:QAs) (pend:List Wr) (seen:QAs) {n:Nat} (ho:QAx dm) (hn:dm.length + pend.length ≤ 100000) (hF:Fine seen n) (hse:∀ k,QAv k (QA8 dm pend) = QAv k seen) (l':List Rcd) (hA:AllOf seen l'):
  ACalls Tryz.prog 74 [QBs dm pend] [] (.imm (l'.map QAU)) []:=by
 have hof:=QCa pend ho
 have ce:=QIl dm pend ho hn
 have hEs:QAn (QA8 dm pend) = QAn seen:=QHv hof hF.o hse
 rw [hEs] at ce
 have hasc:=QFu hF.o
 have hme:=fun k t=>QEC (m:=seen) hF.o (k:=k) (t:=t)
 have htx:∀ e ∈ QAn seen,e.2.length ≤ 40000:=fun e he=>hF.tx e.1 e.2 ((hme e.1 e.2).1 he)
 have hEl:(QAn seen).length ≤ 100000:=by
  rw [← hEs]
  have h1:=QHu (QA8 dm pend)
  have h2:=QFw pend dm
  omega
 have hec:=QAY
 have hrc:=QBZ
 refine QAF c74_ok rfl ?_
 unfold c74
 unfold QBs at ce ⊢
 generalize QAn seen = E at ce hasc hme htx hEl
 simp +decide -dsimp -implicitDefEqProofs [go_sem]
 refine QAA ce (by simp +decide -dsimp -implicitDefEqProofs [go_sem,hec,QCt]) (by simp +decide -dsimp -implicitDefEqProofs [go_sem,hec]) ?_
 simp +decide -dsimp -implicitDefEqProofs [go_sem]
 obtain ⟨D,hD⟩:∃ D,D = (QAn dm).map QBM:=⟨_,rfl⟩
 have hDc:∀ k,QAV k D = true:=fun k=>hD ▸ hec k _
 rw [← hD]
 have hwR:=QCt
 refine QAR (S:=Nat × List Rcd) (fun s=>⟨tmps 74 [(3,.own 1 s.2.length),(4,.imm (E.map QBM)),(5,.int .i64 s.1)],[.box 72 [.imm D,.imm (pend.map wrR)],.reg 34 12 (s.2.map QAU)]⟩) (fun s=>E.length - s.1) (fun s=>s.1 ≤ E.length ∧ RecsE (E.take s.1) s.2) (0,[]) ⟨by simp,.nil⟩ ((Wk.nilT 3 34 12 rfl (by simp)).trans (QAD (by simp) ?_)) ?_
 ·simp +decide -dsimp -implicitDefEqProofs [go_sem,hec,hDc,hwR]
 rintro ⟨i,l⟩ ⟨hi,hR⟩
 simp only at hi hR
 by_cases h:i < E.length
 ·have w:IntKind.i64.wrap ((i:Int) + 1) = i + 1:=w64 (by omega) (by omega)
  obtain ⟨r,b,hr,cw⟩:=QMU E[i].1 E[i].2 (by have:=htx E[i] (by simp); omega)
  have hst:=hR.step (QL4 hasc h) hr
  have hs:E.take (i + 1) = E.take i ++ [(E[i].1,E[i].2)]:=List.take_succ_eq_append_getElem h
  rw [← hs] at hst
  have hll:l.length ≤ E.length:=Nat.le_trans hR.len (by rw [List.length_take]; omega)
  unfold QGn at cw
  simp +decide -dsimp -implicitDefEqProofs [go_sem,h,QBM]
  refine QAA cw rfl (by simp +decide -dsimp -implicitDefEqProofs [go_sem,QAg]) ?_
  cases b with
  | true=>
   have ha:l.map QAU ++ [QAU r] = (l ++ [r]).map QAU:=by simp
   simp only [if_true] at hst
   simp +decide -dsimp -implicitDefEqProofs [go_sem,QAN,QAP,maxLen,w]
   refine ⟨⟨by omega,by omega⟩,?_⟩
   rw [ha]
   refine QAI (i + 1,l ++ [r]) ⟨by show i + 1 ≤ E.length; omega,hst⟩ (by show E.length - (i + 1) < E.length - i; omega) (QAD (by simp) ?_)
   simp +decide -dsimp -implicitDefEqProofs [go_sem,hec,hDc,hwR,hrc]
   exact QAg _ _
  | false=>
   simp only [Bool.false_eq_true,if_false] at hst
   simp +decide -dsimp -implicitDefEqProofs [go_sem,QAN,w]
   refine QAI (i + 1,l) ⟨by show i + 1 ≤ E.length; omega,hst⟩ (by show E.length - (i + 1) < E.length - i; omega) (QAD (by simp) ?_)
   simp +decide -dsimp -implicitDefEqProofs [go_sem,hec,hDc,hwR,hrc]
 ·have e:i = E.length:=by omega
  subst e
  rw [List.take_length] at hR
  have hok:okP l.toArray:=fun x hx=>QBS ((hR.mem x).1 (by simpa using hx)).1
  have hfin:(insertionSort ltR l.toArray 0 l.toArray.size).toList = l':=by
   obtain ⟨h2,h3⟩:=QIh hok hR.ds
   refine QMM h3 hA.asc fun x=>?_
   rw [h2,hA.mem]
   show x ∈ l ↔ _
   rw [hR.mem,hme]
  have hsz:(insertionSort ltR l.toArray 0 l.toArray.size).size = l.length:=(insertionSort_holds QEh l.toArray 0 l.toArray.size (Nat.zero_le _) (Nat.le_refl _)).1.1
  have hll:l.length ≤ 100000:=Nat.le_trans hR.len hEl
  obtain ⟨d0,hd0⟩:∃ d,d = l.toArray:=⟨_,rfl⟩
  have hd1:l.map QAU = rows d0:=by rw [hd0]; rfl
  have hd2:l.length = d0.size:=by rw [hd0]; rfl
  rw [← hd0] at hok hfin hsz
  rw [hd1,hd2]
  rw [hd2] at hsz hll
  obtain ⟨n,hN⟩:∃ n,n = d0.size:=⟨_,rfl⟩
  rw [← hN] at hsz hll ⊢
  simp +decide -dsimp -implicitDefEqProofs [go_sem]
  refine ⟨by rw [QBH,hN],?_⟩
  obtain ⟨R0,hR0⟩:∃ R,R = insOuter ltR 0 n 0 d0:=⟨_,rfl⟩
  have hR1:insertionSort ltR d0 0 n = R0:=by
   rw [hR0]
   unfold insertionSort
   by_cases h0:0 < n
   ·conv=>rhs; rw [insOuter,if_pos h0]
    rfl
   ·conv=>rhs; rw [insOuter,if_neg h0]
    rw [insOuter,if_neg (by omega)]
  rw [← hN,hR1] at hfin
  refine QAR (S:=Nat × Array Rcd) (fun s=>⟨tmps 74 [(3,.own 1 n),(32,.int .i64 n),(33,.int .i64 s.1)],[.box 72 [.imm D,.imm (pend.map wrR)],.reg 34 12 (rows s.2)]⟩) (fun s=>n - s.1)
   (fun s=>s.1 ≤ n ∧ s.2.size = n ∧ okP s.2 ∧ R0 = insOuter ltR 0 n s.1 s.2) (0,d0) ⟨Nat.zero_le _,hN.symm,hok,hR0⟩ (QAD (by simp) ?_) ?_
  ·simp +decide -dsimp -implicitDefEqProofs [go_sem,hDc,hwR]
   exact QAG _ _
  rintro ⟨i,d⟩ ⟨hi,hd,hok,hs⟩
  simp only at hi hd hok hs
  by_cases h:i < n
  ·rw [insOuter,if_pos h] at hs
   have wi:IntKind.i64.wrap ((i:Int) + 1) = i + 1:=w64 (by omega) (by omega)
   simp +decide -dsimp -implicitDefEqProofs [go_sem,h]
   refine QAR (S:=Nat × Array Rcd) (fun s=>⟨tmps 74 [(3,.own 1 n),(9,.int .i64 s.1),(32,.int .i64 n),(33,.int .i64 i)],[.box 72 [.imm D,.imm (pend.map wrR)],.reg 34 12 (rows s.2)]⟩) (fun s=>s.1)
    (fun s=>s.1 ≤ i ∧ s.2.size = n ∧ okP s.2 ∧ insInner ltR 0 i d = insInner ltR 0 s.1 s.2) (i,d) ⟨Nat.le_refl _,hd,hok,rfl⟩ (QAD (by simp) ?_) ?_
   ·simp +decide -dsimp -implicitDefEqProofs [go_sem,hDc,hwR]
    exact QAG _ _
   rintro ⟨j,e⟩ ⟨hj,he,hoe,hse⟩
   simp only at hj he hoe hse
   obtain ⟨m,rfl⟩ | rfl:(∃ m,j = m + 1) ∨ j = 0:=by
    cases j with
    | zero=>exact .inr rfl
    | succ m=>exact .inl ⟨m,rfl⟩
   ·have hle:(rows e).length = n:=by rw [QBH,he]
    have hm1:m + 1 < n:=by omega
    have hm:m < n:=by omega
    have a1:(rows e)[m + 1]'(by omega) = QAU e[m + 1]!:=by have:=QLV (d:=e) (j:=m + 1) (by omega); rw [List.getElem?_eq_getElem (by omega)] at this; exact Option.some.inj this
    have a0:(rows e)[m]'(by omega) = QAU e[m]!:=by have:=QLV (d:=e) (j:=m) (by omega); rw [List.getElem?_eq_getElem (by omega)] at this; exact Option.some.inj this
    have hz:(0:Int) ≤ (m:Int) + 1:=by omega
    have p1:=QA9 hoe (j:=m + 1) (by omega)
    have p0:=QA9 hoe (j:=m) (by omega)
    have cl:=QR6 _ _ p1 p0
    have w:IntKind.i64.wrap (m:Int) = (m:Int):=w64 (by omega) (by omega)
    have hsw:=QBd e (m + 1) m
    have hso:=QBj hoe (i:=m + 1) (j:=m) (by omega) (by omega)
    rw [insInner] at hse
    simp only [Nat.zero_lt_succ,decide_true,gt_iff_lt,Bool.true_and] at hse
    simp +decide -dsimp -implicitDefEqProofs [go_sem,w,hz,hle,hm,hm1,a0,a1,QGz]
    refine QAO cl rfl rfl ?_
    by_cases hlt:QEv e[m + 1]!.path e[m]!.path < 0
    ·rw [if_pos (by simpa [ltR] using hlt)] at hse
     simp +decide -dsimp -implicitDefEqProofs [go_sem,w,hz,hle,hm,hm1,a0,a1,QAN,QAP,QA3,hlt]
     rw [hsw]
     refine QAI (m,swp e (m + 1) m) ⟨by show m ≤ i; omega,by show (swp e (m + 1) m).size = n; rw [QA2,he],hso,hse⟩ (Nat.lt_succ_self m) (QAD (by simp) ?_)
     simp +decide -dsimp -implicitDefEqProofs [go_sem,hDc,hwR]
     exact QAG _ _
    ·rw [if_neg (by simpa [ltR] using hlt)] at hse
     simp +decide -dsimp -implicitDefEqProofs [go_sem,hlt,wi]
     rw [hse] at hs
     refine QAI (i + 1,e) ⟨by show i + 1 ≤ n; omega,he,hoe,hs⟩ (by show n - (i + 1) < n - i; omega) (QAD (by simp) ?_)
     simp +decide -dsimp -implicitDefEqProofs [go_sem,hDc,hwR]
     exact QAG _ _
   ·rw [insInner] at hse
    rw [hse] at hs
    simp +decide -dsimp -implicitDefEqProofs [go_sem,wi]
    refine QAI (i + 1,e) ⟨by show i + 1 ≤ n; omega,he,hoe,hs⟩ (by show n - (i + 1) < n - i; omega) (QAD (by simp) ?_)
    simp +decide -dsimp -implicitDefEqProofs [go_sem,hDc,hwR]
    exact QAG _ _
  ·rw [insOuter,if_neg h] at hs
   have hl':l' = d.toList:=by rw [← hfin,hs]
   simp +decide -dsimp -implicitDefEqProofs [go_sem,h]
   exact ⟨by rw [hl',Array.length_toList,hd],by rw [hl']; rfl,hrc _ _⟩
end Go.Ab
namespace Go.Ab
open Go Go.Proofs Go.Sort
structure Like (dm:QAs) (pend:List Wr) (seen:QAs) (n:Nat):Prop where
 o:QAx dm
 F:Fine seen n
 e:∀ k,QAv k (QA8 dm pend) = QAv k seen
 n:dm.length + pend.length ≤ 100000
theorem Like.ents {dm seen:QAs} {pend:List Wr} {n:Nat} (h:Like dm pend seen n):QAn (QA8 dm pend) = QAn seen:=QHv (QCa pend h.o) h.F.o h.e
theorem Like.len {dm seen:QAs} {pend:List Wr} {n:Nat} (h:Like dm pend seen n):(QAn seen).length ≤ 100000:=by
 rw [← h.ents]
 have h1:=QHu (QA8 dm pend)
 have h2:=QFw pend dm
 have:=h.n
 omega
theorem Like.ents_c {dm seen:QAs} {pend:List Wr} {n:Nat} (h:Like dm pend seen n):ACalls Tryz.prog 76 [QBs dm pend] [] (.imm ((QAn seen).map QBM)) []:=by
 have:=QIl dm pend h.o h.n
 rwa [h.ents] at this
theorem Like.all_c {dm seen:QAs} {pend:List Wr} {n:Nat} (h:Like dm pend seen n) {l:List Rcd} (hA:AllOf seen l):ACalls Tryz.prog 74 [QBs dm pend] [] (.imm (l.map QAU)) []:=
 QUQ dm pend seen h.o h.n h.F h.e l hA
theorem QPe {m:QAs} {n t:List UInt8} (h:QAv n m = some t) {r:Rcd} {b:Bool}:QOu t n r b ↔ QH0 m n r b:=by
 unfold QOu QH0; rw [h]; rfl
theorem QGD {dm seen:QAs} {pend:List Wr} {n:Nat} (h:Like dm pend seen n):ACalls Tryz.prog 75 [QBs dm pend] [] (.imm ((QFx seen).map QAf)) []:=by
 classical
 have ce:=h.ents_c
 have hme:=fun k t=>QEC (m:=seen) h.F.o (k:=k) (t:=t)
 have hEl:=h.len
 have hw:∀ e ∈ QAn seen,∃ r b,b = decide (QCA seen e.1) ∧ ACalls Tryz.prog 118 [.agg [.str e.1,.str e.2]] [] (QGn r b) []:=fun e he=>by
  have hg:=(hme e.1 e.2).1 he
  obtain ⟨r,b,hr,cw⟩:=QMU e.1 e.2 (by have:=h.F.tx _ _ hg; omega)
  refine ⟨r,b,?_,cw⟩
  have:=QGR ((QPe hg).1 hr)
  cases b <;> simp_all
 have hdm:QFx seen = ((QAn seen).map (·.1)).filter fun n=>!decide (QCA seen n):=by
  have:(QAn seen).map (·.1) = QFy (ksS seen):=by
   unfold QAn
   rw [List.map_map]
   exact List.map_id _
  rw [this]; unfold QFx; congr
 rw [hdm]
 have hec:=QAY
 have hss:∀ (k:Nat) (l:List (List UInt8)),QAV k (l.map QAf) = true:=fun k l=>QAa fun _ _=>rfl
 refine QAF c75_ok rfl ?_
 unfold c75
 unfold QBs at ce ⊢
 generalize QAn seen = E at ce hme hEl hw
 obtain ⟨D,hD⟩:∃ D,D = (QAn dm).map QBM:=⟨_,rfl⟩
 have hDc:∀ k,QAV k D = true:=fun k=>hD ▸ hec k _
 rw [← hD] at ce ⊢
 have hwR:=QCt
 simp +decide -dsimp -implicitDefEqProofs [go_sem]
 refine QAA ce (by simp +decide -dsimp -implicitDefEqProofs [go_sem,hDc,hwR]) (by simp +decide -dsimp -implicitDefEqProofs [go_sem,hec]) ?_
 simp +decide -dsimp -implicitDefEqProofs [go_sem]
 refine QAR (S:=Nat) (fun i=>⟨tmps 35 [(3,.own 1 (((E.take i).map (·.1)).filter fun n=>!decide (QCA seen n)).length),(4,.imm (E.map QBM)),(5,.int .i64 i)],[.box 72 [.imm D,.imm (pend.map wrR)],.reg 9 1 ((((E.take i).map (·.1)).filter fun n=>!decide (QCA seen n)).map QAf)]⟩) (fun i=>E.length - i) (fun i=>i ≤ E.length) 0 (by simp) ((Wk.nilT 3 9 1 rfl (by simp)).trans (QAD (by simp) ?_)) ?_
 ·simp +decide -dsimp -implicitDefEqProofs [go_sem,hec,hDc,hwR]
 intro i hi
 by_cases h:i < E.length
 ·have w:IntKind.i64.wrap ((i:Int) + 1) = i + 1:=w64 (by omega) (by omega)
  obtain ⟨r,b,hb,cr⟩:=hw E[i] (by simp)
  have htk:((E.take (i + 1)).map (·.1)).filter (fun n=>!decide (QCA seen n)) = ((E.take i).map (·.1)).filter (fun n=>!decide (QCA seen n)) ++ (if b = true then [] else [E[i].1]):=by
   rw [List.take_succ_eq_append_getElem h,List.map_append,List.filter_append]
   congr 1
   cases b <;> simp [← hb]
  have hfl:(((E.take i).map (·.1)).filter fun n=>!decide (QCA seen n)).length ≤ E.length:=Nat.le_trans (List.length_filter_le _ _) (by simp; omega)
  generalize ((E.take i).map (·.1)).filter (fun n=>!decide (QCA seen n)) = fl at htk hfl
  unfold QGn at cr
  simp +decide -dsimp -implicitDefEqProofs [go_sem,h,QBM]
  refine QAA cr rfl (by simp +decide -dsimp -implicitDefEqProofs [go_sem,QAg]) ?_
  cases b with
  | true=>
   simp +decide -dsimp -implicitDefEqProofs [go_sem,QAN,w]
   refine QAI (i + 1) (by show i + 1 ≤ E.length; omega) (by show E.length - (i + 1) < E.length - i; omega) (QAD (by simp) ?_)
   rw [htk]
   simp +decide -dsimp -implicitDefEqProofs [go_sem,hec,hDc,hwR,hss]
  | false=>
   have ha:fl.map QAf ++ [[AV.str E[i].1]] = (fl ++ [E[i].1]).map QAf:=by simp [QAf]
   simp +decide -dsimp -implicitDefEqProofs [go_sem,h,QAN,w,maxLen,QBM]
   refine ⟨⟨by omega,by omega⟩,?_⟩
   rw [ha]
   refine QAI (i + 1) (by show i + 1 ≤ E.length; omega) (by show E.length - (i + 1) < E.length - i; omega) (QAD (by simp) ?_)
   rw [htk]
   simp +decide -dsimp -implicitDefEqProofs [go_sem,hec,hDc,hwR,hss]
   rfl
 ·have e:i = E.length:=by omega
  subst e
  rw [List.take_length]
  simp +decide -dsimp -implicitDefEqProofs [go_sem,hss]
def QW5 (l:List Rcd) (p:List UInt8) (r:Rcd) (b:Bool):Prop:=(∃ x ∈ l,x.path = p ∧ r = x ∧ b = true) ∨ ((∀ x ∈ l,x.path ≠ p) ∧ r = QCR ∧ b = false)
theorem QR7 {seen:QAs} {l:List Rcd} (hA:AllOf seen l) {p:List UInt8} {r:Rcd} {b:Bool} (hr:QH0 seen (QAw p) r b):QW5 l p r b:=by
 rcases hr with ⟨x,hx,hxe,he,rfl,rfl⟩ | ⟨hno,rfl,rfl⟩
 ·refine .inl ⟨_,(hA.mem _).2 ⟨hx,?_⟩,QDY he,rfl,rfl⟩
  rw [he]
  cases hg:QAv (QAw p) seen with
  | none=>rw [hg] at hxe; exact (QQ6 _ hxe).elim
  | some t=>rw [hg] at hxe; exact congrArg some hxe.symm
 ·refine .inr ⟨fun x hx hp=>?_,rfl,rfl⟩
  obtain ⟨h1,h2⟩:=(hA.mem x).1 hx
  rw [hp] at h2
  exact hno x h1 (by rw [h2]; rfl) (by rw [hp])
theorem QUR {dm seen:QAs} {pend:List Wr} {n:Nat} (h:Like dm pend seen n) {l:List Rcd} (hA:AllOf seen l) (hl:l.length ≤ 100000) (p:List UInt8) {r:Rcd} {b:Bool} (hr:QW5 l p r b):ACalls Tryz.prog 82 [QBs dm pend,.str p] [] (QGn r b) []:=by
 have ca:=h.all_c hA
 have hrc:=QBZ
 have hec:=QAY
 have hasc:=hA.asc
 have huq:∀ x ∈ l,∀ y ∈ l,x.path = y.path → x = y:=fun x hx y hy e=>by
  obtain ⟨h1,h2⟩:=(hA.mem x).1 hx
  obtain ⟨h3,h4⟩:=(hA.mem y).1 hy
  rw [e,h4] at h2
  exact QD6 h1 h3 (Option.some.inj h2).symm
 refine QAF c82_ok rfl ?_
 unfold c82
 unfold QBs at ca ⊢
 unfold QGn
 simp +decide -dsimp -implicitDefEqProofs [go_sem]
 refine QAA ca (by simp +decide -dsimp -implicitDefEqProofs [go_sem,hec,QCt]) (by simp +decide -dsimp -implicitDefEqProofs [go_sem,hrc]) ?_
 simp +decide -dsimp -implicitDefEqProofs [go_sem]
 refine QAR (S:=Nat) (fun i=>⟨tmps 28 [(1,.str p),(4,.ptr 1 0),(6,.imm (l.map QAU)),(7,.int .i64 i)],[.box 72 [.imm ((QAn dm).map QBM),.imm (pend.map wrR)],.box 34 [.str [],.int .i64 0,.nils,.nils,.nils,.nils,.nils,.str [],.int .i64 0,.str [],.str [],.int .i64 0]]⟩) (fun i=>l.length - i) (fun i=>i ≤ l.length ∧ ∀ x ∈ l.take i,x.path ≠ p) 0 (by simp) (QAD (by simp) ?_) ?_
 ·simp +decide -dsimp -implicitDefEqProofs [go_sem,hec,hrc,QCt]
 rintro i ⟨hi,hn⟩
 by_cases h:i < l.length
 ·have w:IntKind.i64.wrap ((i:Int) + 1) = i + 1:=w64 (by omega) (by omega)
  by_cases he:l[i].path = p
  ·obtain ⟨rfl,rfl⟩:r = l[i] ∧ b = true:=by
    rcases hr with ⟨x,hx,hp,rfl,rfl⟩ | ⟨hno,_⟩
    ·exact ⟨huq _ hx _ (by simp) (hp.trans he.symm),rfl⟩
    ·exact (hno _ (by simp) he).elim
   simp +decide -dsimp -implicitDefEqProofs [go_sem,h,QAN,QAP,QGz,he]
   exact QIt _ _ _
  ·simp +decide -dsimp -implicitDefEqProofs [go_sem,h,QAN,QAP,QGz,he,w]
   refine QAI (i + 1) ⟨by show i + 1 ≤ l.length; omega,fun x hx=>?_⟩ (by show l.length - (i + 1) < l.length - i; omega) (QAD (by simp) ?_)
   ·rw [List.take_succ_eq_append_getElem h] at hx
    rcases List.mem_append.1 hx with hx | hx
    ·exact hn x hx
    ·simp only [List.mem_singleton] at hx; subst hx; exact he
   simp +decide -dsimp -implicitDefEqProofs [go_sem,hec,hrc,QCt]
 ·have e:i = l.length:=by omega
  subst e
  rw [List.take_length] at hn
  obtain ⟨rfl,rfl⟩:r = QCR ∧ b = false:=by
   rcases hr with ⟨x,hx,hp,_⟩ | ⟨_,h1,h2⟩
   ·exact (hn x hx hp).elim
   ·exact ⟨h1,h2⟩
  rw [QEE]
  simp +decide -dsimp -implicitDefEqProofs [go_sem]
end Go.Ab
namespace Go.Ab
open Go Go.Proofs Go.Sort
theorem Like.put {dm seen:QAs} {pend:List Wr} {n:Nat} (h:Like dm pend seen n) (w:Wr) (hF:Fine (doW seen w) (n + 1)) (hn:dm.length + pend.length + 1 ≤ 100000):Like dm (pend ++ [w]) (doW seen w) (n + 1):=
 ⟨h.o,hF,fun k=>by rw [QGQ,QFJ (QCa pend h.o),QFJ h.F.o,h.e],by rw [List.length_append]; exact hn⟩
theorem Fine.doW {m:QAs} {n:Nat} (h:Fine m n) {w:Wr} (h1:w.1.length ≤ 1000000) (h2:∀ t,w.2 = some t → t.length ≤ 40000):Fine (doW m w) (n + 1):=by
 unfold Go.Ab.doW
 split
 ·rename_i t e; exact h.set h1 (h2 t e)
 ·exact (h.del _).le (Nat.le_succ n)
theorem QJ7 {m:QAs} (ho:QAx m) (n:List UInt8):QOt (QAn m) n = (QAv n m).isSome:=by
 rw [Bool.eq_iff_iff]
 unfold QOt
 rw [List.any_eq_true]
 constructor
 ·rintro ⟨⟨a,b⟩,h1,h2⟩
  simp only [decide_eq_true_eq] at h2
  subst h2
  rw [(QEC ho).1 h1]; rfl
 ·intro h
  obtain ⟨t,ht⟩:=Option.isSome_iff_exists.1 h
  exact ⟨(n,t),(QEC ho).2 ht,by simp⟩
theorem QHQ {p:List UInt8} (h:QAd p = true):(QAw p).length ≤ 1000000:=by have:=QGu p; have:=QBV h; omega
section
variable {dm seen:QAs} {pend:List Wr} {n:Nat} (h:Like dm pend seen n)
include h
theorem QQ0 (r:Rcd) (hf:Few r) (hc:QGM seen < 512):
  (QAb r = true → ACalls Tryz.prog 78 [QBs dm pend,.agg (QAU r)] [] (.tup [QBs dm (pend ++ [(QAw r.path,some (QBJ r))]),.int .i64 0]) []) ∧
  (¬ QAb r = true → ACalls Tryz.prog 78 [QBs dm pend,.agg (QAU r)] [] (.tup [QBs dm pend,.int .i64 260]) []):=by
 have ce:=QJl r hf
 have cE:=h.ents_c
 have hl:=QEi (m:=seen)
 have hlt:¬ (512:Int) ≤ (QAn seen).length:=by rw [hl]; omega
 have hec:=QAY
 have hwR:=QCt
 refine ⟨fun hS=>?_,fun hS=>?_⟩
 ·rw [(QII hS).1,(QII hS).2] at ce
  have cn:=QFL r.path (by have:=(QBf hS).path; omega)
  unfold QKt at cn
  simp only [QBS hS,if_true] at cn
  have cw:=QLc dm pend (QAw r.path,some (QBJ r)) (by have:=h.n; omega)
  unfold QBs wrR at cw
  unfold QBs at cE
  simp only [Option.getD_some,Option.isNone_some] at cw
  refine QAF c78_ok rfl ?_
  unfold c78 QBs
  generalize QAn seen = E at cE hlt
  obtain ⟨D,hD⟩:∃ D,D = (QAn dm).map QBM:=⟨_,rfl⟩
  have hDc:∀ k,QAV k D = true:=fun k=>hD ▸ hec k _
  rw [← hD] at cE cw ⊢
  obtain ⟨Q,hQ⟩:∃ Q,Q = (pend ++ [(QAw r.path,some (QBJ r))]).map wrR:=⟨_,rfl⟩
  have hQc:∀ k,QAV k Q = true:=fun k=>hQ ▸ hwR k _
  have hQ':List.map (fun w:Wr=>[AV.str w.1,AV.str (w.2.getD []),AV.bool w.2.isNone]) (pend ++ [(QAw r.path,some (QBJ r))]) = Q:=hQ.symm
  rw [hQ'] at cw
  rw [← hQ]
  obtain ⟨V,hV⟩:∃ V,V = pend.map wrR:=⟨_,rfl⟩
  have hVc:∀ k,QAV k V = true:=fun k=>hV ▸ hwR k _
  have hV':List.map (fun w:Wr=>[AV.str w.1,AV.str (w.2.getD []),AV.bool w.2.isNone]) pend = V:=hV.symm
  rw [hV'] at cw
  rw [← hV] at cE ⊢
  clear hQ hV hQ' hV' hD
  have hcl:=QAg 0 r
  simp +decide -dsimp -implicitDefEqProofs [go_sem,QAN,QAP]
  refine QAA ce (by simp +decide -dsimp -implicitDefEqProofs [go_sem,QAg]) rfl ?_
  unfold QAU
  simp +decide -dsimp -implicitDefEqProofs [go_sem]
  refine QAA cn rfl rfl ?_
  simp +decide -dsimp -implicitDefEqProofs [go_sem]
  refine QAA cE (by simp +decide -dsimp -implicitDefEqProofs [go_sem,hDc,hVc]) (by simp +decide -dsimp -implicitDefEqProofs [go_sem,hec]) ?_
  simp +decide -dsimp -implicitDefEqProofs [go_sem,hlt]
  refine QAA cw (by simp +decide -dsimp -implicitDefEqProofs [go_sem,hDc,hVc]) (by simp +decide -dsimp -implicitDefEqProofs [go_sem,hDc,hQc]) ?_
  simp +decide -dsimp -implicitDefEqProofs [go_sem,hDc,hQc]
 ·rw [(QNT hS).1] at ce
  refine QAF c78_ok rfl ?_
  unfold c78 QBs
  simp +decide -dsimp -implicitDefEqProofs [go_sem,QAN,QAP]
  refine QAA ce (by simp +decide -dsimp -implicitDefEqProofs [go_sem,QAg]) rfl ?_
  simp +decide -dsimp -implicitDefEqProofs [go_sem,hec,hwR]
end
theorem QPf (dur seen:QAs) (pend:List Wr) (r:Rcd) (hf:Few r) (hS:¬ QAb r = true):
  ACalls Tryz.prog 18 [.ptr 0 0,.agg (QAU r)] (dbO dur seen pend) (.int .i64 260) (dbO dur seen pend):=by
 have ce:=QIs r hf
 rw [(QNT hS).1] at ce
 have hcl:=QBI
 have hsc:∀ (m:QAs) (k:Nat) (a b:AV),(a,b) ∈ smK .str m → QAM k a = true ∧ QAM k b = true:=fun m k=>QBU (k:=k) fun _=>rfl
 refine QAF c18_ok rfl ?_
 unfold c18
 unfold dbO dbB mO
 simp +decide -dsimp -implicitDefEqProofs [go_sem,QAN,QAP]
 refine QAA ce (by simp +decide -dsimp -implicitDefEqProofs [go_sem,QAg]) rfl ?_
 simp +decide -dsimp -implicitDefEqProofs [go_sem,hcl]
 (repeat' apply And.intro) <;> first | exact hsc _ _ | exact hcl _ _ | rfl
end Go.Ab
namespace Go.Ab
open Go Go.Proofs Go.Sort
section
variable {dm seen:QAs} {pend:List Wr} {n:Nat} (h:Like dm pend seen n)
include h
theorem QJ8 (p:List UInt8) (hpl:QAd p = true):
  (QAv (QAw p) seen ≠ none → ACalls Tryz.prog 79 [QBs dm pend,.str p] [] (.tup [QBs dm (pend ++ [(QAw p,none)]),.int .i64 0]) []) ∧
  (QAv (QAw p) seen = none → ACalls Tryz.prog 79 [QBs dm pend,.str p] [] (.tup [QBs dm pend,.int .i64 262]) []):=by
 have cE:=h.ents_c
 have cn:=QFL p (by have:=QBV hpl; omega)
 unfold QKt at cn
 simp only [hpl,if_true] at cn
 have ch:=QRV (QAn seen) (QAw p) (by have:=h.len; omega)
 rw [QJ7 h.F.o] at ch
 have hec:=QAY
 have hwR:=QCt
 refine ⟨fun hg=>?_,fun hg=>?_⟩
 ·have hs:(QAv (QAw p) seen).isSome = true:=by cases e:QAv (QAw p) seen with | none=>exact absurd e hg | some t=>rfl
  rw [hs] at ch
  have cw:=QLc dm pend (QAw p,none) (by have:=h.n; omega)
  unfold QBs wrR at cw
  unfold QBs at cE
  simp only [Option.getD_none,Option.isNone_none] at cw
  refine QAF c79_ok rfl ?_
  unfold c79 QBs
  generalize QAn seen = E at cE ch
  obtain ⟨D,hD⟩:∃ D,D = (QAn dm).map QBM:=⟨_,rfl⟩
  have hDc:∀ k,QAV k D = true:=fun k=>hD ▸ hec k _
  rw [← hD] at cE cw ⊢
  obtain ⟨Q,hQ⟩:∃ Q,Q = (pend ++ [(QAw p,none)]).map wrR:=⟨_,rfl⟩
  have hQc:∀ k,QAV k Q = true:=fun k=>hQ ▸ hwR k _
  have hQ':List.map (fun w:Wr=>[AV.str w.1,AV.str (w.2.getD []),AV.bool w.2.isNone]) (pend ++ [(QAw p,none)]) = Q:=hQ.symm
  rw [hQ'] at cw
  rw [← hQ]
  obtain ⟨V,hV⟩:∃ V,V = pend.map wrR:=⟨_,rfl⟩
  have hVc:∀ k,QAV k V = true:=fun k=>hV ▸ hwR k _
  have hV':List.map (fun w:Wr=>[AV.str w.1,AV.str (w.2.getD []),AV.bool w.2.isNone]) pend = V:=hV.symm
  rw [hV'] at cw
  rw [← hV] at cE ⊢
  clear hQ hV hQ' hV' hD
  simp +decide -dsimp -implicitDefEqProofs [go_sem]
  refine QAA cn rfl rfl ?_
  simp +decide -dsimp -implicitDefEqProofs [go_sem]
  refine QAA cE (by simp +decide -dsimp -implicitDefEqProofs [go_sem,hDc,hVc]) (by simp +decide -dsimp -implicitDefEqProofs [go_sem,hec]) ?_
  simp +decide -dsimp -implicitDefEqProofs [go_sem]
  refine QAA ch (by simp +decide -dsimp -implicitDefEqProofs [go_sem,hec]) rfl ?_
  simp +decide -dsimp -implicitDefEqProofs [go_sem]
  refine QAA cw (by simp +decide -dsimp -implicitDefEqProofs [go_sem,hDc,hVc]) (by simp +decide -dsimp -implicitDefEqProofs [go_sem,hDc,hQc]) ?_
  simp +decide -dsimp -implicitDefEqProofs [go_sem,hDc,hQc]
 ·rw [hg] at ch
  unfold QBs at cE
  refine QAF c79_ok rfl ?_
  unfold c79 QBs
  generalize QAn seen = E at cE ch
  simp +decide -dsimp -implicitDefEqProofs [go_sem]
  refine QAA cn rfl rfl ?_
  simp +decide -dsimp -implicitDefEqProofs [go_sem]
  refine QAA cE (by simp +decide -dsimp -implicitDefEqProofs [go_sem,hec,hwR]) (by simp +decide -dsimp -implicitDefEqProofs [go_sem,hec]) ?_
  simp +decide -dsimp -implicitDefEqProofs [go_sem]
  refine QAA ch (by simp +decide -dsimp -implicitDefEqProofs [go_sem,hec]) rfl ?_
  simp +decide -dsimp -implicitDefEqProofs [go_sem,hec,hwR]
theorem QL5 (nm:List UInt8):
  (nm ∈ QFx seen → ACalls Tryz.prog 80 [QBs dm pend,.str nm] [] (.tup [QBs dm (pend ++ [(nm,none)]),.int .i64 0]) []) ∧
  (nm ∉ QFx seen → ACalls Tryz.prog 80 [QBs dm pend,.str nm] [] (.tup [QBs dm pend,.int .i64 262]) []):=by
 classical
 have cD:=QGD h
 have hdl:(QFx seen).length ≤ 100000:=by
  have h1:(QFx seen).length ≤ (QFy (ksS seen)).length:=by unfold QFx; exact List.length_filter_le _ _
  rw [QC2,QEj] at h1
  have h2:=QEi (m:=seen)
  have:=h.len
  omega
 have cw:=QLc dm pend (nm,none) (by have:=h.n; omega)
 unfold QBs wrR at cw
 unfold QBs at cD
 simp only [Option.getD_none,Option.isNone_none] at cw
 have hec:=QAY
 have hwR:=QCt
 have hss:∀ (k:Nat) (l:List (List UInt8)),QAV k (l.map QAf) = true:=fun k l=>QAa fun _ _=>rfl
 suffices hh:ACalls Tryz.prog 80 [QBs dm pend,.str nm] [] (.tup [QBs dm (if nm ∈ QFx seen then pend ++ [(nm,none)] else pend),.int .i64 (if nm ∈ QFx seen then 0 else 262)]) [] by
  refine ⟨fun hm=>?_,fun hm=>?_⟩
  ·rwa [if_pos hm,if_pos hm] at hh
  ·rwa [if_neg hm,if_neg hm] at hh
 refine QAF c80_ok rfl ?_
 unfold c80 QBs
 generalize QFx seen = L at cD hdl
 obtain ⟨D,hD⟩:∃ D,D = (QAn dm).map QBM:=⟨_,rfl⟩
 have hDc:∀ k,QAV k D = true:=fun k=>hD ▸ hec k _
 rw [← hD] at cD cw ⊢
 obtain ⟨Q,hQ⟩:∃ Q,Q = (pend ++ [(nm,none)]).map wrR:=⟨_,rfl⟩
 have hQc:∀ k,QAV k Q = true:=fun k=>hQ ▸ hwR k _
 have hQ':List.map (fun w:Wr=>[AV.str w.1,AV.str (w.2.getD []),AV.bool w.2.isNone]) (pend ++ [(nm,none)]) = Q:=hQ.symm
 rw [hQ'] at cw
 obtain ⟨V,hV⟩:∃ V,V = pend.map wrR:=⟨_,rfl⟩
 have hVc:∀ k,QAV k V = true:=fun k=>hV ▸ hwR k _
 have hV':List.map (fun w:Wr=>[AV.str w.1,AV.str (w.2.getD []),AV.bool w.2.isNone]) pend = V:=hV.symm
 rw [hV'] at cw
 have hG:(List.map wrR (if nm ∈ L then pend ++ [(nm,none)] else pend)) = if nm ∈ L then Q else V:=by split <;> simp [hQ,hV]
 rw [← hV] at cD
 rw [hG,← hV]
 clear hQ hV hQ' hV' hD hG
 simp +decide -dsimp -implicitDefEqProofs [go_sem]
 refine QAA cD (by simp +decide -dsimp -implicitDefEqProofs [go_sem,hDc,hVc]) (by simp +decide -dsimp -implicitDefEqProofs [go_sem,hss]) ?_
 simp +decide -dsimp -implicitDefEqProofs [go_sem]
 refine QAR (S:=Nat) (fun i=>⟨tmps 28 [(1,.str nm),(2,.ptr 0 0),(4,.ptr 1 0),(5,.int .i64 0),(6,.imm (L.map QAf)),(7,.int .i64 i)],[.box 72 [.imm D,.imm V],.box 72 [.nils,.nils]]⟩) (fun i=>L.length - i) (fun i=>i ≤ L.length ∧ nm ∉ L.take i) 0 (by simp) (QAD (by simp) ?_) ?_
 ·simp +decide -dsimp -implicitDefEqProofs [go_sem,hDc,hVc,hss]
 rintro i ⟨hi,hn⟩
 by_cases h:i < L.length
 ·have w:IntKind.i64.wrap ((i:Int) + 1) = i + 1:=w64 (by omega) (by omega)
  by_cases he:L[i] = nm
  ·have hm:nm ∈ L:=he ▸ List.getElem_mem _
   rw [if_pos hm,if_pos hm]
   simp +decide -dsimp -implicitDefEqProofs [go_sem,h,he]
   refine QAA cw (by simp +decide -dsimp -implicitDefEqProofs [go_sem,hDc,hVc]) (by simp +decide -dsimp -implicitDefEqProofs [go_sem,hDc,hQc]) ?_
   simp +decide -dsimp -implicitDefEqProofs [go_sem,hDc,hQc]
  ·simp +decide -dsimp -implicitDefEqProofs [go_sem,h,he,w]
   refine QAI (i + 1) ⟨by show i + 1 ≤ L.length; omega,fun hx=>?_⟩ (by show L.length - (i + 1) < L.length - i; omega) (QAD (by simp) ?_)
   ·rw [List.take_succ_eq_append_getElem h] at hx
    rcases List.mem_append.1 hx with hx | hx
    ·exact hn hx
    ·simp only [List.mem_singleton] at hx; exact he hx.symm
   simp +decide -dsimp -implicitDefEqProofs [go_sem,hDc,hVc,hss]
 ·have e:i = L.length:=by omega
  subst e
  rw [List.take_length] at hn
  rw [if_neg hn,if_neg hn]
  simp +decide -dsimp -implicitDefEqProofs [go_sem,hDc,hVc]
end
end Go.Ab
namespace Go.Ab
open Go Go.Proofs Go.Sort
section
variable (dur seen:QAs) (pend:List Wr) (p:List UInt8) (hpl:¬ QAd p = true) (hpn:p.length ≤ 400000)
include hpl hpn
theorem QLJ:ACalls Tryz.prog 16 [.ptr 0 0,.str p] (dbO dur seen pend) (.int .i64 262) (dbO dur seen pend):=by
 have cn:=QF3 p hpn
 unfold QKt at cn
 simp only [hpl,Bool.false_eq_true,if_false] at cn
 have hk:=QCY AV.str [] seen
 have hcl:=QBI
 have hsc:∀ (m:QAs) (k:Nat) (a b:AV),(a,b) ∈ smK .str m → QAM k a = true ∧ QAM k b = true:=fun m k=>QBU (k:=k) fun _=>rfl
 refine QAF c16_ok rfl ?_
 unfold c16 dbO dbB mO
 simp +decide -dsimp -implicitDefEqProofs [go_sem]
 refine QAA cn rfl rfl ?_
 simp +decide -dsimp -implicitDefEqProofs [go_sem,hk,hcl]
 exact ⟨hsc _ _,hsc _ _⟩
theorem QPg:ACalls Tryz.prog 20 [.ptr 0 0,.str p] (dbO dur seen pend) (QGn QCR false) (dbO dur seen pend):=by
 have cn:=QF3 p hpn
 unfold QKt at cn
 simp only [hpl,Bool.false_eq_true,if_false] at cn
 have hcl:=QBI
 have hsc:∀ (m:QAs) (k:Nat) (a b:AV),(a,b) ∈ smK .str m → QAM k a = true ∧ QAM k b = true:=fun m k=>QBU (k:=k) fun _=>rfl
 refine QAF c20_ok rfl ?_
 unfold c20 dbO dbB mO QGn
 rw [QEE]
 simp +decide -dsimp -implicitDefEqProofs [go_sem]
 refine QAA cn rfl rfl ?_
 simp +decide -dsimp -implicitDefEqProofs [go_sem,hcl]
 exact ⟨hsc _ _,hsc _ _⟩
omit seen in
theorem QJ9:ACalls Tryz.prog 79 [QBs dur pend,.str p] [] (.tup [QBs dur pend,.int .i64 262]) []:=by
 have cn:=QFL p hpn
 unfold QKt at cn
 simp only [hpl,Bool.false_eq_true,if_false] at cn
 refine QAF c79_ok rfl ?_
 unfold c79 QBs
 simp +decide -dsimp -implicitDefEqProofs [go_sem]
 refine QAA cn rfl rfl ?_
 simp +decide -dsimp -implicitDefEqProofs [go_sem,QAY,QCt]
end
structure Cpl (dur seen:QAs) (pend:List Wr) (n:Nat):Prop where
 L:Like dur pend seen n
 hn:dur.length + pend.length ≤ n
 FD:Fine dur n
 wk:∀ w ∈ pend,w.1.length ≤ 1000000 ∧ ∀ t,w.2 = some t → t.length ≤ 40000
theorem Cpl.new:Cpl [] [] [] 0:=⟨⟨trivial,.nil,fun _=>rfl,by simp⟩,by simp,.nil,by simp⟩
theorem Cpl.le {dur seen:QAs} {pend:List Wr} {n n':Nat} (h:Cpl dur seen pend n) (hn:n ≤ n'):Cpl dur seen pend n':=
 ⟨⟨h.L.o,h.L.F.le hn,h.L.e,h.L.n⟩,Nat.le_trans h.hn hn,h.FD.le hn,h.wk⟩
theorem Cpl.put {dur seen:QAs} {pend:List Wr} {n:Nat} (h:Cpl dur seen pend n) (w:Wr) (h1:w.1.length ≤ 1000000) (h2:∀ t,w.2 = some t → t.length ≤ 40000) (hn:n < 100000):Cpl dur (Go.Ab.doW seen w) (pend ++ [w]) (n + 1):=
 ⟨h.L.put w (h.L.F.doW h1 h2) (by have:=h.hn; omega),by rw [List.length_append]; have:=h.hn; simp only [List.length_cons,List.length_nil]; omega,h.FD.le (Nat.le_succ n),fun x hx=>by
  rcases List.mem_append.1 hx with hx | hx
  ·exact h.wk x hx
  ·simp only [List.mem_singleton] at hx; subst hx; exact ⟨h1,h2⟩⟩
theorem Cpl.sync {dur seen:QAs} {pend:List Wr} {n:Nat} (h:Cpl dur seen pend n) (hn:n ≤ 100000):Cpl seen seen [] n:=
 ⟨⟨h.L.F.o,h.L.F,fun _=>rfl,by have:=h.L.F.n; simp; omega⟩,by have:=h.L.F.n; simpa using this,h.L.F,by simp⟩
theorem Fine.fold {m:QAs}:∀ (l:List Wr) {n:Nat},Fine m n → (∀ w ∈ l,w.1.length ≤ 1000000 ∧ ∀ t,w.2 = some t → t.length ≤ 40000) → Fine (QA8 m l) (n + l.length):=fun l=>by
 induction l generalizing m with
 | nil=>intro n h _; exact h
 | cons w l ih=>
  intro n h hw
  have:=ih (h.doW (hw w (by simp)).1 (hw w (by simp)).2) fun x hx=>hw x (by simp [hx])
  rw [List.length_cons,show n + (l.length + 1) = n + 1 + l.length by omega]
  exact this
theorem Cpl.crash {dur seen:QAs} {pend:List Wr} {n:Nat} (h:Cpl dur seen pend n) (j:Nat) (hn:n ≤ 100000):Cpl (QA8 dur (pend.take j)) (QA8 dur (pend.take j)) [] n:=by
 have hF:=Fine.fold (m:=dur) (pend.take j) ⟨⟨h.FD.o,h.FD.k,Nat.le_refl _⟩,h.FD.tx⟩ fun w hw=>h.wk w (List.mem_of_mem_take hw)
 have hl:dur.length + (pend.take j).length ≤ n:=by rw [List.length_take]; have:=h.hn; omega
 have hF':=hF.le hl
 have:=hF'.n
 exact ⟨⟨hF'.o,hF',fun _=>rfl,by simp; omega⟩,by simp; omega,hF',by simp⟩
theorem QPh {m m':QAs} (h:QAx m) (h':QAx m') (he:∀ k,QAv k m = QAv k m') (pend:List Wr):QBs m pend = QBs m' pend:=by
 unfold QBs; rw [QHv h h' he]
theorem QPi (n t:List UInt8):∃ r b,QOu t n r b:=by
 by_cases h:∃ x,QAb x = true ∧ QBJ x = t ∧ QAw x.path = n
 ·obtain ⟨x,h1,h2,h3⟩:=h
  exact ⟨x,true,.inl ⟨x,h1,h2,h3,rfl,rfl⟩⟩
 ·exact ⟨QCR,false,.inr ⟨fun x h1 h2 h3=>h ⟨x,h1,h2,h3⟩,rfl,rfl⟩⟩
theorem QN5 {E:List Ent} (h:QNB E):∀ i,i ≤ E.length → ∃ l,RecsE (E.take i) l
 | 0,_=>⟨[],by simpa using RecsE.nil⟩
 | i + 1,hi=>by
  obtain ⟨l,hl⟩:=QN5 h i (by omega)
  obtain ⟨r,b,hr⟩:=QPi E[i].1 E[i].2
  have:=hl.step (QL4 h (show i < E.length by omega)) hr
  rw [show [(E[i].1,E[i].2)] = [E[i]] from rfl,← List.take_succ_eq_append_getElem (show i < E.length by omega)] at this
  exact ⟨_,this⟩
theorem QQ1 {m:QAs} (ho:QAx m):∃ l,AllOf m l ∧ l.length ≤ (QAn m).length:=by
 obtain ⟨l,hl⟩:=QN5 (QFu ho) _ (Nat.le_refl _)
 rw [List.take_length] at hl
 have hok:okP l.toArray:=fun x hx=>QBS ((hl.mem x).1 (by simpa using hx)).1
 obtain ⟨h2,h3⟩:=QIh hok hl.ds
 have hsz:=(insertionSort_holds QEh l.toArray 0 l.toArray.size (Nat.zero_le _) (Nat.le_refl _)).1.1
 refine ⟨_,⟨fun r=>?_,h3⟩,?_⟩
 ·rw [h2]
  show r ∈ l ↔ _
  rw [hl.mem,QEC ho]
 ·rw [Array.length_toList,hsz]
  exact hl.len
theorem QW6 (dur seen:QAs) (pend:List Wr) {n:Nat} (hF:Fine seen n) (hn:n ≤ 1000) {l:List Rcd} (hl:AllOf seen l):ACalls Tryz.prog 28 [.ptr 0 0] (dbO dur seen pend) (.imm (l.map QAU)) (dbO dur seen pend):=
 ((QVx dur seen pend hF hn).mono fun v G ⟨hG,l',hl',hv⟩=>⟨by rw [hv,hl'.uniq hl],hG⟩).one
theorem QFe (is:List Nat) (l:List Ent):QA4 is (l.map QBM) = l.map QBM:=by
 induction l with
 | nil=>rfl
 | cons x r ih=>simp [QA4,ih,QBM,QDB,ren]
theorem QR8 {dur seen:QAs} {pend:List Wr} {n:Nat} (h:Cpl dur seen pend n) (hn:n ≤ 1000):ACalls Tryz.prog 40 [.ptr 0 0,QBs dur pend] (dbO dur seen pend) (.bool true) (dbO dur seen pend):=by
 obtain ⟨l,hl,hll⟩:=QQ1 h.L.F.o
 have cA:=QW6 dur seen pend h.L.F hn hl
 have cD:=QKm dur seen pend h.L.F (by omega)
 have cE:=h.L.F.ents (dur:=dur) (pend:=pend) (by omega)
 have cP:=QKO dur seen pend
 have rA:=h.L.all_c hl
 have rD:=QGD h.L
 have rE:=h.L.ents_c
 have cT:=QDI (QFx seen) (QFx seen)
 have hdl:(QFx seen).length ≤ 100000:=by
  classical
  have h1:(QFx seen).length ≤ (QFy (ksS seen)).length:=by unfold QFx; exact List.length_filter_le _ _
  rw [QC2,QEj] at h1
  have h2:=QEi (m:=seen)
  have:=h.L.len
  omega
 have cT:=cT (by omega) (by omega)
 rw [decide_eq_true rfl] at cT
 have cS:=QJX (QAn seen) h.L.len
 have cR:=QJU l (fun x hx=>(QBf ((hl.mem x).1 hx).1).few.fit) (by have:=h.L.len; omega)
 unfold dbO dbB mO at cA cD cE cP
 unfold QBs at rA rD rE
 unfold QOz at cE cS
 have hec:=QAY
 have her:=QFe
 have hrr:=QEB
 have hrc:=QBZ
 have hwR:=QCt
 have hsr:=QAp
 have hwr:=QAr
 have hcl:=QBI
 have hsc:∀ (m:QAs) (k:Nat) (a b:AV),(a,b) ∈ smK .str m → QAM k a = true ∧ QAM k b = true:=fun m k=>QBU (k:=k) fun _=>rfl
 have hss:∀ (k:Nat) (l:List (List UInt8)),QAV k (l.map QAf) = true:=fun k l=>QAa fun _ _=>rfl
 have hsR:=QBg
 refine QAF c40_ok rfl ?_
 unfold c40 dbO dbB mO QBs
 generalize QAn seen = E at cE rE cS
 generalize QFx seen = L at cD rD cT
 obtain ⟨D,hD⟩:∃ D,D = (QAn dur).map QBM:=⟨_,rfl⟩
 have hDc:∀ k,QAV k D = true:=fun k=>hD ▸ hec k _
 have hDr:∀ is,QA4 is D = D:=fun is=>hD ▸ her is _
 rw [← hD] at rA rD rE ⊢
 clear hD
 simp +decide -dsimp -implicitDefEqProofs [go_sem]
 refine QBD [0,1,2,3] cA rfl rfl (by simp) (by simp +decide -dsimp -implicitDefEqProofs [go_sem]) (by simp +decide -dsimp -implicitDefEqProofs [go_sem,hsr,hwr]) ?_
 simp +decide -dsimp -implicitDefEqProofs [go_sem,hsr,hwr,hrr]
 refine QAO rA (by simp +decide -dsimp -implicitDefEqProofs [go_sem,hDc,hwR]) (by simp +decide -dsimp -implicitDefEqProofs [go_sem,hrc]) ?_
 simp +decide -dsimp -implicitDefEqProofs [go_sem]
 refine QAO cR (by simp +decide -dsimp -implicitDefEqProofs [go_sem,hrc]) rfl ?_
 simp +decide -dsimp -implicitDefEqProofs [go_sem]
 refine QBD [0,1,2,3] cD rfl rfl (by simp) (by simp +decide -dsimp -implicitDefEqProofs [go_sem]) (by simp +decide -dsimp -implicitDefEqProofs [go_sem,hsr,hwr]) ?_
 simp +decide -dsimp -implicitDefEqProofs [go_sem,hsr,hwr,hsR]
 refine QAO rD (by simp +decide -dsimp -implicitDefEqProofs [go_sem,hDc,hwR]) (by simp +decide -dsimp -implicitDefEqProofs [go_sem,hss]) ?_
 simp +decide -dsimp -implicitDefEqProofs [go_sem]
 refine QAO cT (by simp +decide -dsimp -implicitDefEqProofs [go_sem,hss]) rfl ?_
 simp +decide -dsimp -implicitDefEqProofs [go_sem]
 refine QBD [0,1,2,3] cE rfl rfl (by simp) (by simp +decide -dsimp -implicitDefEqProofs [go_sem]) (by simp +decide -dsimp -implicitDefEqProofs [go_sem,hsr,hwr]) ?_
 simp +decide -dsimp -implicitDefEqProofs [go_sem,hsr,hwr,her]
 refine QAO rE (by simp +decide -dsimp -implicitDefEqProofs [go_sem,hDc,hwR]) (by simp +decide -dsimp -implicitDefEqProofs [go_sem,hec]) ?_
 simp +decide -dsimp -implicitDefEqProofs [go_sem]
 refine QAO cS (by simp +decide -dsimp -implicitDefEqProofs [go_sem,hec]) rfl ?_
 simp +decide -dsimp -implicitDefEqProofs [go_sem]
 refine QBD [0,1,2,3] cP rfl rfl (by simp) (by simp +decide -dsimp -implicitDefEqProofs [go_sem]) (by simp +decide -dsimp -implicitDefEqProofs [go_sem,hsr,hwr]) ?_
 simp +decide -dsimp -implicitDefEqProofs [go_sem,hsr,hwr,hcl]
 (repeat' apply And.intro) <;> first | exact hsc _ _ | exact hcl _ _ | rfl
end Go.Ab
