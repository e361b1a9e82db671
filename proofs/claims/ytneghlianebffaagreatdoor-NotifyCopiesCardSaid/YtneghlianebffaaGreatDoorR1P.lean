/- A layer of abstract values over the model, and what is proved with it: part R1P. -/
import Derived.Test.YtneghlianebffaaGreatDoorOX
import Derived.Test.YtneghlianebffaaGreatDoorB1
import Derived.Test.YtneghlianebffaaGreatDoorW1
import Derived.Test.YtneghlianebffaaGreatDoorC1
import Derived.Test.YtneghlianebffaaGreatDoorG2
import Derived.Test.YtneghlianebffaaGreatDoorS2
set_option maxRecDepth 20000
namespace Go.Ab
open Go Go.Proofs Go.Sort
theorem QOq:∀ (a b:List UInt8),Lib.compareBytes a b = QKP a b
 | [],[]=>by simp [Lib.compareBytes,QKP]
 | [],_ :: _=>by simp [Lib.compareBytes,QKP]
 | _ :: _,[]=>by simp [Lib.compareBytes,QKP]
 | a :: r,b :: s=>by
  rw [Lib.compareBytes,QOq r s]
  unfold QKP
  simp only [List.cons_lt_cons_iff]
  by_cases h:a < b
  ·simp [h]
  ·by_cases h2:b < a
   ·have h3:a ≠ b:=fun e=>by subst e; exact h h2
    simp [h,h2,h3]
   ·have h3:a = b:=UInt8.le_antisymm (UInt8.not_lt.1 h2) (UInt8.not_lt.1 h)
    subst h3
    simp [h]
theorem QNw (a b:List UInt8):ACalls Tryz.prog 145 [.str a,.str b] [] (.int .i64 (QKP a b)) []:=by
 refine .of_below (by kernel_rfl) fun cx vs hv hg=>?_
 simp only [QA3,Val] at hv
 obtain ⟨v,vs',rfl,rfl,v2,vs2,rfl,rfl,rfl⟩:=hv
 refine (Tryz.strings_Compare _ _ cx.w).mono fun e w' hq=>?_
 obtain ⟨rfl,rfl⟩:=hq
 exact ⟨_,rfl,Go.RowKit.Below.refl _ _,fun c'=>by simp only [Val]; rw [QOq]⟩
theorem QNx (l m:List (List UInt8)) (hl:l.length < 1000000) (_hm:m.length < 1000000):ACalls Tryz.prog 105 [.imm (l.map QAT),.imm (m.map QAT)] [] (.int .i64 (QGq l m)) []:=by
 refine QAH cqq rfl ?_
 refine gs ?_
 refine QAQ (S:=Nat) (fun i=>⟨tmps 48 [(0,.imm (l.map QAT)),(1,.imm (m.map QAT)),(5,.int .i64 i)],[]⟩) (fun i=>l.length - i)
  (fun i=>i ≤ l.length ∧ i ≤ m.length ∧ QGq l m = QGq (l.drop i) (m.drop i)) 0 (by simp) (QAC (by simp) ?_) ?_
 ·simp +decide -dsimp -implicitDefEqProofs [go_sem]
 rintro i ⟨hi,hj,hc⟩
 by_cases h:i < l.length
 ·have hdl:l.drop i = l[i] :: l.drop (i + 1):=List.drop_eq_getElem_cons h
  have w:IntKind.i64.wrap ((i:Int) + 1) = i + 1:=w64 (by omega) (by omega)
  by_cases h2:i < m.length
  ·have hdm:m.drop i = m[i] :: m.drop (i + 1):=List.drop_eq_getElem_cons h2
   rw [hdl,hdm,QGq] at hc
   have cs:=QNw l[i] m[i]
   by_cases he:l[i] = m[i]
   ·rw [if_pos ((QF5 _ _).2 he)] at hc
    simp +decide -dsimp -implicitDefEqProofs [go_sem,h,h2,he,w]
    refine QAG (i + 1) ⟨by omega,by omega,hc⟩ (by show l.length - (i + 1) < l.length - i; omega) (QAC (by simp) ?_)
    simp +decide -dsimp -implicitDefEqProofs [go_sem]
   ·rw [if_neg (fun e=>he ((QF5 _ _).1 e))] at hc
    simp +decide -dsimp -implicitDefEqProofs [go_sem,h,h2,he]
    refine QAK cs rfl rfl ?_
    simp +decide -dsimp -implicitDefEqProofs [go_sem,hc]
  ·have h3:m.length ≤ i:=by omega
   have hdm:m.drop i = []:=List.drop_eq_nil_of_le h3
   rw [hdl,hdm,QGq] at hc
   have e1:¬ l.length < m.length:=by omega
   have e2:m.length < l.length:=by omega
   simp +decide -dsimp -implicitDefEqProofs [go_sem,h,h2,hc,e1,e2]
 ·have e:i = l.length:=by omega
  rw [List.drop_eq_nil_of_le (show l.length ≤ i by omega)] at hc
  by_cases h2:l.length < m.length
  ·have hdm:m.drop i = m[l.length] :: m.drop (l.length + 1):=by rw [e]; exact List.drop_eq_getElem_cons h2
   rw [hdm,QGq] at hc
   simp +decide -dsimp -implicitDefEqProofs [go_sem,h,h2,hc]
  ·have hdm:m.drop i = []:=List.drop_eq_nil_of_le (by omega)
   rw [hdm,QGq] at hc
   have e2:¬ m.length < l.length:=by omega
   simp +decide -dsimp -implicitDefEqProofs [go_sem,h,h2,hc,e2]
theorem QH4 {p:List UInt8} (h:QAf p = true):QCl p 47 = [] :: QAZ p:=by
 obtain ⟨h1,_⟩:=QBW h
 cases p with
 | nil=>cases h1
 | cons c r=>
  simp only [QCm] at h1
  split at h1
  ·rename_i h2
   obtain ⟨rfl,_⟩:=h2
   simp only [Option.some.injEq] at h1
   rw [QDt] at h1 ⊢
   rw [← h1]
   simp [QCF]
  ·cases h1
theorem QTc (a b:List UInt8) (ha:QAf a = true) (hb:QAf b = true):ACalls Tryz.prog 64 [.str a,.str b] [] (.int .i64 (QFA a b)) []:=by
 obtain ⟨ea,la⟩:=QBW ha
 obtain ⟨eb,lb⟩:=QBW hb
 have ca:=QG7 a 47 (by have:=QBV ha; omega)
 have cb:=QG7 b 47 (by have:=QBV hb; omega)
 rw [QH4 ha] at ca
 rw [QH4 hb] at cb
 have cc:=QNx ([] :: QAZ a) ([] :: QAZ b) (by simp; omega) (by simp; omega)
 have e:QGq ([] :: QAZ a) ([] :: QAZ b) = QFA a b:=by
  rw [QGq,if_pos ((QF5 _ _).2 rfl)]; rfl
 rw [e] at cc
 refine QAH cqq rfl ?_
 refine gs ?_
 refine QAA ca rfl (by simp +decide -dsimp -implicitDefEqProofs [go_sem]) ?_
 refine gs ?_
 refine QAA cb rfl (by simp +decide -dsimp -implicitDefEqProofs [go_sem]) ?_
 refine gs ?_
 refine QAA cc (by simp +decide -dsimp -implicitDefEqProofs [go_sem]) rfl ?_
 simp +decide -dsimp -implicitDefEqProofs [go_sem]
theorem QTd (A x:List UInt8) (hx:47 ∉ x) (hl:(A ++ 47 :: x).length < 1000000):ACalls Tryz.prog 103 [.str (A ++ 47 :: x),.int .u8 47] [] (.int .i64 A.length) []:=by
 have hln:(A ++ 47 :: x).length = A.length + x.length + 1:=by simp; omega
 obtain ⟨s,hs⟩:∃ s,s = A ++ 47 :: x:=⟨_,rfl⟩
 rw [← hs] at hl hln ⊢
 have w0:IntKind.i64.wrap ((s.length:Int) - 1) = ((s.length - 1:Nat):Int):=by rw [w64 (by omega) (by omega)]; omega
 refine QAH cqq rfl ?_
 simp +decide -dsimp -implicitDefEqProofs [go_sem,w0]
 refine QAQ (S:=Nat) (fun i=>⟨tmps 19 [(0,.str s),(1,.int .u8 47),(5,.int .i64 i)],[]⟩) (fun i=>i) (fun i=>A.length ≤ i ∧ i < s.length) (s.length - 1) (by omega) (QAC (by simp) ?_) ?_
 ·simp +decide -dsimp -implicitDefEqProofs [go_sem]
 rintro i ⟨hi,hi2⟩
 have h0:(0:Int) ≤ (i:Int):=by omega
 by_cases e:i = A.length
 ·subst e
  have hc:s[A.length]? = some 47:=by simp [hs]
  simp +decide -dsimp -implicitDefEqProofs [go_sem,h0,hc]
 ·have hc:s[i] ∈ x:=by
   have h1:s[i]? = x[i - A.length - 1]?:=by
    rw [hs,List.getElem?_append_right (by omega)]
    obtain ⟨k,hk⟩:∃ k,i - A.length = k + 1:=⟨i - A.length - 1,by omega⟩
    rw [hk,List.getElem?_cons_succ,Nat.add_sub_cancel]
   rw [List.getElem?_eq_getElem hi2] at h1
   exact List.mem_of_getElem? h1.symm
  have hne:¬ s[i] = 47:=fun e=>hx (e ▸ hc)
  have hne':¬ ((s[i].toNat:Nat):Int) = 47:=fun e2=>hne (UInt8.toNat_inj.1 (by simp; omega))
  have w:IntKind.i64.wrap ((i:Int) - 1) = ((i - 1:Nat):Int):=by rw [w64 (by omega) (by omega)]; omega
  simp +decide -dsimp -implicitDefEqProofs [go_sem,h0,hi2,hne',w]
  refine QAG (i - 1) ⟨by omega,by omega⟩ (by omega) (QAC (by simp) ?_)
  simp +decide -dsimp -implicitDefEqProofs [go_sem]
theorem QTe (A x:List UInt8) (hx:47 ∉ x) (hl:(A ++ 47 :: x).length < 1000000):ACalls Tryz.prog 63 [.str (A ++ 47 :: x),.str [47]] [] (.int .i64 A.length) []:=by
 have c:=QTd A x hx hl
 generalize A ++ 47 :: x = s at c
 refine QAH cqq rfl ?_
 refine gs ?_
 refine QAA c rfl rfl ?_
 simp +decide -dsimp -implicitDefEqProofs [go_sem]
end Go.Ab
namespace Go.Ab
open Go Go.Proofs
set_option maxRecDepth 20000
def QAv (s:RSb):List AV:=[.str s.name,.str s.f.sub,.str s.f.tag,.imm (s.wait.map QAU),.imm (s.sees.map QAT),.bool s.behind]
theorem QEX (k:Nat) (s:RSb):QAB k (QAv s) = true:=by simp [QAv,QAB,QAE,QA8,QAF]
theorem QA1 (k:Nat) (l:List RSb):QAb k (l.map QAv) = true:=QAn fun x _=>QEX k x
def QBA (W:RBus):List AV:=[.imm (W.ready.map QAR),.imm (W.subs.map QAv),.int .i64 W.last]
theorem QDk (k:Nat) (W:RBus):QAB k (QBA W) = true:=by simp [QBA,QAB,QAE,QAM,QA1]
theorem in_c (l:List Txt) (s:Txt) (hl:l.length < 1000000):ACalls Tryz.prog 73 [.imm (l.map QAT),.str s] [] (.bool (decide (s ∈ l))) []:=by
 refine QAH cqq rfl ?_
 refine gs ?_
 refine QAQ (S:=Nat) (fun i=>⟨tmps 18 [(0,.imm (l.map QAT)),(1,.str s),(5,.int .i64 i)],[]⟩) (fun i=>l.length - i) (fun i=>i ≤ l.length ∧ s ∉ l.take i) 0 (by simp) (QAC (by simp) ?_) ?_
 ·simp +decide -dsimp -implicitDefEqProofs [go_sem,QAF]
 intro i ⟨hi,hi2⟩
 by_cases h:i < l.length
 ·have w:IntKind.i64.wrap ((i:Int) + 1) = i + 1:=w64 (by omega) (by omega)
  have s1:QAT l[i] = [.str l[i]]:=rfl
  by_cases he:l[i] = s
  ·have e:s ∈ l:=he ▸ List.getElem_mem h
   simp +decide -dsimp -implicitDefEqProofs [go_sem,h,he,e]
  ·simp +decide -dsimp -implicitDefEqProofs [go_sem,h,s1,he,w]
   refine QAG (i + 1) ⟨h,QKX h he hi2⟩ (by show l.length - (i + 1) < l.length - i; omega) (QAC (by simp) ?_)
   simp +decide -dsimp -implicitDefEqProofs [go_sem,QAF]
 ·have e:i = l.length:=by omega
  rw [e,List.take_length] at hi2
  simp +decide -dsimp -implicitDefEqProofs [go_sem,h,hi2]
theorem QOr {l:List Txt} {s:Txt} {i:Nat} (h:i < l.length):QFQ (l.take (i + 1)) s = QFQ (l.take i) s ++ (if l[i] = s then [] else [l[i]]):=by
 unfold QFQ
 rw [List.take_succ_eq_append_getElem h,List.filter_append]
 by_cases e:l[i] = s <;> simp [e]
theorem QOs (l:List Txt) (s:Txt) (hl:l.length < 1000000):ACalls Tryz.prog 138 [.imm (l.map QAT),.str s] [] (.own 0 (QFQ l s).length) [.reg 9 1 ((QFQ l s).map QAT)]:=by
 refine QER cqq ?_
 refine gs ?_
 refine QAQ (S:=Nat) (fun i=>⟨tmps 27 [(0,.imm (l.map QAT)),(1,.str s),(5,.own 0 (QFQ (l.take i) s).length),(6,.int .i64 i)],[.reg 9 1 ((QFQ (l.take i) s).map QAT)]⟩) (fun i=>l.length - i) (fun i=>i ≤ l.length) 0 (by simp) ((Wk.nilT 5 9 1 rfl (by simp)).trans (QAC (by simp) ?_)) ?_
 ·simp +decide -dsimp -implicitDefEqProofs [go_sem,QAF,QFQ]
 intro i hi
 by_cases h:i < l.length
 ·have w:IntKind.i64.wrap ((i:Int) + 1) = i + 1:=w64 (by omega) (by omega)
  have s1:QAT l[i] = [.str l[i]]:=rfl
  have hst:=QOr (s:=s) h
  have hlen:(QFQ (l.take i) s).length ≤ i:=Nat.le_trans (List.length_filter_le _ _) (by rw [List.length_take]; omega)
  by_cases he:l[i] = s
  ·rw [if_pos he,List.append_nil] at hst
   simp +decide -dsimp -implicitDefEqProofs [go_sem,h,he,w]
   rw [← hst]
   refine QAG (i + 1) (by show i + 1 ≤ l.length; omega) (by show l.length - (i + 1) < l.length - i; omega) (QAC (by simp) ?_)
   simp +decide -dsimp -implicitDefEqProofs [go_sem,QAF]
  ·rw [if_neg he] at hst
   simp +decide -dsimp -implicitDefEqProofs [go_sem,h,s1,he,w,maxLen]
   refine ⟨⟨by omega,by omega⟩,?_⟩
   have ha:(QFQ (l.take i) s).map QAT ++ [[AV.str l[i]]] = (QFQ (l.take (i + 1)) s).map QAT:=by rw [hst]; simp [QAT]
   have hb:(QFQ (l.take i) s).length + 1 = (QFQ (l.take (i + 1)) s).length:=by rw [hst]; simp
   rw [ha,hb]
   refine QAG (i + 1) (by show i + 1 ≤ l.length; omega) (by show l.length - (i + 1) < l.length - i; omega) (QAC (by simp) ?_)
   simp +decide -dsimp -implicitDefEqProofs [go_sem,QAF]
 ·have e:i = l.length:=by omega
  rw [e,List.take_length]
  refine gs ?_
  refine QAj _ _ (Wk.refl _ _) ?_
  simp +decide -dsimp -implicitDefEqProofs [go_sem,QBG]
theorem QKq (W:RBus) (n:Txt) (hl:W.subs.length < 1000000):ACalls Tryz.prog 70 [.agg (QBA W),.str n] [] (.int .i64 (QKp (W.subs.findIdx? fun t=>decide (t.name = n)))) []:=by
 have hcl:=fun k=>QA1 k W.subs
 have hcr:=fun k=>QAM k W.ready
 refine QAH cqq rfl ?_
 unfold QBA
 refine gs ?_
 refine QAQ (S:=Nat) (fun i=>⟨tmps 22 [(1,.str n),(2,.ptr 0 0),(5,.int .i64 i)],[.box 52 [.imm (W.ready.map QAR),.imm (W.subs.map QAv),.int .i64 W.last]]⟩) (fun i=>W.subs.length - i) (fun i=>i ≤ W.subs.length ∧ ∀ t ∈ W.subs.take i,t.name ≠ n) 0 (by simp) (QAC (by simp) ?_) ?_
 ·simp +decide -dsimp -implicitDefEqProofs [go_sem,hcl,hcr]
 intro i ⟨hi,hi2⟩
 by_cases h:i < W.subs.length
 ·have w:IntKind.i64.wrap ((i:Int) + 1) = i + 1:=w64 (by omega) (by omega)
  have s1:QAv W.subs[i] = [.str W.subs[i].name,.str W.subs[i].f.sub,.str W.subs[i].f.tag,.imm (W.subs[i].wait.map QAU),.imm (W.subs[i].sees.map QAT),.bool W.subs[i].behind]:=rfl
  by_cases he:W.subs[i].name = n
  ·have e:W.subs.findIdx? (fun t=>decide (t.name = n)) = some i:=by
    rw [List.findIdx?_eq_some_iff_getElem]
    refine ⟨h,by simpa using he,fun j hj=>?_⟩
    have:=hi2 W.subs[j] (by rw [List.mem_take_iff_getElem]; exact ⟨j,by omega,rfl⟩)
    simpa using this
   rw [e]
   simp +decide -dsimp -implicitDefEqProofs [go_sem,h,s1,he,QKp]
  ·simp +decide -dsimp -implicitDefEqProofs [go_sem,h,s1,he,w]
   refine QAG (i + 1) ⟨h,fun t ht=>?_⟩ (by show W.subs.length - (i + 1) < W.subs.length - i; omega) (QAC (by simp) ?_)
   ·rw [List.take_succ_eq_append_getElem h] at ht
    rcases List.mem_append.1 ht with ht | ht
    ·exact hi2 t ht
    ·rw [List.mem_singleton.1 ht]; exact he
   simp +decide -dsimp -implicitDefEqProofs [go_sem,hcl,hcr]
 ·have e:i = W.subs.length:=by omega
  rw [e,List.take_length] at hi2
  have e2:W.subs.findIdx? (fun t=>decide (t.name = n)) = none:=by
   rw [List.findIdx?_eq_none_iff]
   intro t ht
   simpa using hi2 t ht
  rw [e2]
  simp +decide -dsimp -implicitDefEqProofs [go_sem,h,QKp]
def QNy:List AV:=[.str [],.int .i64 0,.nils,.nils,.nils,.nils,.nils,.str [],.int .i64 0,.str [],.str [],.int .i64 0]
theorem QYz (W:RBus) (p:Txt) (hl:W.ready.length < 1000000):ACalls Tryz.prog 50 [.agg (QBA W),.str p] [] (.tup [.agg (match W.at p with | some r=>QAR r | none=>QNy),.bool (W.at p).isSome]) []:=by
 have hcl:=fun k=>QA1 k W.subs
 have hcr:=fun k=>QAM k W.ready
 refine QAH cqq rfl ?_
 unfold QBA
 refine gs ?_
 refine QAQ (S:=Nat) (fun i=>⟨tmps 28 [(1,.str p),(2,.ptr 0 0),(4,.ptr 1 0),(6,.int .i64 i)],[.box 52 [.imm (W.ready.map QAR),.imm (W.subs.map QAv),.int .i64 W.last],.box 36 QNy]⟩) (fun i=>W.ready.length - i) (fun i=>i ≤ W.ready.length ∧ ∀ r ∈ W.ready.take i,r.path ≠ p) 0 (by simp) (QAC (by simp) ?_) ?_
 ·simp +decide -dsimp -implicitDefEqProofs [go_sem,hcl,hcr,QNy]
 intro i ⟨hi,hi2⟩
 by_cases h:i < W.ready.length
 ·have w:IntKind.i64.wrap ((i:Int) + 1) = i + 1:=w64 (by omega) (by omega)
  have s1:=QAc W.ready[i]
  have hci:=fun k=>QBr k W.ready[i]
  rw [s1] at hci
  by_cases he:W.ready[i].path = p
  ·have e:W.at p = some W.ready[i]:=by
    unfold RBus.at
    have h0:=QGP (q:=fun r:Rcd=>decide (r.path = p)) h (fun r hr=>by simpa using hi2 r hr) (by simpa using he)
    exact h0
   rw [e]
   simp +decide -dsimp -implicitDefEqProofs [go_sem,h,s1,he,QNy]
  ·simp +decide -dsimp -implicitDefEqProofs [go_sem,h,s1,he,w]
   refine QAG (i + 1) ⟨h,fun t ht=>?_⟩ (by show W.ready.length - (i + 1) < W.ready.length - i; omega) (QAC (by simp) ?_)
   ·rw [List.take_succ_eq_append_getElem h] at ht
    rcases List.mem_append.1 ht with ht | ht
    ·exact hi2 t ht
    ·rw [List.mem_singleton.1 ht]; exact he
   simp +decide -dsimp -implicitDefEqProofs [go_sem,hcl,hcr,QNy]
 ·have e:i = W.ready.length:=by omega
  rw [e,List.take_length] at hi2
  have e2:W.at p = none:=by
   unfold RBus.at
   rw [List.find?_eq_none]
   intro r hr
   simpa using hi2 r hr
  rw [e2]
  simp +decide -dsimp -implicitDefEqProofs [go_sem,h,QNy]
end Go.Ab
namespace Go.Ab
open Go Go.Proofs
set_option maxRecDepth 20000
theorem QTf (l:List (Txt × Txt)) (k:Txt) (hl:l.length < 1000000):ACalls Tryz.prog 114 [.imm (l.map QBK),.str k] [] (.tup [.str (QI0 l k),.bool (l.any fun p=>decide (p.1 = k))]) []:=by
 have hcl:=fun k=>QAW k l
 refine QAH cqq rfl ?_
 refine gs ?_
 refine QAQ (S:=Nat) (fun i=>⟨tmps 25 [(0,.imm (l.map QBK)),(1,.str k),(6,.int .i64 i)],[]⟩) (fun i=>l.length - i) (fun i=>i ≤ l.length ∧ ∀ x ∈ l.take i,decide (x.1 = k) = false) 0 (by simp) (QAC (by simp) ?_) ?_
 ·simp +decide -dsimp -implicitDefEqProofs [go_sem,hcl]
 intro i ⟨hi,hi2⟩
 by_cases h:i < l.length
 ·have w:IntKind.i64.wrap ((i:Int) + 1) = i + 1:=w64 (by omega) (by omega)
  have ha:QBK l[i] = [.str l[i].1,.str l[i].2]:=rfl
  by_cases hk:l[i].1 = k
  ·have e:QI0 l k = l[i].2:=by unfold QI0; rw [QGP h hi2 (by simp [hk])]
   have e2:(l.any fun p=>decide (p.1 = k)) = true:=List.any_eq_true.2 ⟨_,List.getElem_mem h,by simpa using hk⟩
   rw [e,e2]
   simp +decide -dsimp -implicitDefEqProofs [go_sem,h,ha,hk]
  ·simp +decide -dsimp -implicitDefEqProofs [go_sem,h,ha,hk,w]
   refine QAG (i + 1) ⟨h,fun x hx=>?_⟩ (by show l.length - (i + 1) < l.length - i; omega) (QAC (by simp) ?_)
   ·rw [List.take_succ_eq_append_getElem h] at hx
    rcases List.mem_append.1 hx with hx | hx
    ·exact hi2 x hx
    ·rw [List.mem_singleton.1 hx]; simp [hk]
   ·simp +decide -dsimp -implicitDefEqProofs [go_sem,hcl]
 ·have e:i = l.length:=by omega
  rw [e,List.take_length] at hi2
  have e2:QI0 l k = []:=by unfold QI0; rw [List.find?_eq_none.2 (fun x hx=>by rw [hi2 x hx]; decide)]
  have e3:(l.any fun p=>decide (p.1 = k)) = false:=List.any_eq_false.2 fun x hx=>by rw [hi2 x hx]; decide
  rw [e2,e3]
  simp +decide -dsimp -implicitDefEqProofs [go_sem,h]
theorem QWh (r:Rcd) (k:Txt) (hl:r.props.length < 1000000):ACalls Tryz.prog 77 [.agg (QAR r),.str k] [] (.str (QI0 r.props k)) []:=by
 have c:=QTf r.props k hl
 have hcl:=fun k=>QAW k r.props
 refine QAH cqq rfl ?_
 rw [QAc r]
 refine gs ?_
 refine QAA c (by simp [QAB,QAE,hcl]) rfl ?_
 simp +decide -dsimp -implicitDefEqProofs [go_sem]
theorem QGD (f:Flt) (r:Rcd) (h1:f.sub.length ≤ 1000) (h2:f.tag.length ≤ 1000) (hr:Ask r):ACalls Tryz.prog 40 [.agg (QBM f),.agg (QAR r)] [] (.bool (QA4 f r)) []:=by
 have cg:=QWh r QEc hr.props
 have cm:=QNP f.sub (QI0 r.props QEc) (by omega) (QNB hr.vals)
 have ct:=fun s (hs:s ∈ r.tags)=>QNP f.tag s (by omega) (hr.tag s hs)
 have hrc:=fun k=>QBr k r
 have hs2:=fun k=>QAF k r.tags
 have htl:=hr.tags
 unfold QA4
 refine QA2 cqq rfl ?_
 unfold QBM
 rw [QAc r] at cg hrc ⊢
 have e0:QEc = [83,85,66,83,89,83,84,69,77]:=rfl
 rw [e0] at cg cm ⊢
 generalize QI0 r.props [83,85,66,83,89,83,84,69,77] = v at cg cm ⊢
 refine gS ?_
 refine gS ?_
 refine QAK cg (by simpa [QAB,QAE] using hrc 0) rfl ?_
 refine gs ?_
 refine QAK cm rfl rfl ?_
 cases QDR f.sub v with
 | false=>
  simp +decide -dsimp -implicitDefEqProofs [go_sem]
 | true=>
  refine gs ?_
  refine gS ?_
  refine QAQ (S:=Nat) (fun i=>⟨tmps 35 [(2,.ptr 0 0),(3,.ptr 1 0),(5,.int .i64 i)],[.box 27 [.str f.sub,.str f.tag],.box 36 (QAR r)]⟩) (fun i=>r.tags.length - i) (fun i=>i ≤ r.tags.length ∧ (f.tag = [] ∨ (r.tags.take i).any (QDR f.tag) = false)) 0 (by simp) (QAC (by simp) ?_) ?_
  ·rw [QAc r]
   simp +decide -dsimp -implicitDefEqProofs [go_sem,hs2]
  intro i ⟨hi,hi2⟩
  rw [QAc r]
  by_cases h:i < r.tags.length
  ·have w:IntKind.i64.wrap ((i:Int) + 1) = i + 1:=w64 (by omega) (by omega)
   have s1:QAT r.tags[i] = [.str r.tags[i]]:=rfl
   have ci:=ct _ (List.getElem_mem h)
   by_cases ht:f.tag = []
   ·simp +decide -dsimp -implicitDefEqProofs [go_sem,h,ht,w]
    refine QAG (i + 1) ⟨h,.inl ht⟩ (by show r.tags.length - (i + 1) < r.tags.length - i; omega) (QAC (by simp) ?_)
    simp +decide -dsimp -implicitDefEqProofs [go_sem,hs2,ht]
   ·simp +decide -dsimp -implicitDefEqProofs [go_sem,h,ht,s1]
    refine QAK ci rfl rfl ?_
    cases hm:QDR f.tag r.tags[i] with
    | true=>
     have e:(r.tags.any (QDR f.tag)) = true:=List.any_eq_true.2 ⟨_,List.getElem_mem h,hm⟩
     rw [e]
     simp +decide -dsimp -implicitDefEqProofs [go_sem,ht]
    | false=>
     simp +decide -dsimp -implicitDefEqProofs [go_sem,w,ht]
     refine QAG (i + 1) ⟨h,.inr ?_⟩ (by show r.tags.length - (i + 1) < r.tags.length - i; omega) (QAC (by simp) ?_)
     ·rw [List.take_succ_eq_append_getElem h,List.any_append,hi2.resolve_left ht]; simp [hm]
     ·simp +decide -dsimp -implicitDefEqProofs [go_sem,hs2]
  ·have e:i = r.tags.length:=by omega
   rw [e,List.take_length] at hi2
   simp +decide -dsimp -implicitDefEqProofs [go_sem,h]
   refine QAD ?_
   by_cases ht:f.tag = []
   ·simp +decide -dsimp -implicitDefEqProofs [go_sem,ht]
   ·have:=hi2.resolve_left ht
    simp +decide -dsimp -implicitDefEqProofs [go_sem,ht,this]
theorem QNz {l:List Rcd} {p:Txt} {i:Nat} (h:i < l.length):QBk (l.take (i + 1)) p = QBk (l.take i) p ++ (if l[i].path = p then [] else [l[i]]):=by
 unfold QBk
 rw [List.take_succ_eq_append_getElem h,List.filter_append]
 by_cases e:l[i].path = p <;> simp [e]
theorem QSm (l:List Rcd) (p:Txt) (hl:l.length < 100000):ACalls Tryz.prog 60 [.imm (l.map QAR),.str p] [] (.own 0 (QBk l p).length) [.reg 36 12 ((QBk l p).map QAR)]:=by
 have hcr:=fun k=>QAM k l
 refine QER cqq ?_
 refine gs ?_
 refine QAQ (S:=Nat) (fun i=>⟨tmps 28 [(0,.imm (l.map QAR)),(1,.str p),(5,.own 0 (QBk (l.take i) p).length),(6,.int .i64 i)],[.reg 36 12 ((QBk (l.take i) p).map QAR)]⟩) (fun i=>l.length - i) (fun i=>i ≤ l.length) 0 (by simp) ((Wk.nilT 5 36 12 rfl (by simp)).trans (QAC (by simp) ?_)) ?_
 ·simp +decide -dsimp -implicitDefEqProofs [go_sem,hcr,QBk]
 intro i hi
 have hcd:=fun k=>QAM k (QBk (l.take i) p)
 by_cases h:i < l.length
 ·have w:IntKind.i64.wrap ((i:Int) + 1) = i + 1:=w64 (by omega) (by omega)
  have s1:=QAc l[i]
  have hst:=QNz (p:=p) h
  have hlen:(QBk (l.take i) p).length ≤ i:=Nat.le_trans (List.length_filter_le _ _) (by rw [List.length_take]; omega)
  by_cases he:l[i].path = p
  ·rw [if_pos he,List.append_nil] at hst
   simp +decide -dsimp -implicitDefEqProofs [go_sem,h,s1,he,w]
   rw [← hst]
   have hcd:=fun k=>QAM k (QBk (l.take (i + 1)) p)
   refine QAG (i + 1) (by show i + 1 ≤ l.length; omega) (by show l.length - (i + 1) < l.length - i; omega) (QAC (by simp) ?_)
   simp +decide -dsimp -implicitDefEqProofs [go_sem,hcr,hcd]
  ·rw [if_neg he] at hst
   have ha:(QBk (l.take i) p).map QAR ++ [QAR l[i]] = (QBk (l.take (i + 1)) p).map QAR:=by rw [hst]; simp
   have hb:(QBk (l.take i) p).length + 1 = (QBk (l.take (i + 1)) p).length:=by rw [hst]; simp
   rw [s1] at ha
   simp +decide -dsimp -implicitDefEqProofs [go_sem,h,s1,he,w,maxLen]
   refine ⟨⟨by omega,by omega⟩,?_⟩
   rw [ha,hb]
   have hcd:=fun k=>QAM k (QBk (l.take (i + 1)) p)
   refine QAG (i + 1) (by show i + 1 ≤ l.length; omega) (by show l.length - (i + 1) < l.length - i; omega) (QAC (by simp) ?_)
   simp +decide -dsimp -implicitDefEqProofs [go_sem,hcr,hcd]
 ·have e:i = l.length:=by omega
  rw [e,List.take_length]
  refine gs ?_
  refine QAj _ _ (Wk.refl _ _) ?_
  simp +decide -dsimp -implicitDefEqProofs [go_sem,QBG]
theorem QOt (a b:List Ntc) (ha:∀ n ∈ a,Fit n.rc) (hb:∀ n ∈ b,Fit n.rc) (hl:a.length < 1000000) (_hm:b.length < 1000000):ACalls Tryz.prog 31 [.imm (a.map QAU),.imm (b.map QAU)] [] (.bool (decide (a = b))) []:=by
 have hca:=fun k=>QA8 k a
 have hcb:=fun k=>QA8 k b
 by_cases hlen:a.length = b.length
 rotate_left
 ·have hlen':¬ (a.length:Int) = b.length:=by omega
  have e:decide (a = b) = false:=decide_eq_false fun h=>hlen (by rw [h])
  rw [e]
  refine QAH cqq rfl ?_
  simp +decide -dsimp -implicitDefEqProofs [go_sem,hlen']
 have hlen':(a.length:Int) = b.length:=by omega
 refine QAH cqq rfl ?_
 simp +decide -dsimp -implicitDefEqProofs [go_sem,hlen']
 refine QAQ (S:=Nat) (fun i=>⟨tmps 55 [(0,.imm (a.map QAU)),(1,.imm (b.map QAU)),(5,.int .i64 i)],[]⟩) (fun i=>a.length - i) (fun i=>i ≤ a.length ∧ a.take i = b.take i) 0 (by simp) (QAC (by simp) ?_) ?_
 ·simp +decide -dsimp -implicitDefEqProofs [go_sem,hca,hcb]
 intro i ⟨hi,hi2⟩
 by_cases h:i < a.length
 ·have h2:i < b.length:=by omega
  have h':(i:Int) < b.length:=by omega
  have w:IntKind.i64.wrap ((i:Int) + 1) = i + 1:=w64 (by omega) (by omega)
  have s1:=QB4 a[i]
  have s2:=QB4 b[i]
  have cr:=QVe a[i].rc b[i].rc (ha _ (List.getElem_mem h)) (hb _ (List.getElem_mem h2))
  rw [QAc,QAc] at cr
  have hne:∀ (h:¬ a[i] = b[i]),decide (a = b) = false:=fun h=>decide_eq_false fun e=>h (by simp only [e])
  by_cases e1:a[i].seq = b[i].seq
  ·by_cases e2:a[i].kind = b[i].kind
   ·simp +decide -dsimp -implicitDefEqProofs [go_sem,h,h',h2,hlen',s1,s2,e1,e2]
    refine QAK cr (by simp [QAB,QAE,QAW,QAF]) rfl ?_
    by_cases e3:a[i].rc = b[i].rc
    ·have e:a[i] = b[i]:=by
      obtain ⟨⟨x1,x2,x3⟩,hx⟩:∃ x,a[i] = x:=⟨_,rfl⟩
      obtain ⟨⟨y1,y2,y3⟩,hy⟩:∃ x,b[i] = x:=⟨_,rfl⟩
      rw [hx,hy] at e1 e2 e3
      simp only at e1 e2 e3
      rw [hx,hy,e1,e2,e3]
     simp +decide -dsimp -implicitDefEqProofs [go_sem,e3,w]
     refine QAG (i + 1) ⟨h,by rw [List.take_succ_eq_append_getElem h,List.take_succ_eq_append_getElem h2,hi2,e]⟩ (by show a.length - (i + 1) < a.length - i; omega) (QAC (by simp) ?_)
     simp +decide -dsimp -implicitDefEqProofs [go_sem,hca,hcb]
    ·rw [hne (fun e=>e3 (by rw [e]))]
     simp +decide -dsimp -implicitDefEqProofs [go_sem,e3]
   ·rw [hne (fun e=>e2 (by rw [e]))]
    simp +decide -dsimp -implicitDefEqProofs [go_sem,h,h',h2,hlen',s1,s2,e1,e2]
  ·rw [hne (fun e=>e1 (by rw [e]))]
   simp +decide -dsimp -implicitDefEqProofs [go_sem,h,h',h2,hlen',s1,s2,e1]
 ·have e:i = a.length:=by omega
  have e2:a = b:=by
   rw [e,List.take_length,hlen,List.take_length] at hi2
   exact hi2
  have h':¬ (i:Int) < b.length:=by omega
  rw [decide_eq_true e2]
  simp +decide -dsimp -implicitDefEqProofs [go_sem,h',hlen']
end Go.Ab
namespace Go.Ab
open Go Go.Proofs
set_option maxRecDepth 20000
theorem QCJ (s:RSb):QAv s = [.str s.name,.str s.f.sub,.str s.f.tag,.imm (s.wait.map QAU),.imm (s.sees.map QAT),.bool s.behind]:=rfl
def QEx (n:Ntc) (s:RSb):List Txt:=QFQ s.sees n.rc.path ++ (if n.kind = 1 then [n.rc.path] else [])
theorem QSn (s:RSb) (n:Ntc) (hl:s.sees.length < 100000) (hw:s.wait.length ≤ 64):ACalls Tryz.prog 99 [.agg (QAv s),.agg (QAU n)] [] (.agg (QAv (QCX n s))) []:=by
 have cw:=QOs s.sees n.rc.path (by omega)
 have hwl:(QFQ s.sees n.rc.path).length ≤ s.sees.length:=List.length_filter_le _ _
 have hcn:=fun k=>QA8 k s.wait
 have hcr:=fun k=>QKg k n
 have hsr:=fun is l=>QCU is l
 refine QA2 cqq rfl ?_
 rw [QCJ s,QB4 n]
 rw [QB4 n] at hcr
 refine gS ?_
 unfold goE
 refine QAP ⟨tmps 41 [(2,.ptr 0 0),(3,.ptr 1 0),(4,.ptr 2 0)],[.box 117 [.str s.name,.str s.f.sub,.str s.f.tag,.imm (s.wait.map QAU),.own 3 (QFQ s.sees n.rc.path).length,.bool s.behind],.box 39 (QAU n),.box 117 [.str [],.str [],.str [],.nils,.nils,.bool false],.reg 9 1 ((QFQ s.sees n.rc.path).map QAT)]⟩ (QAD ?_) ?_
 ·simp +decide -dsimp -implicitDefEqProofs [go_sem]
  refine QLd cw (by simp [QAB,QAE,QAF]) (by simp [QBt,ren,hsr]) (hsr _ _) ?_
  refine gs ?_
  refine QAN (by simp) ?_
  rw [QB4 n]
  simp +decide -dsimp -implicitDefEqProofs [go_sem,hcn,QAF]
 refine QAP ⟨tmps 41 [(2,.ptr 0 0),(3,.ptr 1 0),(4,.ptr 2 0)],[.box 117 [.str s.name,.str s.f.sub,.str s.f.tag,.imm (s.wait.map QAU),.own 3 (QEx n s).length,.bool s.behind],.box 39 (QAU n),.box 117 [.str [],.str [],.str [],.nils,.nils,.bool false],.reg 9 1 ((QEx n s).map QAT)]⟩ (QAD ?_) ?_
 ·rw [QB4 n]
  by_cases hk:n.kind = 1
  ·have e:QEx n s = QFQ s.sees n.rc.path ++ [n.rc.path]:=by simp [QEx,hk]
   have ha:(QFQ s.sees n.rc.path).map QAT ++ [[AV.str n.rc.path]] = (QEx n s).map QAT:=by rw [e]; simp [QAT]
   have hb:(QFQ s.sees n.rc.path).length + 1 = (QEx n s).length:=by rw [e]; simp
   simp +decide -dsimp -implicitDefEqProofs [go_sem,hk,maxLen]
   refine ⟨⟨by omega,by omega⟩,?_⟩
   rw [ha,hb]
   refine QAN (by simp) ?_
   simp +decide -dsimp -implicitDefEqProofs [go_sem,hcn,QAF]
  ·have e:QEx n s = QFQ s.sees n.rc.path:=by simp [QEx,hk]
   rw [e]
   simp +decide -dsimp -implicitDefEqProofs [go_sem,hk]
   refine QAN (by simp) ?_
   simp +decide -dsimp -implicitDefEqProofs [go_sem,hcn,QAF]
 have er:QCX n s = if s.behind then { s with sees:=QEx n s } else if s.wait.length = 64 then { s with sees:=QEx n s,wait:=[],behind:=true } else { s with sees:=QEx n s,wait:=s.wait ++ [n] }:=rfl
 generalize QEx n s = se at er
 rw [QB4 n]
 cases hb:s.behind with
 | true=>
  rw [hb,if_pos rfl] at er
  rw [er,QCJ]
  refine QAD ?_
  simp +decide -dsimp -implicitDefEqProofs [go_sem,hcn,QAF]
 | false=>
  rw [hb] at er
  simp only [Bool.false_eq_true,if_false] at er
  by_cases h64:s.wait.length = 64
  ·rw [if_pos h64] at er
   rw [er,QCJ]
   have h64':(s.wait.length:Int) = 64:=by omega
   refine QAD ?_
   simp +decide -dsimp -implicitDefEqProofs [go_sem,h64,QAF]
  ·rw [if_neg h64] at er
   rw [er,QCJ]
   have h64':¬ (s.wait.length:Int) = 64:=by omega
   have ha:s.wait.map QAU ++ [QAU n] = (s.wait ++ [n]).map QAU:=by simp
   have hl14:∀ r ∈ s.wait.map QAU,r.length = 14:=fun r hr=>by obtain ⟨x,_,rfl⟩:=List.mem_map.1 hr; rfl
   rw [QB4 n] at ha
   refine QAD ?_
   simp +decide -dsimp -implicitDefEqProofs [go_sem,h64',maxLen]
   exact ⟨fun _ _=>rfl,⟨by omega,by omega⟩,⟨by omega,by omega⟩,rfl,hcn 0,QKg 0 n⟩
end Go.Ab
namespace Go.Ab
open Go Go.Proofs
set_option maxRecDepth 20000
structure RbOk (W:RBus) (n:Nat):Prop where
 fl:∀ t ∈ W.subs,t.f.sub.length ≤ 1000 ∧ t.f.tag.length ≤ 1000
 sl:∀ t ∈ W.subs,t.sees.length ≤ n
 wl:∀ t ∈ W.subs,t.wait.length ≤ 64
 wr:∀ t ∈ W.subs,∀ m ∈ t.wait,QAk m.rc = true
 nl:W.subs.length ≤ 16
 rs:∀ r ∈ W.ready,QAk r = true
 rl:W.ready.length ≤ n
 q0:0 ≤ W.last
 q1:W.last ≤ n
theorem RbOk.nil:RbOk ⟨[],[],0⟩ 0:=⟨by simp,by simp,by simp,by simp,by simp,by simp,by simp,Int.le_refl _,Int.le_refl _⟩
theorem RbOk.le {W:RBus} {n n':Nat} (h:RbOk W n) (hn:n ≤ n'):RbOk W n':=⟨h.fl,fun t ht=>Nat.le_trans (h.sl t ht) hn,h.wl,h.wr,h.nl,h.rs,Nat.le_trans h.rl hn,h.q0,by have:=h.q1; omega⟩
theorem QOu (n:Ntc) (s:RSb):(QEx n s).length ≤ s.sees.length + 1:=by
 unfold QEx
 rw [List.length_append]
 have:(QFQ s.sees n.rc.path).length ≤ s.sees.length:=List.length_filter_le _ _
 split <;> simp <;> omega
theorem QMu (n:Ntc) (s:RSb) (hn:QAk n.rc = true) (hw:s.wait.length ≤ 64) (hr:∀ m ∈ s.wait,QAk m.rc = true):(QCX n s).f = s.f ∧ (QCX n s).sees.length ≤ s.sees.length + 1 ∧ (QCX n s).wait.length ≤ 64 ∧ ∀ m ∈ (QCX n s).wait,QAk m.rc = true:=by
 have hse:=QOu n s
 have er:QCX n s = if s.behind then { s with sees:=QEx n s } else if s.wait.length = 64 then { s with sees:=QEx n s,wait:=[],behind:=true } else { s with sees:=QEx n s,wait:=s.wait ++ [n] }:=rfl
 rw [er]
 split
 ·exact ⟨rfl,hse,hw,hr⟩
 ·split
  ·exact ⟨rfl,hse,by simp,by simp⟩
  ·refine ⟨rfl,hse,by simp; omega,fun m hm=>?_⟩
   rcases List.mem_append.1 hm with hm | hm
   ·exact hr m hm
   ·rw [List.mem_singleton.1 hm]; exact hn
theorem QGE (q:Int) (r:Rcd) (b:Bool) (s:RSb) (hn:QAk r = true) (hw:s.wait.length ≤ 64) (hr:∀ m ∈ s.wait,QAk m.rc = true):(QAp q r b s).f = s.f ∧ (QAp q r b s).sees.length ≤ s.sees.length + 1 ∧ (QAp q r b s).wait.length ≤ 64 ∧ ∀ m ∈ (QAp q r b s).wait,QAk m.rc = true:=by
 unfold QAp
 split
 ·exact QMu _ s hn hw hr
 ·split
  ·exact QMu _ s hn hw hr
  ·exact ⟨rfl,Nat.le_succ _,hw,hr⟩
theorem RbOk.tell {W:RBus} {n:Nat} (h:RbOk W n) (L:List Rcd) (r:Rcd) (b:Bool) (hr:QAk r = true) (hL:∀ x ∈ L,QAk x = true) (hl:L.length ≤ n + 1):RbOk (({ W with ready:=L }:RBus).tell r b) (n + 1):=by
 have key:∀ t ∈ (({ W with ready:=L }:RBus).tell r b).subs,∃ s ∈ W.subs,t = QAp (W.last + 1) r b s:=fun t ht=>by
  obtain ⟨s,hs,e⟩:=List.mem_map.1 ht
  exact ⟨s,hs,e.symm⟩
 refine ⟨fun t ht=>?_,fun t ht=>?_,fun t ht=>?_,fun t ht=>?_,?_,hL,hl,?_,?_⟩
 ·obtain ⟨s,hs,rfl⟩:=key t ht
  rw [(QGE _ r b s hr (h.wl s hs) (h.wr s hs)).1]; exact h.fl s hs
 ·obtain ⟨s,hs,rfl⟩:=key t ht
  have:=(QGE (W.last + 1) r b s hr (h.wl s hs) (h.wr s hs)).2.1
  have:=h.sl s hs
  omega
 ·obtain ⟨s,hs,rfl⟩:=key t ht
  exact (QGE _ r b s hr (h.wl s hs) (h.wr s hs)).2.2.1
 ·obtain ⟨s,hs,rfl⟩:=key t ht
  exact (QGE _ r b s hr (h.wl s hs) (h.wr s hs)).2.2.2
 ·show (W.subs.map _).length ≤ 16
  rw [List.length_map]; exact h.nl
 ·show 0 ≤ W.last + 1
  have:=h.q0; omega
 ·show W.last + 1 ≤ ((n + 1:Nat):Int)
  have:=h.q1; omega
theorem QSo (W:RBus) (r:Rcd) (b:Bool) {n:Nat} (h:RbOk W n) (hn:n ≤ 1000) (hr:QAk r = true):ACalls Tryz.prog 61 [.agg (QBA W),.agg (QAR r),.bool b] [] (.agg (QBA (W.tell r b))) []:=by
 have hcl:=fun k=>QA1 k W.subs
 have hcr:=fun k=>QAM k W.ready
 have hrc:=fun k=>QBr k r
 have hask:=QJC hr
 have w1:IntKind.i64.wrap (W.last + 1) = W.last + 1:=w64 (by have:=h.q0; omega) (by have:=h.q1; omega)
 have eT:QBA (W.tell r b) = [.imm (W.ready.map QAR),.imm ((W.subs.map (QAp (W.last + 1) r b)).map QAv),.int .i64 (W.last + 1)]:=rfl
 rw [eT]
 refine QA2 cqq rfl ?_
 unfold QBA
 rw [QAc r] at hrc ⊢
 refine gS ?_
 refine QBU ?_
 simp +decide -dsimp -implicitDefEqProofs [go_sem,w1]
 refine gS ?_
 refine gS ?_
 have nl:=h.nl
 refine QBH (S:=Nat) (fun i=>⟨tmps 59 [(2,.bool b),(3,.ptr 0 0),(4,.ptr 1 0),(6,.ptr 2 0),(7,.own 3 i),(8,.int .i64 i)],[.box 52 [.imm (W.ready.map QAR),.imm (W.subs.map QAv),.int .i64 (W.last + 1)],.box 36 (QAR r),.box 52 [.nils,.nils,.int .i64 0],.reg 117 6 (((W.subs.take i).map (QAp (W.last + 1) r b)).map QAv)]⟩) (fun i=>W.subs.length - i) (fun i=>i ≤ W.subs.length) 0 (Nat.zero_le _) ((Wk.nilT 7 117 6 rfl (by simp)).trans (QAC (by simp) ?_)) ?_
 ·rw [QAc r]
  simp +decide -dsimp -implicitDefEqProofs [go_sem,hcl,hcr]
 intro i hi
 rw [QAc r]
 obtain ⟨A,hA⟩:∃ A,A = ((W.subs.take i).map (QAp (W.last + 1) r b)).map QAv:=⟨_,rfl⟩
 have hAl:A.length = i:=by rw [hA,List.length_map,List.length_map,List.length_take]; omega
 have hAc:=fun k=>QA1 k ((W.subs.take i).map (QAp (W.last + 1) r b))
 simp only [← hA] at hAc ⊢
 by_cases hlt:i < W.subs.length
 ·have hm:W.subs[i] ∈ W.subs:=List.getElem_mem hlt
  obtain ⟨t,ht⟩:∃ t,t = W.subs[i]:=⟨_,rfl⟩
  have s1:(W.subs.map QAv)[i]'(by simpa using hlt) = QAv t:=by rw [List.getElem_map,ht]
  rw [← ht] at hm
  have w:IntKind.i64.wrap ((i:Int) + 1) = i + 1:=w64 (by omega) (by omega)
  have cw:=QGD t.f r (h.fl t hm).1 (h.fl t hm).2 hask
  have c1:=QSn t ⟨W.last + 1,1,r⟩ (by have:=h.sl t hm; omega) (h.wl t hm)
  have c2:=QSn t ⟨W.last + 1,2,r⟩ (by have:=h.sl t hm; omega) (h.wl t hm)
  have ci:=in_c t.sees r.path (by have:=h.sl t hm; omega)
  have hst:A ++ [QAv (QAp (W.last + 1) r b t)] = ((W.subs.take (i + 1)).map (QAp (W.last + 1) r b)).map QAv:=by
   rw [hA,List.take_succ_eq_append_getElem hlt,List.map_append,List.map_append,ht]; rfl
  have hAc2:=fun k=>QA1 k ((W.subs.take (i + 1)).map (QAp (W.last + 1) r b))
  obtain ⟨A2,hA2⟩:∃ A2,A2 = ((W.subs.take (i + 1)).map (QAp (W.last + 1) r b)).map QAv:=⟨_,rfl⟩
  rw [← hA2] at hst
  simp only [← hA2] at hAc2
  have hcs1:=QEX 0 (QCX ⟨W.last + 1,1,r⟩ t)
  have hcs2:=QEX 0 (QCX ⟨W.last + 1,2,r⟩ t)
  have hct:=fun k=>QEX k t
  rw [QCJ] at s1 c1 c2 hct
  rw [QB4] at c1 c2
  rw [QAc] at cw
  unfold QBM at cw
  have e1:=QCJ (QCX ⟨W.last + 1,1,r⟩ t)
  have e2:=QCJ (QCX ⟨W.last + 1,2,r⟩ t)
  have sat:∀ j (h:j < (W.subs.map QAv).length),j = i → (W.subs.map QAv)[j]'h = [.str t.name,.str t.f.sub,.str t.f.tag,.imm (t.wait.map QAU),.imm (t.sees.map QAT),.bool t.behind]:=fun j h e=>by subst e; exact s1
  have s1':QAv W.subs[i] = [.str t.name,.str t.f.sub,.str t.f.tag,.imm (t.wait.map QAU),.imm (t.sees.map QAT),.bool t.behind]:=by rw [← ht]; exact QCJ t
  have hx:∀ x,(A ++ [x]).length = i + 1:=fun x=>by simp [hAl]
  refine QAD ?_
  cases b with
  | true=>
   simp +decide -dsimp -implicitDefEqProofs [go_sem,hlt,s1']
   refine QAA cw (by simpa [QAB,QAE] using hrc 0) rfl ?_
   cases hwn:QA4 t.f r with
   | true=>
    have et:QAp (W.last + 1) r true t = QCX ⟨W.last + 1,1,r⟩ t:=by simp [QAp,hwn]
    rw [et,e1] at hst
    rw [e1] at c1 hcs1
    refine gs ?_
    refine QAA c1 (by simp [QAB,QAE,QAW,QAF,QA8]) (by rw [QAE]; exact hcs1) ?_
    simp +decide -dsimp -implicitDefEqProofs [go_sem,hAl,maxLen,w]
    refine ⟨⟨by omega,by omega⟩,?_⟩
    rw [hst]
    refine QAG (S:=Nat) (i + 1) hlt (by show W.subs.length - (i + 1) < W.subs.length - i; omega) (QAC (by simp) ?_)
    rw [← hA2]
    simp +decide -dsimp -implicitDefEqProofs [go_sem,hcl,hcr,hAc2]
   | false=>
    refine gs ?_
    refine QAA ci (by simp [QAB,QAE,QAF]) rfl ?_
    by_cases hin:r.path ∈ t.sees
    ·have et:QAp (W.last + 1) r true t = QCX ⟨W.last + 1,2,r⟩ t:=by simp [QAp,hin,hwn]
     rw [decide_eq_true hin]
     rw [et,e2] at hst
     rw [e2] at c2 hcs2
     refine gs ?_
     refine QAA c2 (by simp [QAB,QAE,QAW,QAF,QA8]) (by rw [QAE]; exact hcs2) ?_
     simp +decide -dsimp -implicitDefEqProofs [go_sem,hAl,maxLen,w]
     refine ⟨⟨by omega,by omega⟩,?_⟩
     rw [hst]
     refine QAG (S:=Nat) (i + 1) hlt (by show W.subs.length - (i + 1) < W.subs.length - i; omega) (QAC (by simp) ?_)
     rw [← hA2]
     simp +decide -dsimp -implicitDefEqProofs [go_sem,hcl,hcr,hAc2]
    ·have et:QAp (W.last + 1) r true t = t:=by simp [QAp,hin,hwn]
     rw [decide_eq_false hin]
     rw [et,QCJ] at hst
     simp +decide -dsimp -implicitDefEqProofs [go_sem,hAl,maxLen,w]
     refine ⟨⟨by omega,by omega⟩,?_⟩
     rw [hst]
     refine QAG (S:=Nat) (i + 1) hlt (by show W.subs.length - (i + 1) < W.subs.length - i; omega) (QAC (by simp) ?_)
     rw [← hA2]
     simp +decide -dsimp -implicitDefEqProofs [go_sem,hcl,hcr,hAc2]
  | false=>
   simp +decide -dsimp -implicitDefEqProofs [go_sem,hlt,s1']
   refine QAA ci (by simp [QAB,QAE,QAF]) rfl ?_
   by_cases hin:r.path ∈ t.sees
   ·have et:QAp (W.last + 1) r false t = QCX ⟨W.last + 1,2,r⟩ t:=by simp [QAp,hin]
    rw [decide_eq_true hin]
    rw [et,e2] at hst
    rw [e2] at c2 hcs2
    refine gs ?_
    refine QAA c2 (by simp [QAB,QAE,QAW,QAF,QA8]) (by rw [QAE]; exact hcs2) ?_
    simp +decide -dsimp -implicitDefEqProofs [go_sem,hAl,maxLen,w]
    refine ⟨⟨by omega,by omega⟩,?_⟩
    rw [hst]
    refine QAG (S:=Nat) (i + 1) hlt (by show W.subs.length - (i + 1) < W.subs.length - i; omega) (QAC (by simp) ?_)
    rw [← hA2]
    simp +decide -dsimp -implicitDefEqProofs [go_sem,hcl,hcr,hAc2]
   ·have et:QAp (W.last + 1) r false t = t:=by simp [QAp,hin]
    rw [decide_eq_false hin]
    rw [et,QCJ] at hst
    simp +decide -dsimp -implicitDefEqProofs [go_sem,hAl,maxLen,w]
    refine ⟨⟨by omega,by omega⟩,?_⟩
    rw [hst]
    refine QAG (S:=Nat) (i + 1) hlt (by show W.subs.length - (i + 1) < W.subs.length - i; omega) (QAC (by simp) ?_)
    rw [← hA2]
    simp +decide -dsimp -implicitDefEqProofs [go_sem,hcl,hcr,hAc2]
 ·have e:i = W.subs.length:=by omega
  subst e
  rw [List.take_length] at hA
  refine QAD ?_
  refine gs ?_
  refine QAD ?_
  refine gs ?_
  have hfin:=fun k=>QA1 k (W.subs.map (QAp (W.last + 1) r b))
  rw [List.map_map] at hfin
  exact ⟨hcr 0,by rw [hA,List.map_map],hfin 0⟩
end Go.Ab
namespace Go.Ab
open Go Go.Proofs
set_option maxRecDepth 20000
theorem QY0 (W:RBus) (n:Txt):(W.subs.findIdx? fun t=>decide (t.name = n)).isSome = (W.find n).isSome:=by
 unfold RBus.find
 rw [List.findIdx?_isSome,Bool.eq_iff_iff,List.any_eq_true,List.find?_isSome]
theorem QJp {W:RBus} {n:Txt} {i:Nat} (h:W.subs.findIdx? (fun t=>decide (t.name = n)) = some i):∃ hi:i < W.subs.length,W.find n = some W.subs[i] ∧ W.subs[i].name = n ∧ ∀ j (_:j < i),∀ hj:j < W.subs.length,W.subs[j].name ≠ n:=by
 rw [List.findIdx?_eq_some_iff_getElem] at h
 obtain ⟨hi,h1,h2⟩:=h
 refine ⟨hi,?_,by simpa using h1,fun j hj hl=>by simpa using h2 j hj⟩
 unfold RBus.find
 exact QGP (q:=fun t:RSb=>decide (t.name = n)) hi (fun x hx=>by
  rw [List.mem_take_iff_getElem] at hx
  obtain ⟨j,hj,rfl⟩:=hx
  simpa using h2 j (by omega)) h1
theorem QOv:∀ {l:List RSb} {n:Txt} {i:Nat} (hi:i < l.length),l[i].name = n → (∀ j (_:j < i),∀ hj:j < l.length,l[j].name ≠ n) → QGI n l = l.take i ++ l.drop (i + 1)
 | [],_,_,hi,_,_=>by simp at hi
 | t :: l,n,0,hi,h,_=>by simp at h; simp [QGI,h]
 | t :: l,n,i + 1,hi,h,h2=>by
  have h0:t.name ≠ n:=h2 0 (by omega) (by simp)
  unfold QGI
  rw [if_neg h0,QOv (i:=i) (by simpa using hi) (by simpa using h) (fun j hj hl=>h2 (j + 1) (by omega) (by simpa using hl))]
  rfl
theorem QOw:∀ {l:List RSb} {n:Txt} {x:RSb} {i:Nat} (hi:i < l.length),l[i].name = n → (∀ j (_:j < i),∀ hj:j < l.length,l[j].name ≠ n) → QEF n x l = l.set i x
 | [],_,_,_,hi,_,_=>by simp at hi
 | t :: l,n,x,0,hi,h,_=>by simp at h; simp [QEF,h]
 | t :: l,n,x,i + 1,hi,h,h2=>by
  have h0:t.name ≠ n:=h2 0 (by omega) (by simp)
  unfold QEF
  rw [if_neg h0,QOw (i:=i) (by simpa using hi) (by simpa using h) (fun j hj hl=>h2 (j + 1) (by omega) (by simpa using hl))]
  rfl
theorem len6 (l:List RSb):∀ r ∈ l.map QAv,r.length = 6:=fun r hr=>by obtain ⟨x,_,rfl⟩:=List.mem_map.1 hr; rfl
theorem QFN {α:Type} {f:α → List AV} (h:∀ x,nzL (f x) = f x):∀ l:List α,QKk (l.map f) = l.map f
 | []=>rfl
 | x :: l=>by rw [List.map_cons,QKk,h,QFN h l]
theorem QMv (l:List Txt):QKk (l.map QAT) = l.map QAT:=QFN (fun _=>rfl) l
theorem QQy (l:List (Txt × Txt)):QKk (l.map QBK) = l.map QBK:=QFN (fun _=>rfl) l
theorem QOx (r:Rcd):nzL (QAR r) = QAR r:=by simp [QAR,nzL,nz,QMv,QQy]
theorem QCp (l:List Rcd):QKk (l.map QAR) = l.map QAR:=QFN QOx l
theorem QQz (n:Ntc):nzL (QAU n) = QAU n:=by simp [QAU,nzL,nz,QOx]
theorem QOy (l:List Ntc):QKk (l.map QAU) = l.map QAU:=QFN QQz l
theorem QQ0 (s:RSb):nzL (QAv s) = QAv s:=by simp [QAv,nzL,nz,QOy,QMv]
theorem QCA (l:List RSb):QKk (l.map QAv) = l.map QAv:=QFN QQ0 l
theorem QMw:∀ (a b:List (List AV)),QKk (a ++ b) = QKk a ++ QKk b
 | [],_=>rfl
 | x :: a,b=>by rw [List.cons_append,QKk,QKk,QMw a b]; rfl
theorem ACalls.nzT {P:Program} {f:Nat} {ys xs:List AV} {H H':List AObj} (h:ACalls P f ys H (.tup xs) H'):ACalls P f ys H (.tup (nzL xs)) H':=
 ⟨h.1,fun c vs hH hr hv=>(h.2 c vs hH hr hv).mono fun e w' hq=>by
  obtain ⟨v,ce,h1,h2,h4,h5,h6,h7⟩:=hq
  refine ⟨v,ce,h1,h2,h4,h5,h6,?_⟩
  simp only [Val] at h7 ⊢
  obtain ⟨us,h8,h9⟩:=h7
  exact ⟨us,h8,QIr _ _ h9⟩⟩
theorem QQ1 (W:RBus) (name:Txt) (f:Flt) {n:Nat} (h:RbOk W n) (hf:f.sub.length ≤ 1000 ∧ f.tag.length ≤ 1000) (v1:QAe name = true) (v2:QCD f.sub = 0) (vt:f.tag = [] ∨ (f.tag ≠ [] ∧ QCD f.tag = 0)) (hx:W.subs.findIdx? (fun t=>decide (t.name = name)) = none) (v6:¬ 16 ≤ W.subs.length):
  ACalls Tryz.prog 39 [.agg (QBA W),.str name,.agg (QBM f)] [] (.tup [.agg (QBA { W with subs:=W.subs ++ [⟨name,f,[],[],true⟩] }),.int .i64 0]) []:=by
 have hcl:=fun k=>QA1 k W.subs
 have hcr:=fun k=>QAM k W.ready
 have cv:=QEk name
 have c1:=QGU f.sub (by omega)
 have c2:=QGU f.tag (by omega)
 have nl:=h.nl
 have cf:=QKq W name (by omega)
 have hl6:=len6 W.subs
 rw [hx] at cf
 unfold QKp at cf
 simp only at cf
 have v6':¬ (16:Int) ≤ W.subs.length:=by omega
 have key:ACalls Tryz.prog 39 [.agg (QBA W),.str name,.agg (QBM f)] [] (.tup [.agg [.imm (W.ready.map QAR),.imm (W.subs.map QAv ++ [[.str name,.str f.sub,.str f.tag,.nils,.nils,.bool true]]),.int .i64 W.last],.int .i64 0]) []:=by
  refine QAH cqq rfl ?_
  unfold QBA at cf ⊢
  unfold QBM
  refine gs ?_
  refine QAA cv rfl rfl ?_
  simp +decide -dsimp -implicitDefEqProofs [go_sem,v1]
  refine QAA c1 rfl rfl ?_
  rcases vt with v4 | ⟨v4,v5⟩
  ·simp +decide -dsimp -implicitDefEqProofs [go_sem,v2,v4]
   refine QAA cf (by simp [QAB,QAE,hcl,hcr]) rfl ?_
   simp +decide -dsimp -implicitDefEqProofs [go_sem,v4,v6',maxLen]
   exact ⟨fun _ _=>rfl,⟨by omega,by omega⟩,⟨by omega,by omega⟩,hcr 0,hcl 0⟩
  ·simp +decide -dsimp -implicitDefEqProofs [go_sem,v2,v4]
   refine QAA c2 rfl rfl ?_
   simp +decide -dsimp -implicitDefEqProofs [go_sem,v4,v5]
   refine QAA cf (by simp [QAB,QAE,hcl,hcr]) rfl ?_
   simp +decide -dsimp -implicitDefEqProofs [go_sem,v6',maxLen]
   exact ⟨fun _ _=>rfl,⟨by omega,by omega⟩,⟨by omega,by omega⟩,hcr 0,hcl 0⟩
 have h2:=key.nzT
 have e:nz (.agg [.imm (W.ready.map QAR),.imm (W.subs.map QAv ++ [[.str name,.str f.sub,.str f.tag,.nils,.nils,.bool true]]),.int .i64 W.last]) = .agg (QBA { W with subs:=W.subs ++ [⟨name,f,[],[],true⟩] }):=by
  simp [nz,nzL,QKk,QMw,QCp,QCA,QBA,QAv]
 simp only [nzL,nz] at h2
 simp only [nzL,nz] at e
 rw [e] at h2
 exact h2
theorem QOz (W:RBus) (name:Txt) (f:Flt) {n:Nat} (h:RbOk W n) (hf:f.sub.length ≤ 1000 ∧ f.tag.length ≤ 1000):ACalls Tryz.prog 39 [.agg (QBA W),.str name,.agg (QBM f)] [] (.tup [.agg (QBA (W.subR name f).1),.int .i64 (W.subR name f).2]) []:=by
 have hcl:=fun k=>QA1 k W.subs
 have hcr:=fun k=>QAM k W.ready
 have cv:=QEk name
 have c1:=QGU f.sub (by omega)
 have c2:=QGU f.tag (by omega)
 have nl:=h.nl
 have cf:=QKq W name (by omega)
 have hfi:=QY0 W name
 by_cases hok:QAe name = true ∧ QCD f.sub = 0 ∧ (f.tag = [] ∨ (f.tag ≠ [] ∧ QCD f.tag = 0)) ∧ W.subs.findIdx? (fun t=>decide (t.name = name)) = none ∧ ¬ 16 ≤ W.subs.length
 ·obtain ⟨v1,v2,vt,hx,v6⟩:=hok
  have hno:¬ (QCD f.sub ≠ 0 ∨ (f.tag ≠ [] ∧ QCD f.tag ≠ 0)):=fun e=>e.elim (fun e=>e v2) fun e=>vt.elim (fun e'=>e.1 e') fun e'=>e.2 e'.2
  have hni:¬ (W.find name).isSome = true:=by rw [← hfi,hx]; simp
  have e:W.subR name f = ({ W with subs:=W.subs ++ [⟨name,f,[],[],true⟩] },0):=by unfold RBus.subR; rw [if_pos v1,if_neg hno,if_neg hni,if_neg v6]
  rw [e]
  exact QQ1 W name f h hf v1 v2 vt hx v6
 refine QAH cqq rfl ?_
 unfold QBA at cf ⊢
 unfold QBM
 refine gs ?_
 refine QAA cv rfl rfl ?_
 by_cases v1:QAe name = true
 rotate_left
 ·have e:W.subR name f = (W,300):=by unfold RBus.subR; rw [if_neg v1]
  rw [e]
  simp +decide -dsimp -implicitDefEqProofs [go_sem,v1,hcl,hcr]
 simp +decide -dsimp -implicitDefEqProofs [go_sem,v1]
 refine QAA c1 rfl rfl ?_
 by_cases v2:QCD f.sub = 0
 rotate_left
 ·have e:W.subR name f = (W,301):=by unfold RBus.subR; rw [if_pos v1,if_pos (.inl v2)]
  rw [e]
  simp +decide -dsimp -implicitDefEqProofs [go_sem,v2,hcl,hcr]
 by_cases v3:f.tag ≠ [] ∧ QCD f.tag ≠ 0
 ·have e:W.subR name f = (W,301):=by unfold RBus.subR; rw [if_pos v1,if_pos (.inr v3)]
  rw [e]
  obtain ⟨v3,v4⟩:=v3
  simp +decide -dsimp -implicitDefEqProofs [go_sem,v2,v3]
  refine QAA c2 rfl rfl ?_
  simp +decide -dsimp -implicitDefEqProofs [go_sem,v3,v4,hcl,hcr]
 have hno:¬ (QCD f.sub ≠ 0 ∨ (f.tag ≠ [] ∧ QCD f.tag ≠ 0)):=fun e=>e.elim (fun e=>e v2) v3
 have vt:f.tag = [] ∨ (f.tag ≠ [] ∧ QCD f.tag = 0):=by
  by_cases e:f.tag = []
  ·exact .inl e
  ·exact .inr ⟨e,Decidable.byContradiction fun e'=>v3 ⟨e,e'⟩⟩
 cases hx:W.subs.findIdx? (fun t=>decide (t.name = name)) with
 | some i=>
  rw [hx] at hfi cf
  have e:W.subR name f = (W,302):=by unfold RBus.subR; rw [if_pos v1,if_neg hno,if_pos (by rw [← hfi]; rfl)]
  rw [e]
  have hi0:(0:Int) ≤ (i:Int):=by omega
  unfold QKp at cf
  simp only at cf
  rcases vt with v4 | ⟨v4,v5⟩
  ·simp +decide -dsimp -implicitDefEqProofs [go_sem,v2,v4]
   refine QAA cf (by simp [QAB,QAE,hcl,hcr]) rfl ?_
   simp +decide -dsimp -implicitDefEqProofs [go_sem,hcl,hcr]
  ·simp +decide -dsimp -implicitDefEqProofs [go_sem,v2,v4]
   refine QAA c2 rfl rfl ?_
   simp +decide -dsimp -implicitDefEqProofs [go_sem,v4,v5]
   refine QAA cf (by simp [QAB,QAE,hcl,hcr]) rfl ?_
   simp +decide -dsimp -implicitDefEqProofs [go_sem,hcl,hcr]
 | none=>
  rw [hx] at hfi cf
  have hni:¬ (W.find name).isSome = true:=by rw [← hfi]; simp
  unfold QKp at cf
  simp only at cf
  by_cases v6:16 ≤ W.subs.length
  ·have e:W.subR name f = (W,303):=by unfold RBus.subR; rw [if_pos v1,if_neg hno,if_neg hni,if_pos v6]
   rw [e]
   have v6':(16:Int) ≤ W.subs.length:=by omega
   rcases vt with v4 | ⟨v4,v5⟩
   ·simp +decide -dsimp -implicitDefEqProofs [go_sem,v2,v4]
    refine QAA cf (by simp [QAB,QAE,hcl,hcr]) rfl ?_
    simp +decide -dsimp -implicitDefEqProofs [go_sem,v6',hcl,hcr]
   ·simp +decide -dsimp -implicitDefEqProofs [go_sem,v2,v4]
    refine QAA c2 rfl rfl ?_
    simp +decide -dsimp -implicitDefEqProofs [go_sem,v4,v5]
    refine QAA cf (by simp [QAB,QAE,hcl,hcr]) rfl ?_
    simp +decide -dsimp -implicitDefEqProofs [go_sem,v6',hcl,hcr]
  ·have e:W.subR name f = ({ W with subs:=W.subs ++ [⟨name,f,[],[],true⟩] },0):=by unfold RBus.subR; rw [if_pos v1,if_neg hno,if_neg hni,if_neg v6]
   exact (hok ⟨v1,v2,vt,hx,v6⟩).elim
end Go.Ab
namespace Go.Ab
open Go Go.Proofs
set_option maxRecDepth 20000
theorem QDD (is:List Nat):∀ l:List Rcd,QBL is (l.map QAR) = l.map QAR
 | []=>rfl
 | x :: l=>by rw [List.map_cons,QBL,QD9,QDD is l]
theorem QWi (W:RBus) (name:Txt) {n:Nat} (h:RbOk W n):ACalls Tryz.prog 49 [.agg (QBA W),.str name] [] (.tup [.agg (QBA (W.unsR name).1),.int .i64 (W.unsR name).2]) []:=by
 have hcl:=fun k=>QA1 k W.subs
 have hcr:=fun k=>QAM k W.ready
 have nl:=h.nl
 have cf:=QKq W name (by omega)
 have hfi:=QY0 W name
 have hl6:=len6 W.subs
 refine QAH cqq rfl ?_
 unfold QBA at cf ⊢
 refine gs ?_
 cases hx:W.subs.findIdx? (fun t=>decide (t.name = name)) with
 | none=>
  rw [hx] at hfi cf
  have e:W.unsR name = (W,300):=by unfold RBus.unsR; rw [← hfi]; rfl
  rw [e]
  unfold QKp at cf
  refine QAA cf (by simp [QAB,QAE,hcl,hcr]) rfl ?_
  simp +decide -dsimp -implicitDefEqProofs [go_sem,hcl,hcr]
 | some i=>
  obtain ⟨hi,_,hnm,hbef⟩:=QJp hx
  rw [hx] at hfi cf
  have e:W.unsR name = ({ W with subs:=QGI name W.subs },0):=by unfold RBus.unsR; rw [← hfi]; rfl
  rw [e]
  have er:QGI name W.subs = W.subs.take i ++ W.subs.drop (i + 1):=QOv hi hnm hbef
  simp only
  unfold QKp at cf
  simp only at cf
  have hi0:¬ (i:Int) < 0:=by omega
  have w:IntKind.i64.wrap ((i:Int) + 1) = i + 1:=w64 (by omega) (by omega)
  have e1:((i:Int) + 1).toNat = i + 1:=by omega
  have e2:(i:Int) + 1 ≤ W.subs.length:=by omega
  have e3:(0:Int) ≤ (i:Int) + 1:=by omega
  refine QAA cf (by simp [QAB,QAE,hcl,hcr]) rfl ?_
  simp +decide -dsimp -implicitDefEqProofs [go_sem,hi0,w,e1,e3,maxLen]
  have hmi:min i W.subs.length = i:=by omega
  have htk:List.take W.subs.length (W.subs.map QAv) = W.subs.map QAv:=List.take_of_length_le (by simp)
  rw [htk,hmi]
  refine ⟨by omega,fun _ _=>rfl,fun r hr=>hl6 r (List.mem_of_mem_take hr),⟨by omega,by omega⟩,by omega,fun _ _=>rfl,fun r hr=>hl6 r (List.mem_of_mem_drop hr),⟨by omega,by omega⟩,hcr 0,?_,?_,QA1 0 _⟩
  ·rw [er,List.length_append,List.length_take,List.length_drop]; omega
  ·rw [er,List.map_append,List.map_take,List.map_drop]
def QO0 (W:RBus) (p:Txt) (_:Unit):Prop:=W.ready.any (fun x=>QEv p x.path) = false
theorem QTg (W:RBus) (p:Txt) {n:Nat} (h:RbOk W n) (hn:n ≤ 900):ACalls Tryz.prog 28 [.agg (QBA W),.str p] [] (.tup [.agg (QBA (W.goneR p).1),.int .i64 (W.goneR p).2]) []:=by
 have hcl:=fun k=>QA1 k W.subs
 have hcr:=fun k=>QAM k W.ready
 have rl:=h.rl
 have ca:=QYz W p (by omega)
 have hbc:=fun k=>QDk k W
 cases hg:W.at p with
 | none=>
  have e:W.goneR p = (W,307):=by unfold RBus.goneR; rw [hg]
  rw [e]
  rw [hg] at ca
  refine QAH cqq rfl ?_
  unfold QBA at ca hbc ⊢
  unfold QNy at ca
  refine gs ?_
  refine QAA ca (by simp [QAB,QAE,hcl,hcr]) rfl ?_
  simp +decide -dsimp -implicitDefEqProofs [go_sem,hcl,hcr]
 | some r=>
  have hm:r ∈ W.ready:=by unfold RBus.at at hg; exact List.mem_of_find?_eq_some hg
  have hrp:r.path = p:=by unfold RBus.at at hg; simpa using List.find?_some hg
  have hsr:=h.rs r hm
  have hpl:QAf p = true:=hrp ▸ QAm hsr
  have hrc:=fun k=>QBr k r
  have cd:=QSm W.ready p (by omega)
  rw [hg] at ca
  simp only at ca
  have ct:=QSo { W with ready:=QBk W.ready p } r false (n:=n + 1) (by
   refine ⟨h.fl,fun t ht=>Nat.le_succ_of_le (h.sl t ht),h.wl,h.wr,h.nl,fun x hx=>h.rs x (QCj.1 hx).1,?_,h.q0,by have:=h.q1; show W.last ≤ ((n + 1:Nat):Int); omega⟩
   have:(QBk W.ready p).length ≤ W.ready.length:=List.length_filter_le _ _
   show (QBk W.ready p).length ≤ n + 1
   omega) (by omega) hsr
  have hcd:=fun k=>QAM k (QBk W.ready p)
  have hct:=QDk 0 (({ W with ready:=QBk W.ready p }:RBus).tell r false)
  rw [QAc r] at ca hrc ct
  refine QA2 cqq rfl ?_
  unfold QBA at ca
  unfold QBA
  refine gS ?_
  refine gS ?_
  refine QAA ca (by simp [QAB,QAE,hcl,hcr]) (by simp [QAB,QAE,QAW,QAF]) ?_
  refine gs ?_
  refine gS ?_
  unfold goE
  refine QA6 (S:=Unit) (fun _=>⟨tmps 42 [(1,.str p),(2,.ptr 0 0),(4,.ptr 1 0),(6,.ptr 2 0)],[.box 52 [.imm (W.ready.map QAR),.imm (W.subs.map QAv),.int .i64 W.last],.box 52 [.nils,.nils,.int .i64 0],.box 36 (QAR r)]⟩) (QO0 W p) (QAD ?_) ?_
  ·simp +decide -dsimp -implicitDefEqProofs [go_sem]
   refine QBH (S:=Nat) (fun i=>⟨tmps 42 [(1,.str p),(2,.ptr 0 0),(4,.ptr 1 0),(6,.ptr 2 0),(8,.int .i64 i)],[.box 52 [.imm (W.ready.map QAR),.imm (W.subs.map QAv),.int .i64 W.last],.box 52 [.nils,.nils,.int .i64 0],.box 36 (QAR r)]⟩) (fun i=>W.ready.length - i) (fun i=>i ≤ W.ready.length ∧ (W.ready.take i).any (fun x=>QEv p x.path) = false) 0 (by simp) (QAC (by simp) ?_) ?_
   ·rw [QAc r]
    simp +decide -dsimp -implicitDefEqProofs [go_sem,hcl,hcr]
   intro i ⟨hi,hi2⟩
   rw [QAc r]
   by_cases hlt:i < W.ready.length
   ·have w:IntKind.i64.wrap ((i:Int) + 1) = i + 1:=w64 (by omega) (by omega)
    have s1:=QAc W.ready[i]
    have cx:=QIZ p W.ready[i].path hpl (QAm (h.rs _ (List.getElem_mem hlt)))
    refine QAD ?_
    simp +decide -dsimp -implicitDefEqProofs [go_sem,hlt,s1]
    refine QAA cx rfl rfl ?_
    cases han:QEv p W.ready[i].path with
    | true=>
     have ea:W.ready.any (fun x=>QEv p x.path) = true:=List.any_eq_true.2 ⟨_,List.getElem_mem hlt,han⟩
     have e:W.goneR p = (W,308):=by unfold RBus.goneR; rw [hg]; simp only [ea,if_true]
     rw [e]
     simp +decide -dsimp -implicitDefEqProofs [go_sem,hcl,hcr]
    | false=>
     simp +decide -dsimp -implicitDefEqProofs [go_sem,w]
     refine QAG (S:=Nat) (i + 1) ⟨hlt,by rw [List.take_succ_eq_append_getElem hlt,List.any_append,hi2]; simp [han]⟩ (by show W.ready.length - (i + 1) < W.ready.length - i; omega) (QAC (by simp) ?_)
     simp +decide -dsimp -implicitDefEqProofs [go_sem,hcl,hcr]
   ·have e:i = W.ready.length:=by omega
    rw [e,List.take_length] at hi2
    refine QAD ?_
    simp +decide -dsimp -implicitDefEqProofs [go_sem,hlt]
    refine QAs (S:=Unit) () hi2 (QAC (by simp) ?_)
    simp +decide -dsimp -implicitDefEqProofs [go_sem,hcl,hcr]
  ·rintro _ ea
   unfold QO0 at ea
   have e:W.goneR p = (({ W with ready:=QBk W.ready p }:RBus).tell r false,0):=by unfold RBus.goneR; rw [hg]; simp only [ea,Bool.false_eq_true,if_false]
   rw [e]
   refine QAP ⟨tmps 42 [(2,.ptr 0 0),(4,.ptr 1 0),(6,.ptr 2 0)],[.box 52 [.imm ((QBk W.ready p).map QAR),.imm (W.subs.map QAv),.int .i64 W.last],.box 52 [.nils,.nils,.int .i64 0],.box 36 (QAR r)]⟩ (QAD ?_) ?_
   ·rw [QAc r]
    refine gs ?_
    refine QLd cd (by simp [QAB,QAE,hcr]) (by simp [QBt,ren,QDD]) (QDD _ _) ?_
    refine gs ?_
    refine QAN (by simp) ?_
    simp +decide -dsimp -implicitDefEqProofs [go_sem,hcl,hcd]
   ·rw [QAc r]
    refine QAD ?_
    refine gs ?_
    have ct':=ct
    generalize (({ W with ready:=QBk W.ready p }:RBus).tell r false) = X at ct' hct ⊢
    unfold QBA at ct' hct
    refine QAA ct' (by simp [QAB,QAE,hcl,hcd,QAW,QAF]) (by rw [QAE]; exact hct) ?_
    simp +decide -dsimp -implicitDefEqProofs [go_sem,QAM,QA1]
end Go.Ab
namespace Go.Ab
open Go Go.Proofs
set_option maxRecDepth 20000
theorem QO1 {p:Txt} (hp:QAf p = true):∃ x,47 ∉ x ∧ p = QBn p ++ 47 :: x:=by
 obtain ⟨h1,h2⟩:=QGW hp
 have hne:QAZ p ≠ []:=fun e=>by
  obtain ⟨h3,_⟩:=QBW hp
  rw [e] at h3
  unfold QCm at h3
  split at h3
  ·cases h3
  ·split at h3
   ·rename_i hq
    have:=QE9 47
    rw [QDt] at h3
    exact this _ (Option.some.inj h3)
   ·cases h3
 refine ⟨(QAZ p).getLast hne,h1 _ (List.getLast_mem hne),?_⟩
 have e1:QBn p = QBm (QAZ p).dropLast:=by
  unfold QBn QCR
  split
  ·rfl
  ·rename_i h
   have:(QAZ p).length = 1:=by have:=List.length_pos_iff.2 hne; omega
   obtain ⟨y,hy⟩:=List.length_eq_one_iff.1 this
   rw [hy]; rfl
 rw [e1,← QJU,List.dropLast_concat_getLast hne,h2]
def QKo (D:List Rcd) (r:Rcd) (k:Nat):List (List AV):=(D.take k).map QAR ++ QAR r :: (D.drop k).map QAR
theorem QMx (D:List Rcd) (r:Rcd) {k:Nat} (h:k ≤ D.length):(QKo D r k).length = D.length + 1:=by
 simp [QKo]; omega
theorem QTh (D:List Rcd) (r:Rcd) {k:Nat} (h:k ≤ D.length):(QKo D r k)[k]? = some (QAR r):=by
 unfold QKo
 rw [List.getElem?_append_right (by simp; omega)]
 simp; rw [show k - min k D.length = 0 by omega]; rfl
theorem QQ2 (D:List Rcd) (r:Rcd) {k:Nat} (h:k + 1 ≤ D.length):(QKo D r (k + 1))[k]? = some (QAR (D[k]'(by omega))):=by
 unfold QKo
 rw [List.getElem?_append_left (by simp; omega),List.getElem?_map,List.getElem?_take_of_lt (by omega),List.getElem?_eq_getElem (by omega)]; rfl
theorem QO2 (D:List Rcd) (r:Rcd) {k:Nat} (h:k + 1 ≤ D.length):((QKo D r (k + 1)).set (k + 1) (QAR (D[k]'(by omega)))).set k (QAR r) = QKo D r k:=by
 have e:D.take (k + 1) = D.take k ++ [D[k]'(by omega)]:=List.take_succ_eq_append_getElem (by omega)
 have l1:(D.take k).length = k:=by rw [List.length_take]; omega
 have e2:D.drop k = D[k]'(by omega) :: D.drop (k + 1):=List.drop_eq_getElem_cons (by omega)
 unfold QKo
 rw [e,e2,List.map_append,List.append_assoc]
 have l2:((D.take k).map QAR).length = k:=by rw [List.length_map,l1]
 rw [List.set_append,if_neg (by omega),l2,show k + 1 - k = 1 by omega,List.set_append,if_neg (by rw [l2]; omega),l2,Nat.sub_self]
 rfl
def rdyP (W:RBus) (r:Rcd) (_:Unit):Prop:=QBn r.path = [] ∨ (W.at (QBn r.path)).isSome = true
def rdyQ (W:RBus) (r:Rcd) (_:Unit):Prop:=W.readyR r = (({ W with ready:=QFu (QBk W.ready r.path) r }:RBus).tell r true,0)
theorem QMy (l:List Rcd) (r:Rcd):(QFu l r).length = l.length + 1:=by
 unfold QFu
 have:=QJ2 l r l.length
 simp; omega
theorem QQ3 (W:RBus) (r:Rcd) {n:Nat} (h:RbOk W n) (hn:n ≤ 900) (hf:Few r):ACalls Tryz.prog 29 [.agg (QBA W),.agg (QAR r)] [] (.tup [.agg (QBA (W.readyR r).1),.int .i64 (W.readyR r).2]) []:=by
 have hcl:=fun k=>QA1 k W.subs
 have hcr:=fun k=>QAM k W.ready
 have rl:=h.rl
 have hrc:=fun k=>QBr k r
 have cs:=QSg r hf
 rw [QAc r] at cs hrc ⊢
 cases hs:QAk r with
 | false=>
  have e:W.readyR r = (W,304):=by unfold RBus.readyR; rw [if_neg (by rw [hs]; decide)]
  rw [e]
  rw [hs] at cs
  refine QAH cqq rfl ?_
  unfold QBA
  refine gs ?_
  refine QAA cs (by simpa [QAB,QAE] using hrc 0) rfl ?_
  simp +decide -dsimp -implicitDefEqProofs [go_sem,hcl,hcr]
 | true=>
  rw [hs] at cs
  have hpl:=QAm hs
  obtain ⟨x,hx,hpx⟩:=QO1 hpl
  have cl:=QTe (QBn r.path) x hx (by rw [← hpx]; have:=QBV hpl; omega)
  rw [← hpx] at cl
  have hple:(QBn r.path).length ≤ r.path.length:=by have:=congrArg List.length hpx; simp at this; omega
  have htk:r.path.take (QBn r.path).length = QBn r.path:=by
   have h:=List.take_left' (l₁:=QBn r.path) (l₂:=47 :: x) rfl
   rwa [← hpx] at h
  have ca1:=QYz W (QBn r.path) (by omega)
  have ca2:=QYz W r.path (by omega)
  refine QA2 cqq rfl ?_
  unfold QBA
  unfold QBA at ca1 ca2
  refine gS ?_
  refine gS ?_
  refine QAA cs (by simpa [QAB,QAE] using hrc 0) rfl ?_
  refine gs ?_
  refine gS ?_
  refine QAK cl rfl rfl ?_
  simp +decide -dsimp -implicitDefEqProofs [go_sem,hple,htk]
  unfold goE
  have hat1:∀ y,W.at (QBn r.path) = some y → ∀ k,QAB k (QAR y) = true:=fun y _ k=>QBr k y
  refine QA6 (S:=Unit) (fun _=>⟨tmps 103 [(2,.ptr 0 0),(3,.ptr 1 0),(4,.ptr 2 0),(6,.str (QBn r.path))],[.box 52 [.imm (W.ready.map QAR),.imm (W.subs.map QAv),.int .i64 W.last],.box 36 (QAR r),.box 52 [.nils,.nils,.int .i64 0]]⟩) (rdyP W r) (QAD ?_) ?_
  ·by_cases hp0:QBn r.path = []
   ·cases hw:W.at (QBn r.path) with
    | none=>
     rw [hw] at ca1
     unfold QNy at ca1
     refine gs ?_
     refine QAA ca1 (by simp [QAB,QAE,hcl,hcr]) (by simp [QAB,QAE]) ?_
     simp +decide -dsimp -implicitDefEqProofs [go_sem,hp0]
     refine QAs (S:=Unit) () (.inl hp0) (QAC (by simp) ?_)
     rw [QAc r]
     simp +decide -dsimp -implicitDefEqProofs [go_sem,hcl,hcr,hp0]
    | some y=>
     have hy:=QAc y
     rw [hw] at ca1
     simp only [hy] at ca1
     refine gs ?_
     refine QAA ca1 (by simp [QAB,QAE,hcl,hcr]) (by simp [QAB,QAE,QAW,QAF]) ?_
     simp +decide -dsimp -implicitDefEqProofs [go_sem,hp0]
     refine QAs (S:=Unit) () (.inl hp0) (QAC (by simp) ?_)
     rw [QAc r]
     simp +decide -dsimp -implicitDefEqProofs [go_sem,hcl,hcr,hp0]
   ·cases hw:W.at (QBn r.path) with
    | none=>
     have e:W.readyR r = (W,305):=by unfold RBus.readyR; rw [if_pos hs,if_pos ⟨hp0,by rw [hw]; rfl⟩]
     rw [e]
     rw [hw] at ca1
     unfold QNy at ca1
     refine gs ?_
     refine QAA ca1 (by simp [QAB,QAE,hcl,hcr]) (by simp [QAB,QAE]) ?_
     simp +decide -dsimp -implicitDefEqProofs [go_sem,hp0,hcl,hcr]
    | some y=>
     have hy:=QAc y
     rw [hw] at ca1
     simp only [hy] at ca1
     refine gs ?_
     refine QAA ca1 (by simp [QAB,QAE,hcl,hcr]) (by simp [QAB,QAE,QAW,QAF]) ?_
     simp +decide -dsimp -implicitDefEqProofs [go_sem,hp0]
     refine QAs (S:=Unit) () (.inr (by rw [hw]; rfl)) (QAC (by simp) ?_)
     rw [QAc r]
     simp +decide -dsimp -implicitDefEqProofs [go_sem,hcl,hcr]
  ·rintro _ hpar
   unfold rdyP at hpar
   have hnp:¬ (QBn r.path ≠ [] ∧ (W.at (QBn r.path)).isSome = false):=fun e=>hpar.elim e.1 fun e2=>by rw [e2] at e; cases e.2
   rw [QAc r]
   refine QA6 (S:=Unit) (fun _=>⟨tmps 103 [(2,.ptr 0 0),(3,.ptr 1 0),(4,.ptr 2 0)],[.box 52 [.imm (W.ready.map QAR),.imm (W.subs.map QAv),.int .i64 W.last],.box 36 (QAR r),.box 52 [.nils,.nils,.int .i64 0]]⟩) (rdyQ W r) (QAD ?_) ?_
   ·cases hw:W.at r.path with
    | none=>
     have e:W.readyR r = (({ W with ready:=QFu (QBk W.ready r.path) r }:RBus).tell r true,0):=by unfold RBus.readyR; rw [if_pos hs,if_neg hnp,hw]
     rw [hw] at ca2
     unfold QNy at ca2
     refine gs ?_
     refine QAA ca2 (by simp [QAB,QAE,hcl,hcr]) (by simp [QAB,QAE]) ?_
     refine gs ?_
     refine QAs (S:=Unit) () e (QAC (by simp) ?_)
     rw [QAc r]
     simp +decide -dsimp -implicitDefEqProofs [go_sem,hcl,hcr]
    | some y=>
     have hy:=QAc y
     rw [hw] at ca2
     simp only [hy] at ca2
     refine gs ?_
     refine QAA ca2 (by simp [QAB,QAE,hcl,hcr]) (by simp [QAB,QAE,QAW,QAF]) ?_
     by_cases hi:y.index = r.index
     ·have e:W.readyR r = (({ W with ready:=QFu (QBk W.ready r.path) r }:RBus).tell r true,0):=by unfold RBus.readyR; rw [if_pos hs,if_neg hnp,hw]; simp only [if_pos hi]
      simp +decide -dsimp -implicitDefEqProofs [go_sem,hi]
      refine QAs (S:=Unit) () e (QAC (by simp) ?_)
      rw [QAc r]
      simp +decide -dsimp -implicitDefEqProofs [go_sem,hcl,hcr]
     ·have e:W.readyR r = (W,306):=by unfold RBus.readyR; rw [if_pos hs,if_neg hnp,hw]; simp only [if_neg hi]
      rw [e]
      simp +decide -dsimp -implicitDefEqProofs [go_sem,hi,hcl,hcr]
   ·rintro _ e
    unfold rdyQ at e
    rw [e,QAc r]
    have cd:=QSm W.ready r.path (by omega)
    have cdu:=cd.unborn (by simp [QAB,QAE,hcr]) 1 (by simp)
    obtain ⟨D,hD⟩:∃ D,D = QBk W.ready r.path:=⟨_,rfl⟩
    rw [← hD] at cdu ⊢
    have hDs:∀ y ∈ D,QAk y = true:=fun y hy=>h.rs y (QCj.1 (hD ▸ hy)).1
    have hDl:D.length ≤ W.ready.length:=by rw [hD]; exact List.length_filter_le _ _
    refine QFj (Wk.pushN 1) ?_
    simp only [List.replicate]
    refine gS ?_
    refine QAu [3] cdu rfl rfl (by simp) (by simp [QBt,ren,QDD]) (by simp [QBP]) ?_
    simp +decide -dsimp -implicitDefEqProofs [go_sem,QDD,maxLen]
    refine ⟨⟨by omega,by omega⟩,?_⟩
    have hin:D.map QAR ++ [[.str r.path,.int .i64 r.index,.imm (r.props.map QBK),.imm (r.tags.map QAT),.imm (r.links.map QAT),.imm (r.run.map QAT),.imm (r.load.map QAT),.str r.name,.int .i64 r.prio,.str r.owner,.str r.group,.int .i64 r.mode]] = QKo D r D.length:=by
     unfold QKo; rw [List.take_length,List.drop_length]; rfl
    rw [hin]
    unfold goE
    refine QAP ⟨tmps 103 [(2,.ptr 0 0),(3,.ptr 1 0),(4,.ptr 2 0),(11,.own 3 (D.length + 1))],[.box 52 [.imm (W.ready.map QAR),.imm (W.subs.map QAv),.int .i64 W.last],.box 36 (QAR r),.box 52 [.nils,.nils,.int .i64 0],.reg 36 12 ((QFu D r).map QAR)]⟩ (QAD ?_) ?_
    ·have hil:=QMx D r (Nat.le_refl D.length)
     have wD:IntKind.i64.wrap (D.length:Int) = D.length:=w64 (by omega) (by omega)
     simp +decide -dsimp -implicitDefEqProofs [go_sem,hil,wD]
     have hcin:=fun k=>QAM k D
     have hcI:∀ k j,QAb k (QKo D r j) = true:=fun k j=>by
      unfold QKo; rw [QFC,QAb,QBr,QAM,QAM]; rfl
     refine QAQ (S:=Nat) (fun k=>⟨tmps 103 [(2,.ptr 0 0),(3,.ptr 1 0),(4,.ptr 2 0),(11,.own 3 (D.length + 1)),(12,.int .i64 k)],[.box 52 [.imm (W.ready.map QAR),.imm (W.subs.map QAv),.int .i64 W.last],.box 36 (QAR r),.box 52 [.nils,.nils,.int .i64 0],.reg 36 12 (QKo D r k)]⟩) (fun k=>k) (fun k=>k ≤ D.length ∧ QFe D r D.length = QFe D r k) D.length ⟨Nat.le_refl _,rfl⟩ (QAC (by simp) ?_) ?_
     ·rw [QAc r]
      simp +decide -dsimp -implicitDefEqProofs [go_sem,hcl,hcr,hcI]
     rintro k ⟨hk,hin2⟩
     rw [QAc r]
     have hend:QFe D r k = k → QKo D r k = (QFu D r).map QAR:=fun e=>by
      unfold QFu QKo
      rw [hin2,e,List.map_append,List.map_cons]
     obtain ⟨m,rfl⟩ | rfl:(∃ m,k = m + 1) ∨ k = 0:=by
      cases k with
      | zero=>exact .inr rfl
      | succ m=>exact .inl ⟨m,rfl⟩
     ·have hml:m < D.length:=by omega
      have hz:(0:Int) ≤ (m:Int) + 1:=by omega
      have hz2:(0:Int) < (m:Int) + 1:=by omega
      have w:IntKind.i64.wrap (m:Int) = (m:Int):=w64 (by omega) (by omega)
      have cc:=QTc r.path D[m].path hpl (QAm (hDs _ (List.getElem_mem hml)))
      have hinP:QFe D r (m + 1) = if QFA r.path D[m].path < 0 then QFe D r m else m + 1:=by
       have e:D[m]? = some D[m]:=List.getElem?_eq_getElem hml
       rw [QFe,e]; rfl
      have a1:=QTh D r hk
      have a0:=QQ2 D r hk
      have hsw:=QO2 D r hk
      have hLl:=QMx D r hk
      rw [QAc r] at a1 hsw
      rw [QAc D[m]] at a0 hsw
      have hIm:=hcI 0 m
      have b1:m + 1 < D.length + 1:=by omega
      have b0:m < D.length + 1:=by omega
      have g1:∀ h,(QKo D r (m + 1))[m + 1]'h = [.str r.path,.int .i64 r.index,.imm (r.props.map QBK),.imm (r.tags.map QAT),.imm (r.links.map QAT),.imm (r.run.map QAT),.imm (r.load.map QAT),.str r.name,.int .i64 r.prio,.str r.owner,.str r.group,.int .i64 r.mode]:=fun h=>by rw [List.getElem?_eq_getElem h] at a1; exact Option.some.inj a1
      have g0:∀ h,(QKo D r (m + 1))[m]'h = [.str D[m].path,.int .i64 D[m].index,.imm (D[m].props.map QBK),.imm (D[m].tags.map QAT),.imm (D[m].links.map QAT),.imm (D[m].run.map QAT),.imm (D[m].load.map QAT),.str D[m].name,.int .i64 D[m].prio,.str D[m].owner,.str D[m].group,.int .i64 D[m].mode]:=fun h=>by rw [List.getElem?_eq_getElem h] at a0; exact Option.some.inj a0
      simp +decide -dsimp -implicitDefEqProofs [go_sem,hz,hz2,w,hLl,b1,b0,g1,g0]
      refine QAK cc rfl rfl ?_
      by_cases hlt:QFA r.path D[m].path < 0
      ·rw [if_pos hlt] at hinP
       simp +decide -dsimp -implicitDefEqProofs [go_sem,hz,w,hLl,b1,b0,g1,g0,hlt]
       rw [hsw]
       have hIr:=fun k=>hcI k m
       refine QAG (S:=Nat) m ⟨by omega,by rw [hin2,hinP]⟩ (Nat.lt_succ_self m) (QAC (by simp) ?_)
       simp +decide -dsimp -implicitDefEqProofs [go_sem,hcl,hcr,hIr]
      ·rw [if_neg hlt] at hinP
       simp +decide -dsimp -implicitDefEqProofs [go_sem,hlt]
       rw [hend hinP]
       refine QAN (by simp) ?_
       simp +decide -dsimp -implicitDefEqProofs [go_sem,hcl,hcr,QAM]
     ·simp +decide -dsimp -implicitDefEqProofs [go_sem]
      rw [hend rfl]
      refine QAN (by simp) ?_
      simp +decide -dsimp -implicitDefEqProofs [go_sem,hcl,hcr,QAM]
    ·have hcr2:=fun k=>QAM k (QFu D r)
     have hrl:=h.rl
     have hOk:RbOk { W with ready:=QFu D r } (n + 1):=by
      refine ⟨h.fl,fun t ht=>Nat.le_succ_of_le (h.sl t ht),h.wl,h.wr,h.nl,fun x hx=>?_,?_,h.q0,?_⟩
      ·rcases (QHu D r x).1 hx with rfl | hx
       ·exact hs
       ·exact hDs x hx
      ·show (QFu D r).length ≤ n + 1
       rw [QMy]; omega
      ·have:=h.q1
       show W.last ≤ ((n + 1:Nat):Int)
       omega
     have ct:=QSo { W with ready:=QFu D r } r true (n:=n + 1) hOk (by omega) hs
     have hct:=QDk 0 (({ W with ready:=QFu D r }:RBus).tell r true)
     rw [QAc r] at ct
     refine QAP ⟨tmps 103 [(2,.ptr 0 0),(3,.ptr 1 0),(4,.ptr 2 0)],[.box 52 [.imm ((QFu D r).map QAR),.imm (W.subs.map QAv),.int .i64 W.last],.box 36 (QAR r),.box 52 [.nils,.nils,.int .i64 0]]⟩ (QAD ?_) ?_
     ·rw [QAc r]
      refine gs ?_
      refine QAN (by simp) ?_
      simp +decide -dsimp -implicitDefEqProofs [go_sem,hcl,hcr2,QMy]
     ·rw [QAc r]
      refine QAD ?_
      refine gs ?_
      have ct':=ct
      generalize (({ W with ready:=QFu D r }:RBus).tell r true) = X at ct' hct ⊢
      unfold QBA at ct' hct
      refine QAA ct' (by simp [QAB,QAE,hcl,hcr2,QAW,QAF]) (by rw [QAE]; exact hct) ?_
      simp +decide -dsimp -implicitDefEqProofs [go_sem,QAM,QA1]
end Go.Ab
namespace Go.Ab
open Go Go.Proofs
set_option maxRecDepth 20000
def vwB (t:RSb) (r:Rcd):Bool:=if t.behind then QA4 t.f r else decide (r.path ∈ t.sees)
def vwL (t:RSb) (l:List Rcd):List Txt:=(l.filter (vwB t)).map (·.path)
theorem QQ4 {t:RSb} {l:List Rcd} {i:Nat} (h:i < l.length):vwL t (l.take (i + 1)) = vwL t (l.take i) ++ (if vwB t l[i] = true then [l[i].path] else []):=by
 unfold vwL
 rw [List.take_succ_eq_append_getElem h,List.filter_append,List.map_append]
 cases e:vwB t l[i] <;> simp [e]
theorem QTi (t:RSb) (l:List Rcd):(vwL t l).length ≤ l.length:=by
 unfold vwL; rw [List.length_map]; exact List.length_filter_le _ _
theorem QTj (W:RBus) (name:Txt) {n:Nat} (h:RbOk W n) (hn:n ≤ 1000):ACalls Tryz.prog 37 [.agg (QBA W),.str name] [] (.tup [.imm ((W.viewR name).1.map QAT),.int .i64 (W.viewR name).2]) []:=by
 have hcl:=fun k=>QA1 k W.subs
 have hcr:=fun k=>QAM k W.ready
 have nl:=h.nl
 have rl:=h.rl
 have cf:=QKq W name (by omega)
 have hfi:=QY0 W name
 cases hx:W.subs.findIdx? (fun t=>decide (t.name = name)) with
 | none=>
  rw [hx] at hfi cf
  have hf:W.find name = none:=by cases e:W.find name with | none=>rfl | some _=>rw [e] at hfi; cases hfi
  have e:W.viewR name = ([],300):=by unfold RBus.viewR; rw [hf]
  rw [e]
  unfold QKp QBA at cf
  unfold QBA
  have key:ACalls Tryz.prog 37 [.agg [.imm (W.ready.map QAR),.imm (W.subs.map QAv),.int .i64 W.last],.str name] [] (.tup [.nils,.int .i64 300]) []:=by
   refine QAH cqq rfl ?_
   refine gs ?_
   refine QAA cf (by simp [QAB,QAE,hcl,hcr]) rfl ?_
   simp +decide -dsimp -implicitDefEqProofs [go_sem]
  have h2:=key.nzT
  simpa [nzL,nz] using h2
 | some i=>
  obtain ⟨hi,hfs,hnm,hbef⟩:=QJp hx
  rw [hx] at hfi cf
  obtain ⟨t,ht⟩:∃ t,t = W.subs[i]:=⟨_,rfl⟩
  rw [← ht] at hfs
  have htm:t ∈ W.subs:=ht ▸ List.getElem_mem hi
  have hfl:=h.fl t htm
  have hsl:=h.sl t htm
  have e:W.viewR name = (vwL t W.ready,0):=by unfold RBus.viewR; rw [hfs]; rfl
  rw [e]
  unfold QKp at cf
  simp only at cf
  have hi0:¬ (i:Int) < 0:=by omega
  have s1:QAv W.subs[i] = [.str t.name,.str t.f.sub,.str t.f.tag,.imm (t.wait.map QAU),.imm (t.sees.map QAT),.bool t.behind]:=by rw [← ht]; exact QCJ t
  have hct:=fun k=>QEX k t
  rw [QCJ] at hct
  refine QAH cqq rfl ?_
  unfold QBA at cf ⊢
  refine gs ?_
  refine QAA cf (by simp [QAB,QAE,hcl,hcr]) rfl ?_
  simp +decide -dsimp -implicitDefEqProofs [go_sem,hi0,hi,s1]
  refine QAQ (S:=Nat) (fun j=>⟨tmps 65 [(2,.ptr 0 0),(4,.nils),(5,.int .i64 0),(7,.ptr 1 0),(8,.own 2 (vwL t (W.ready.take j)).length),(9,.int .i64 j)],[.box 52 [.imm (W.ready.map QAR),.imm (W.subs.map QAv),.int .i64 W.last],.box 117 [.str t.name,.str t.f.sub,.str t.f.tag,.imm (t.wait.map QAU),.imm (t.sees.map QAT),.bool t.behind],.reg 9 1 ((vwL t (W.ready.take j)).map QAT)]⟩) (fun j=>W.ready.length - j) (fun j=>j ≤ W.ready.length) 0 (Nat.zero_le _) ((Wk.nilT 8 9 1 rfl (by simp)).trans (QAC (by simp) ?_)) ?_
  ·simp +decide -dsimp -implicitDefEqProofs [go_sem,hcl,hcr,vwL,QA8,QAF]
  intro j hj
  have hlen:(vwL t (W.ready.take j)).length ≤ j:=Nat.le_trans (QTi _ _) (by rw [List.length_take]; omega)
  by_cases hlt:j < W.ready.length
  ·have w:IntKind.i64.wrap ((j:Int) + 1) = j + 1:=w64 (by omega) (by omega)
   have hst:=QQ4 (t:=t) hlt
   obtain ⟨r,hr⟩:∃ r,r = W.ready[j]:=⟨_,rfl⟩
   have hrs:=h.rs r (hr ▸ List.getElem_mem hlt)
   have s2:QAR W.ready[j] = QAR r:=by rw [hr]
   have s3:W.ready[j].path = r.path:=by rw [hr]
   rw [← hr] at hst
   have cw:=QGD t.f r hfl.1 hfl.2 (QJC hrs)
   have ci:=in_c t.sees r.path (by omega)
   have hrc:=fun k=>QBr k r
   rw [QAc r] at s2 hrc cw
   unfold QBM at cw
   have ev:∀ b,vwB t r = b → (if t.behind = true then QA4 t.f r else decide (r.path ∈ t.sees)) = b:=fun b h=>h
   cases hb:t.behind with
   | true=>
    have ev:vwB t r = QA4 t.f r:=by unfold vwB; rw [hb]; rfl
    rw [ev] at hst
    simp +decide -dsimp -implicitDefEqProofs [go_sem,hlt,s2]
    refine QAK cw (by simpa [QAB,QAE] using hrc 0) rfl ?_
    cases hw:QA4 t.f r with
    | true=>
     rw [hw] at hst
     simp +decide -dsimp -implicitDefEqProofs [go_sem,hlt,s2,w,maxLen]
     refine ⟨⟨by omega,by omega⟩,?_⟩
     have hst2:vwL t (W.ready.take (j + 1)) = vwL t (W.ready.take j) ++ [r.path]:=by simpa using hst
     have ha:(vwL t (W.ready.take j)).map QAT ++ [[AV.str r.path]] = (vwL t (W.ready.take (j + 1))).map QAT:=by rw [hst2]; simp [QAT]
     have hb:(vwL t (W.ready.take j)).length + 1 = (vwL t (W.ready.take (j + 1))).length:=by rw [hst2]; simp
     rw [ha,hb]
     refine QAG (S:=Nat) (j + 1) hlt (by show W.ready.length - (j + 1) < W.ready.length - j; omega) (QAC (by simp) ?_)
     simp +decide -dsimp -implicitDefEqProofs [go_sem,hcl,hcr,QA8,QAF]
    | false=>
     rw [hw] at hst
     simp +decide -dsimp -implicitDefEqProofs [go_sem,w]
     have hst2:vwL t (W.ready.take (j + 1)) = vwL t (W.ready.take j):=by simpa using hst
     rw [← hst2]
     refine QAG (S:=Nat) (j + 1) hlt (by show W.ready.length - (j + 1) < W.ready.length - j; omega) (QAC (by simp) ?_)
     simp +decide -dsimp -implicitDefEqProofs [go_sem,hcl,hcr,QA8,QAF]
   | false=>
    have ev:vwB t r = decide (r.path ∈ t.sees):=by unfold vwB; rw [hb]; rfl
    rw [ev] at hst
    simp +decide -dsimp -implicitDefEqProofs [go_sem,hlt,s2]
    refine QAK ci (by simp [QAB,QAE,QAF]) rfl ?_
    cases hw:decide (r.path ∈ t.sees) with
    | true=>
     rw [hw] at hst
     simp +decide -dsimp -implicitDefEqProofs [go_sem,hlt,s2,w,maxLen]
     refine ⟨⟨by omega,by omega⟩,?_⟩
     have hst2:vwL t (W.ready.take (j + 1)) = vwL t (W.ready.take j) ++ [r.path]:=by simpa using hst
     have ha:(vwL t (W.ready.take j)).map QAT ++ [[AV.str r.path]] = (vwL t (W.ready.take (j + 1))).map QAT:=by rw [hst2]; simp [QAT]
     have hb:(vwL t (W.ready.take j)).length + 1 = (vwL t (W.ready.take (j + 1))).length:=by rw [hst2]; simp
     rw [ha,hb]
     refine QAG (S:=Nat) (j + 1) hlt (by show W.ready.length - (j + 1) < W.ready.length - j; omega) (QAC (by simp) ?_)
     simp +decide -dsimp -implicitDefEqProofs [go_sem,hcl,hcr,QA8,QAF]
    | false=>
     rw [hw] at hst
     simp +decide -dsimp -implicitDefEqProofs [go_sem,w]
     have hst2:vwL t (W.ready.take (j + 1)) = vwL t (W.ready.take j):=by simpa using hst
     rw [← hst2]
     refine QAG (S:=Nat) (j + 1) hlt (by show W.ready.length - (j + 1) < W.ready.length - j; omega) (QAC (by simp) ?_)
     simp +decide -dsimp -implicitDefEqProofs [go_sem,hcl,hcr,QA8,QAF]
  ·have e:j = W.ready.length:=by omega
   subst e
   rw [List.take_length]
   simp +decide -dsimp -implicitDefEqProofs [go_sem]
end Go.Ab
namespace Go.Ab
open Go Go.Proofs
set_option maxRecDepth 20000
def QKr (f:Flt) (l:List Rcd):List Rcd:=l.filter (QA4 f)
theorem QO3 {f:Flt} {l:List Rcd} {i:Nat} (h:i < l.length):QKr f (l.take (i + 1)) = QKr f (l.take i) ++ (if QA4 f l[i] = true then [l[i]] else []):=by
 unfold QKr
 rw [List.take_succ_eq_append_getElem h,List.filter_append]
 cases e:QA4 f l[i] <;> simp [e]
theorem QQ5 (f:Flt) (l:List Rcd):(QKr f l).length ≤ l.length:=List.length_filter_le _ _
theorem QQ6 (W:RBus) (f:Flt) {n:Nat} (h:RbOk W n) (hn:n ≤ 1000) (hfl:f.sub.length ≤ 1000 ∧ f.tag.length ≤ 1000):ACalls Tryz.prog 71 [.agg (QBA W),.agg (QBM f)] [] (.imm ((W.wanted f).map QAR)) []:=by
 have hcl:=fun k=>QA1 k W.subs
 have hcr:=fun k=>QAM k W.ready
 have rl:=h.rl
 show ACalls Tryz.prog 71 [.agg (QBA W),.agg (QBM f)] [] (.imm ((QKr f W.ready).map QAR)) []
 refine QAH cqq rfl ?_
 unfold QBA QBM
 refine gs ?_
 refine QAQ (S:=Nat) (fun j=>⟨tmps 30 [(2,.ptr 0 0),(3,.ptr 1 0),(4,.nils),(5,.own 2 (QKr f (W.ready.take j)).length),(6,.int .i64 j)],[.box 52 [.imm (W.ready.map QAR),.imm (W.subs.map QAv),.int .i64 W.last],.box 27 [.str f.sub,.str f.tag],.reg 36 12 ((QKr f (W.ready.take j)).map QAR)]⟩) (fun j=>W.ready.length - j) (fun j=>j ≤ W.ready.length) 0 (Nat.zero_le _) ((Wk.nilT 5 36 12 rfl (by simp)).trans (QAC (by simp) ?_)) ?_
 ·simp +decide -dsimp -implicitDefEqProofs [go_sem,hcl,hcr,QKr]
 intro j hj
 have hlen:(QKr f (W.ready.take j)).length ≤ j:=Nat.le_trans (QQ5 _ _) (by rw [List.length_take]; omega)
 by_cases hlt:j < W.ready.length
 ·have w:IntKind.i64.wrap ((j:Int) + 1) = j + 1:=w64 (by omega) (by omega)
  have hst:=QO3 (f:=f) hlt
  obtain ⟨r,hr⟩:∃ r,r = W.ready[j]:=⟨_,rfl⟩
  have hrs:=h.rs r (hr ▸ List.getElem_mem hlt)
  have s2:QAR W.ready[j] = QAR r:=by rw [hr]
  rw [← hr] at hst
  have cw:=QGD f r hfl.1 hfl.2 (QJC hrs)
  have hrc:=fun k=>QBr k r
  rw [QAc r] at s2 hrc cw
  unfold QBM at cw
  simp +decide -dsimp -implicitDefEqProofs [go_sem,hlt,s2]
  refine QAK cw (by simpa [QAB,QAE] using hrc 0) rfl ?_
  cases hw:QA4 f r with
  | true=>
   rw [hw] at hst
   simp +decide -dsimp -implicitDefEqProofs [go_sem,hlt,s2,w,maxLen]
   refine ⟨⟨by omega,by omega⟩,?_⟩
   have hst2:QKr f (W.ready.take (j + 1)) = QKr f (W.ready.take j) ++ [r]:=by simpa using hst
   have ha:(QKr f (W.ready.take j)).map QAR ++ [QAR r] = (QKr f (W.ready.take (j + 1))).map QAR:=by rw [hst2]; simp
   have hb:(QKr f (W.ready.take j)).length + 1 = (QKr f (W.ready.take (j + 1))).length:=by rw [hst2]; simp
   rw [QAc r] at ha
   rw [ha,hb]
   refine QAG (S:=Nat) (j + 1) hlt (by show W.ready.length - (j + 1) < W.ready.length - j; omega) (QAC (by simp) ?_)
   simp +decide -dsimp -implicitDefEqProofs [go_sem,hcl,hcr,QAM]
  | false=>
   rw [hw] at hst
   simp +decide -dsimp -implicitDefEqProofs [go_sem,w]
   have hst2:QKr f (W.ready.take (j + 1)) = QKr f (W.ready.take j):=by simpa using hst
   rw [← hst2]
   refine QAG (S:=Nat) (j + 1) hlt (by show W.ready.length - (j + 1) < W.ready.length - j; omega) (QAC (by simp) ?_)
   simp +decide -dsimp -implicitDefEqProofs [go_sem,hcl,hcr,QAM]
 ·have e:j = W.ready.length:=by omega
  subst e
  rw [List.take_length]
  simp +decide -dsimp -implicitDefEqProofs [go_sem,QAM]
theorem QQ7 (most:Int) (m:Nat):(if (0:Int) < (if (m:Int) < most then (m:Int) else most) then (if (m:Int) < most then (m:Int) else most) else 0) = (QCC most m:Int):=by
 unfold QCC
 by_cases h1:(m:Int) < most
 ·rw [if_pos h1,if_neg (by omega:¬ most < 0)]
  by_cases h2:(0:Int) < (m:Int)
  ·rw [if_pos h2]; omega
  ·rw [if_neg h2]; omega
 ·rw [if_neg h1]
  by_cases h2:(0:Int) < most
  ·rw [if_pos h2,if_neg (by omega:¬ most < 0)]; omega
  ·rw [if_neg h2]
   by_cases h3:most < 0
   ·rw [if_pos h3]; rfl
   ·rw [if_neg h3]; omega
theorem QO4 (most:Int) (m:Nat):QCC most m ≤ m:=by
 unfold QCC; split <;> omega
set_option maxHeartbeats 4000000 in
theorem QO5 (W:RBus) (name:Txt) (most:Int) {n:Nat} (h:RbOk W n) (hn:n ≤ 1000) (_hmo:-9223372036854775808 ≤ most ∧ most ≤ 9223372036854775807):ACalls Tryz.prog 35 [.agg (QBA W),.str name,.int .i64 most] [] (.tup [.agg (QBA (W.readR name most).1),.imm ((W.readR name most).2.1.map QAU),.bool (W.readR name most).2.2.1,.int .i64 (W.readR name most).2.2.2]) []:=by
 have hcl:=fun k=>QA1 k W.subs
 have hcr:=fun k=>QAM k W.ready
 have nl:=h.nl
 have rl:=h.rl
 have cf:=QKq W name (by omega)
 have hfi:=QY0 W name
 cases hx:W.subs.findIdx? (fun t=>decide (t.name = name)) with
 | none=>
  rw [hx] at hfi cf
  have hf:W.find name = none:=by cases e:W.find name with | none=>rfl | some _=>rw [e] at hfi; cases hfi
  have e:W.readR name most = (W,[],false,300):=by unfold RBus.readR; rw [hf]
  rw [e]
  unfold QKp QBA at cf
  have key:ACalls Tryz.prog 35 [.agg [.imm (W.ready.map QAR),.imm (W.subs.map QAv),.int .i64 W.last],.str name,.int .i64 most] [] (.tup [.agg [.imm (W.ready.map QAR),.imm (W.subs.map QAv),.int .i64 W.last],.nils,.bool false,.int .i64 300]) []:=by
   refine QAH cqq rfl ?_
   refine gs ?_
   refine QAA cf (by simp [QAB,QAE,hcl,hcr]) rfl ?_
   simp +decide -dsimp -implicitDefEqProofs [go_sem,hcl,hcr]
  have h2:=key.nzT
  unfold QBA
  simpa [nzL,nz,QCp,QCA] using h2
 | some i=>
  obtain ⟨hi,hfs,hnm,hbef⟩:=QJp hx
  rw [hx] at hfi cf
  obtain ⟨t,ht⟩:∃ t,t = W.subs[i]:=⟨_,rfl⟩
  rw [← ht] at hfs
  have htm:t ∈ W.subs:=ht ▸ List.getElem_mem hi
  have hfl:=h.fl t htm
  have hsl:=h.sl t htm
  have hwl:=h.wl t htm
  unfold QKp at cf
  simp only at cf
  have hi0:¬ (i:Int) < 0:=by omega
  have s1:QAv W.subs[i] = [.str t.name,.str t.f.sub,.str t.f.tag,.imm (t.wait.map QAU),.imm (t.sees.map QAT),.bool t.behind]:=by rw [← ht]; exact QCJ t
  have hct:=fun k=>QEX k t
  have ep:∀ x,QEF name x W.subs = W.subs.set i x:=fun x=>QOw hi hnm hbef
  rw [QCJ] at hct
  obtain ⟨t',ns,e⟩:∃ t' ns,W.readR name most = ({ W with subs:=W.subs.set i t' },ns,t.behind,0) ∧ ((t.behind = true ∧ t' = { t with sees:=(W.wanted t.f).map (·.path),behind:=false } ∧ ns = (W.wanted t.f).map (fun r=>⟨W.last,1,r⟩)) ∨ (t.behind = false ∧ t' = { t with wait:=t.wait.drop (QCC most t.wait.length) } ∧ ns = t.wait.take (QCC most t.wait.length))):=by
   unfold RBus.readR
   rw [hfs]
   by_cases hb:t.behind = true
   ·exact ⟨{ t with sees:=(W.wanted t.f).map (·.path),behind:=false },_,by simp only [hb,if_true,ep],.inl ⟨hb,rfl,rfl⟩⟩
   ·have hb:t.behind = false:=by simpa using hb
    exact ⟨{ t with wait:=t.wait.drop (QCC most t.wait.length) },_,by simp only [hb,Bool.false_eq_true,if_false,ep],.inr ⟨hb,rfl,rfl⟩⟩
  obtain ⟨e,hcase⟩:=e
  rw [e]
  have cwn:=QQ6 W t.f h hn hfl
  obtain ⟨L,hL⟩:∃ L,L = W.wanted t.f:=⟨_,rfl⟩
  rw [← hL] at cwn hcase
  have hLl:L.length ≤ n:=by rw [hL]; exact Nat.le_trans (List.length_filter_le _ _) rl
  have hcL:=fun k=>QAM k L
  have hct':=fun k=>QEX k t'
  refine QA2 cqq rfl ?_
  unfold QBA at cf cwn
  unfold QBM at cwn
  unfold QBA
  refine gS ?_
  refine gS ?_
  refine QAA cf (by simp [QAB,QAE,hcl,hcr]) rfl ?_
  refine gs ?_
  refine QBU ?_
  simp +decide -dsimp -implicitDefEqProofs [go_sem,hi0]
  refine QBU ?_
  simp +decide -dsimp -implicitDefEqProofs [go_sem,hi,s1]
  refine gS ?_
  refine gS ?_
  unfold goE
  refine QAP ⟨tmps 91 [(3,.ptr 0 0),(6,.ptr 1 0),(10,.int .i64 i),(11,.ptr 2 0),(12,.bool t.behind),(13,.imm (ns.map QAU))],[.box 52 [.imm (W.ready.map QAR),.imm (W.subs.map QAv),.int .i64 W.last],.box 52 [.nils,.nils,.int .i64 0],.box 117 (QAv t')]⟩ (QAD ?_) ?_
  ·have hntl:∀ k (l:List Rcd),QAb k (l.map fun r=>QAU ⟨W.last,1,r⟩) = true:=fun k l=>by
    have:=QA8 k (l.map fun r=>(⟨W.last,1,r⟩:Ntc))
    rw [List.map_map] at this
    exact this
   have hspl:∀ k (l:List Rcd),QAb k (l.map fun r=>[AV.str r.path]) = true:=fun k l=>by
    have:=QAF k (l.map (·.path))
    rw [List.map_map] at this
    exact this
   rcases hcase with ⟨hb,rfl,rfl⟩ | ⟨hb,rfl,rfl⟩
   ·rw [hb] at hct ⊢
    refine gs ?_
    refine QAA cwn (by simp [QAB,QAE,hcl,hcr]) (by simp [QAE,hcL]) ?_
    refine gs ?_
    refine QAQ (S:=Nat) (fun j=>⟨tmps 91 [(3,.ptr 0 0),(6,.ptr 1 0),(10,.int .i64 i),(11,.ptr 2 0),(12,.bool true),(13,.own 3 j),(14,.imm (L.map QAR)),(15,.int .i64 j)],[.box 52 [.imm (W.ready.map QAR),.imm (W.subs.map QAv),.int .i64 W.last],.box 52 [.nils,.nils,.int .i64 0],.box 117 [.str t.name,.str t.f.sub,.str t.f.tag,.imm (t.wait.map QAU),.own 4 j,.bool false],.reg 39 14 ((L.take j).map fun r=>QAU ⟨W.last,1,r⟩),.reg 9 1 ((L.take j).map fun r=>[.str r.path])]⟩) (fun j=>L.length - j) (fun j=>j ≤ L.length) 0 (Nat.zero_le _) ?_ ?_
    ·refine (Wk.nilT 13 39 14 rfl (by simp)).trans ?_
     refine Wk.trans (Wk.nilB (eb:=117) (cs:=[.str t.name,.str t.f.sub,.str t.f.tag,.imm (t.wait.map QAU),.nils,.bool false]) 2 4 9 1 rfl rfl (by simp)) ?_
     refine QAC (by simp) ?_
     simp +decide -dsimp -implicitDefEqProofs [go_sem,hcl,hcr,hcL,QA8]
    intro j hj
    by_cases hlt:j < L.length
    ·have w:IntKind.i64.wrap ((j:Int) + 1) = j + 1:=w64 (by omega) (by omega)
     obtain ⟨r,hr⟩:∃ r,r = L[j]:=⟨_,rfl⟩
     have s2:QAR L[j] = QAR r:=by rw [hr]
     have etk:L.take (j + 1) = L.take j ++ [r]:=by rw [List.take_succ_eq_append_getElem hlt,hr]
     obtain ⟨A,hA⟩:∃ A,A = (L.take j).map fun r=>QAU ⟨W.last,1,r⟩:=⟨_,rfl⟩
     obtain ⟨B,hB⟩:∃ B,B = (L.take j).map fun r=>[AV.str r.path]:=⟨_,rfl⟩
     have hAl:A.length = j:=by rw [hA,List.length_map,List.length_take]; omega
     have hBl:B.length = j:=by rw [hB,List.length_map,List.length_take]; omega
     have e1:A ++ [QAU ⟨W.last,1,r⟩] = (L.take (j + 1)).map fun r=>QAU ⟨W.last,1,r⟩:=by rw [etk,hA]; simp
     have e2:B ++ [[AV.str r.path]] = (L.take (j + 1)).map fun r=>[AV.str r.path]:=by rw [etk,hB]; simp
     obtain ⟨A2,hA2⟩:∃ A2,A2 = (L.take (j + 1)).map fun r=>QAU ⟨W.last,1,r⟩:=⟨_,rfl⟩
     obtain ⟨B2,hB2⟩:∃ B2,B2 = (L.take (j + 1)).map fun r=>[AV.str r.path]:=⟨_,rfl⟩
     have cA:=fun k=>hntl k (L.take (j + 1))
     have cB:=fun k=>hspl k (L.take (j + 1))
     rw [← hA2] at e1
     rw [← hB2] at e2
     simp only [← hA2] at cA
     simp only [← hB2] at cB
     rw [QB4] at e1
     rw [QAc r] at s2
     simp only [← hA,← hB]
     simp +decide -dsimp -implicitDefEqProofs [go_sem,hlt,s2,w,maxLen,hAl,hBl]
     refine ⟨⟨by omega,by omega⟩,⟨by omega,by omega⟩,?_⟩
     rw [e1,e2]
     refine QAG (S:=Nat) (j + 1) hlt (by show L.length - (j + 1) < L.length - j; omega) ?_
     simp only [← hA2,← hB2]
     refine QAC (by simp) ?_
     simp +decide -dsimp -implicitDefEqProofs [go_sem,hcl,hcr,hcL,cA,cB,QA8]
    ·have e:j = L.length:=by omega
     subst e
     rw [List.take_length]
     refine gs ?_
     refine QAN (by simp) ?_
     rw [QCJ]
     have c1:=hntl 0 L
     have c2:=hspl 0 L
     simp +decide -dsimp -implicitDefEqProofs [go_sem,hcl,hcr,QA8]
     exact ⟨hntl 3 L,fun _ _=>rfl,hspl 3 L⟩
   ·rw [hb] at hct ⊢
    have hcn:=QO4 most t.wait.length
    have hci:(QCC most t.wait.length:Int) ≤ t.wait.length:=by omega
    simp +decide -dsimp -implicitDefEqProofs [go_sem,QQ7,hcn]
    have htk:List.take t.wait.length (t.wait.map QAU) = t.wait.map QAU:=List.take_of_length_le (by simp)
    rw [htk]
    refine ⟨fun _ _=>rfl,?_⟩
    refine QAN (by simp) ?_
    rw [QCJ]
    have hd:=QA8 3 (t.wait.drop (QCC most t.wait.length))
    have hk:=QA8 3 (t.wait.take (QCC most t.wait.length))
    rw [List.map_drop] at hd
    rw [List.map_take] at hk
    simp +decide -dsimp -implicitDefEqProofs [go_sem,hcl,hcr,hd,hk,QAF]
  ·rw [QCJ t'] at hct' ⊢
   refine QAD ?_
   have eset:(W.subs.map QAv).set i (QAv t') = (W.subs.set i t').map QAv:=(List.map_set).symm
   have cset:=QA1 0 (W.subs.set i t')
   rw [← eset,QCJ t'] at cset
   simp +decide -dsimp -implicitDefEqProofs [go_sem,maxLen,hi,s1,hcr,cset,QA8]
   exact ⟨fun _ _=>rfl,by omega,by omega⟩
end Go.Ab
