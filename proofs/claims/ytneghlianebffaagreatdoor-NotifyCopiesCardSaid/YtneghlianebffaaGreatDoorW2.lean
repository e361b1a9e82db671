/- Names of interfaces. -/
import Derived.Test.YtneghlianebffaaGreatDoorOX
import Derived.Test.YtneghlianebffaaGreatDoorW1
import Derived.Test.YtneghlianebffaaGreatDoorA5
set_option maxRecDepth 20000
set_option maxHeartbeats 1000000
namespace Go.Ab
open Go Go.Proofs
def QDY (s:List UInt8):Bool:=QAe s && decide (s.length ≤ 15) && !(decide (58 ∈ s)) && !(decide (33 ∈ s))

theorem QFM (cs:List UInt8):∀ s:List UInt8,0 ≤ Lib.indexAny s cs ↔ ∃ x ∈ s,x ∈ cs
 | []=>by simp [Lib.indexAny]
 | b :: r=>by
  have ih:=QFM cs r
  have hge:=Lib.indexAny_ge cs r
  by_cases h:b ∈ cs
  ·simp [Lib.indexAny,h]
  ·by_cases h2:Lib.indexAny r cs = -1
   ·have:¬ ∃ x ∈ r,x ∈ cs:=fun e=>by have:=ih.2 e; omega
    simp only [not_exists,not_and] at this
    simp [Lib.indexAny,h,h2]
    exact this
   ·have h3:0 ≤ Lib.indexAny r cs:=by omega
    obtain ⟨x,hx,hc⟩:=ih.1 h3
    have h4:0 ≤ Lib.indexAny r cs + 1:=by omega
    simp [Lib.indexAny,h,h2,h4]
    exact ⟨x,hx,hc⟩
theorem QI5 (s cs:List UInt8):Lib.containsAny s cs = s.any fun c=>cs.contains c:=by
 unfold Lib.containsAny
 rw [Bool.eq_iff_iff,decide_eq_true_iff,QFM,List.any_eq_true]
 simp only [List.contains_iff_mem]

theorem QKf (s cs:List UInt8) (hs:s.length < 1000000) (hc:cs.length < 1000000) (ha:∀ b ∈ s,b.toNat < 128) (hb:∀ b ∈ cs,b.toNat < 128):ACalls Tryz.prog 170 [.str s,.str cs] [] (.bool (s.any fun c=>cs.contains c)) []:=by
 refine .of_below (by kernel_rfl) fun c vs hv _=>?_
 simp only [QA3,Val] at hv
 obtain ⟨v,vs',rfl,rfl,v2,vs2,rfl,rfl,rfl⟩:=hv
 refine (Tryz.strings_ContainsAny_laid ⟨s.toArray⟩ ⟨cs.toArray⟩ c.w (by show s.length < _; omega) (by show cs.length < _; omega) (fun j b hj=>ha b (List.mem_of_getElem? (by simpa using hj))) (fun j b hj=>hb b (List.mem_of_getElem? (by simpa using hj)))).mono fun e w' h=>?_
 exact ⟨_,h.1,h.2,fun c'=>by simp [Val,QI5]⟩

theorem QIo (s:List UInt8) (b:UInt8):ACalls Tryz.prog 143 [.str s,.str [b]] [] (.bool (decide (b ∈ s))) []:=by
 refine QU2 (by kernel_rfl) fun c vs hv _=>?_
 simp only [QA3,Val] at hv
 obtain ⟨v,vs',rfl,rfl,v2,vs2,rfl,rfl,rfl⟩:=hv
 have h:=Tryz.strings_Contains_one ⟨s.toArray⟩ b c.w
 refine ⟨_,h,fun c'=>?_⟩
 have hn:=(QGY s b).2
 simp only [Val,Value.bool.injEq]
 rw [decide_eq_decide]
 constructor
 ·intro h1
  by_cases h2:b ∈ s
  ·exact h2
  ·have:=hn.2 h2; omega
 ·intro h1
  have:¬ Lib.indexByte s b < 0:=fun h2=>hn.1 h2 h1
  simp; omega

theorem QMk {s:List UInt8} (h:QAe s = true):∀ b ∈ s,b.toNat < 128:=by
 unfold QAe at h
 simp only [Bool.and_eq_true,List.all_eq_true,decide_eq_true_eq] at h
 intro b hb
 have h2:=h.2 b hb
 have key:∀ x ∈ QWa,x.toNat < 128:=by decide
 exact key b h2

theorem any2 (s:List UInt8):(s.any fun c=>([58,33]:List UInt8).contains c) = (decide (58 ∈ s) || decide (33 ∈ s)):=by
 rw [Bool.eq_iff_iff]
 simp only [List.any_eq_true,Bool.or_eq_true,decide_eq_true_eq,List.contains_iff_mem,List.mem_cons,List.not_mem_nil,or_false]
 constructor
 ·rintro ⟨x,hx,rfl | rfl⟩
  ·exact .inl hx
  ·exact .inr hx
 ·rintro (h | h)
  ·exact ⟨_,h,.inl rfl⟩
  ·exact ⟨_,h,.inr rfl⟩

theorem QMl (s:List UInt8):ACalls Tryz.prog 130 [.str s] [] (.bool (QDY s)) []:=by
 refine QAH cqq rfl ?_
 unfold QDY
 refine gs ?_
 refine QAA (QDb s) rfl rfl ?_
 by_cases hv:QAe s = true
 ·by_cases h:s.length ≤ 15
  ·have h':(s.length:Int) ≤ 15:=by omega
   simp +decide -dsimp -implicitDefEqProofs [go_sem,hv,h']
   have hc:=QKf s [58,33] (by omega) (by decide) (QMk hv) (by decide)
   rw [any2] at hc
   refine QAA hc rfl rfl ?_
   simp +decide -dsimp -implicitDefEqProofs [go_sem,hv,h]
  ·have h':¬ (s.length:Int) ≤ 15:=by omega
   simp +decide -dsimp -implicitDefEqProofs [go_sem,hv,h,h']
 ·simp +decide -dsimp -implicitDefEqProofs [go_sem,hv]

theorem QLt (s:List UInt8):ACalls Tryz.prog 102 [.str s] [] (.bool (QDY s)) []:=by
 refine QAH cqq rfl ?_
 unfold QDY
 refine gs ?_
 refine QAA (QEk s) rfl rfl ?_
 by_cases hv:QAe s = true
 ·by_cases h:s.length ≤ 15
  ·have h':(s.length:Int) ≤ 15:=by omega
   simp +decide -dsimp -implicitDefEqProofs [go_sem,hv,h']
   refine QAA (QIo s 58) rfl rfl ?_
   by_cases h1:(58:UInt8) ∈ s
   ·simp +decide -dsimp -implicitDefEqProofs [go_sem,hv,h,h1]
   ·simp +decide -dsimp -implicitDefEqProofs [go_sem,h1]
    refine QAA (QIo s 33) rfl rfl ?_
    simp +decide -dsimp -implicitDefEqProofs [go_sem,hv,h,h1]
  ·have h':¬ (s.length:Int) ≤ 15:=by omega
   simp +decide -dsimp -implicitDefEqProofs [go_sem,hv,h,h']
 ·simp +decide -dsimp -implicitDefEqProofs [go_sem,hv]
end Go.Ab
namespace Go.Ab
open Go Go.Proofs
theorem QNn (s:List UInt8) (hl:s.length < 9223372036854775807):ACalls Tryz.prog 128 [.str s] [] (.bool (decide (s ≠ []) && QCb s)) []:=by
 refine QAH cqq rfl ?_
 by_cases h:s = []
 ·subst h; simp +decide -dsimp -implicitDefEqProofs [go_sem]
 ·simp +decide -dsimp -implicitDefEqProofs [go_sem,h]
  refine QAA (QQE s hl) rfl rfl ?_
  simp +decide -dsimp -implicitDefEqProofs [go_sem,h]

theorem QTa (s:List UInt8):ACalls Tryz.prog 126 [.str s] [] (.str s) []:=by
 refine QAH c126_ok rfl ?_
 unfold c126
 simp +decide -dsimp -implicitDefEqProofs [go_sem]

theorem QMm (s:List UInt8) (hl:s.length < 9223372036854775807):ACalls Tryz.prog 129 [.str s] [] (.bool (!(decide (s ≠ []) && QCb s))) []:=by
 refine QAH c129_ok rfl ?_
 unfold c129
 refine gs ?_
 refine QAA (QNn s hl) rfl rfl ?_
 simp +decide -dsimp -implicitDefEqProofs [go_sem]

def QBK (p:List UInt8 × List UInt8):List AV:=[.str p.1,.str p.2]
theorem QLu (p:List UInt8 × List UInt8):ACalls Tryz.prog 122 [.agg (QBK p)] [] (.str p.1) []:=by
 refine QAH c122_ok rfl ?_
 unfold c122 QBK
 simp +decide -dsimp -implicitDefEqProofs [go_sem]
theorem QOd (p:List UInt8 × List UInt8) (hl:p.2.length < 9223372036854775807):ACalls Tryz.prog 123 [.agg (QBK p)] [] (.bool (QG6 p.1 && QCb p.2)) []:=by
 refine QAH cqq rfl ?_
 unfold QBK
 refine gs ?_
 refine QAA (QaJ p.1) rfl rfl ?_
 by_cases h:QG6 p.1 = true
 ·simp +decide -dsimp -implicitDefEqProofs [go_sem,h]
  refine QAA (QQE p.2 hl) rfl rfl ?_
  simp +decide -dsimp -implicitDefEqProofs [go_sem,h]
 ·simp +decide -dsimp -implicitDefEqProofs [go_sem,h]
end Go.Ab
namespace Go.Ab
open Go Go.Proofs
def QHi:List (List UInt8) → Bool
 | a :: b :: r=>Op.bytesLess a b && QHi (b :: r)
 | _=>true
theorem QEp:∀ {l:List (List UInt8)},QHi l = true ↔ ∀ i (h:i + 1 < l.length),Op.bytesLess l[i] l[i + 1] = true
 | []=>by simp [QHi]
 | [a]=>by simp [QHi]
 | a :: b :: r=>by
  simp only [QHi,Bool.and_eq_true]
  rw [QEp (l:=b :: r)]
  constructor
  ·rintro ⟨h1,h2⟩ i hi
   cases i with
   | zero=>exact h1
   | succ i=>exact h2 i (by simpa using hi)
  ·intro h
   exact ⟨h 0 (by simp),fun i hi=>h (i + 1) (by simpa using hi)⟩
def QHj (l:List (List UInt8)) (g:List UInt8 → Bool) (n:Nat):Bool:=l.all g && QHi l && decide (l.length ≤ n)

theorem QIp (l:List (List UInt8)) (g:List UInt8 → Bool) (G:Nat) (n:Nat) (hl:l.length < 1000000000) (hg:∀ x ∈ l,ACalls Tryz.prog G [.str x] [] (.bool (g x)) []):
  ACalls Tryz.prog 125 [.imm (l.map QAT),.int .i64 n,.fn (.func 126) [] [],.fn (.func G) [] []] [] (.bool (QHj l g n)) []:=by
 refine QAH cqq rfl ?_
 refine gs ?_
 refine QAQ (S:=Nat) (fun i=>⟨tmps 44 [(0,.imm (l.map QAT)),(1,.int .i64 n),(2,.fn (.func 126) [] []),(3,.fn (.func G) [] []),(11,.imm (l.map QAT)),(12,.int .i64 l.length),(13,.int .i64 i)],[]⟩) (fun i=>l.length - i)
  (fun i=>i ≤ l.length ∧ (∀ x ∈ l.take i,g x = true) ∧ ∀ j (h:j + 1 < l.length),j + 1 < i → Op.bytesLess l[j] l[j + 1] = true) 0 (by simp) (QAC (by simp) ?_) ?_
 ·simp +decide -dsimp -implicitDefEqProofs [go_sem]
 intro i hi
 obtain ⟨hi0,hi1,hi2⟩:=hi
 by_cases h:i < l.length
 ·have w:IntKind.i64.wrap ((i:Int) + 1) = i + 1:=w64 (by omega) (by omega)
  simp +decide -dsimp -implicitDefEqProofs [go_sem,h]
  refine QAA (hg l[i] (List.getElem_mem h)) rfl rfl ?_
  by_cases h1:g l[i] = true
  ·have hnext:∀ x ∈ l.take (i + 1),g x = true:=fun x hx=>by
    rw [List.take_succ_eq_append_getElem h] at hx
    rcases List.mem_append.1 hx with hx | hx
    ·exact hi1 x hx
    ·simp at hx; subst hx; exact h1
   by_cases h0:i = 0
   ·subst h0
    simp +decide -dsimp -implicitDefEqProofs [go_sem,h1]
    refine QAG 1 ⟨by omega,hnext,fun j hj hj2=>by omega⟩ (by omega) (QAC (by simp) ?_)
    simp +decide -dsimp -implicitDefEqProofs [go_sem]
   ·obtain ⟨k,rfl⟩:∃ k,i = k + 1:=⟨i - 1,by omega⟩
    have hk:k < l.length:=by omega
    have wk:IntKind.i64.wrap (k:Int) = k:=w64 (by omega) (by omega)
    have e1:(0:Int) < (k:Int) + 1:=by omega
    simp +decide -dsimp -implicitDefEqProofs [go_sem,h1,wk,hk,e1]
    refine QAA (QTa l[k]) rfl rfl ?_
    refine gs ?_
    refine QAA (QTa l[k + 1]) rfl rfl ?_
    by_cases h2:Op.bytesLess l[k] l[k + 1] = true
    ·have w':IntKind.i64.wrap ((k:Int) + 1 + 1) = k + 1 + 1:=w64 (by omega) (by omega)
     simp +decide -dsimp -implicitDefEqProofs [go_sem,h2,w']
     refine QAG (k + 1 + 1) ⟨by omega,hnext,fun j hj hj2=>?_⟩ (by omega) (QAC (by simp) ?_)
     ·by_cases hjk:j = k
      ·subst hjk; exact h2
      ·exact hi2 j hj (by omega)
     simp +decide -dsimp -implicitDefEqProofs [go_sem]
    ·have e:QHj l g n = false:=by
      have:QHi l = false:=by
       rw [Bool.eq_false_iff]; intro ha; exact h2 (QEp.1 ha k h)
      simp [QHj,this]
     simp +decide -dsimp -implicitDefEqProofs [go_sem,h2,e]
  ·have e:QHj l g n = false:=by
    have:l.all g = false:=by rw [List.all_eq_false]; exact ⟨l[i],List.getElem_mem h,h1⟩
    simp [QHj,this]
   simp +decide -dsimp -implicitDefEqProofs [go_sem,h1,e]
 ·have e:i = l.length:=by omega
  subst e
  rw [List.take_length] at hi1
  have e1:l.all g = true:=List.all_eq_true.2 hi1
  have e2:QHi l = true:=QEp.2 fun j hj=>hi2 j hj hj
  have e3:(decide ((l.length:Int) ≤ n)) = decide (l.length ≤ n):=by rw [decide_eq_decide]; omega
  simp +decide -dsimp -implicitDefEqProofs [go_sem,QHj,e1,e2]
end Go.Ab
namespace Go.Ab
open Go Go.Proofs
@[go_sem] theorem QAW (k:Nat) (s:List (List UInt8 × List UInt8)):QAb k (s.map QBK) = true:=QAn fun x _=>by simp [QBK,QAB,QAE]
@[go_sem] theorem QEq (is:List Nat) (s:List (List UInt8 × List UInt8)):QBL is (s.map QBK) = s.map QBK:=by
 induction s with
 | nil=>rfl
 | cons x r ih=>simp [QBL,ih,QBK,QBt,ren]
@[go_sem] theorem QZl (x:List UInt8 × List UInt8):(QBK x).length = 2:=rfl
@[go_sem ↓] theorem QZm (x:List UInt8 × List UInt8) (K:AV → Prop):ldK (some 2) (QBK x) K = K (.agg (QBK x)):=by simp [ldK,QBK]
@[go_sem ↓] theorem QYl (x:List UInt8 × List UInt8) (K:AV → Prop):ldK none (QBK x) K = K (.str x.1):=rfl
@[go_sem] theorem QYm (x:List UInt8 × List UInt8):(QBK x).tail = [.str x.2]:=rfl
@[go_sem ↓] theorem QYn (x:List UInt8 × List UInt8) (K:AV → Prop):ldK none (QBK x).tail K = K (.str x.2):=rfl
@[go_sem ↓] theorem QYo (x:List UInt8 × List UInt8) (K:AV → Prop):ldK none ((QBK x).drop 1) K = K (.str x.2):=rfl
@[go_sem] theorem QWf (x:List UInt8 × List UInt8):(QBK x).drop 0 = QBK x:=rfl
def QDz (p:List UInt8 × List UInt8):Bool:=QG6 p.1 && QCb p.2
def QFh (l:List (List UInt8 × List UInt8)) (n:Nat):Bool:=l.all QDz && QHi (l.map (·.1)) && decide (l.length ≤ n)

theorem QQk (l:List (List UInt8 × List UInt8)) (n:Nat) (hl:l.length < 1000000000) (hv:∀ x ∈ l,x.2.length < 9223372036854775807):
  ACalls Tryz.prog 121 [.imm (l.map QBK),.int .i64 n,.fn (.func 122) [] [],.fn (.func 123) [] []] [] (.bool (QFh l n)) []:=by
 refine QAH cqq rfl ?_
 refine gs ?_
 refine QAQ (S:=Nat) (fun i=>⟨tmps 44 [(0,.imm (l.map QBK)),(1,.int .i64 n),(2,.fn (.func 122) [] []),(3,.fn (.func 123) [] []),(11,.imm (l.map QBK)),(12,.int .i64 l.length),(13,.int .i64 i)],[]⟩) (fun i=>l.length - i)
  (fun i=>i ≤ l.length ∧ (∀ x ∈ l.take i,QDz x = true) ∧ ∀ j (h:j + 1 < l.length),j + 1 < i → Op.bytesLess l[j].1 l[j + 1].1 = true) 0 (by simp) (QAC (by simp) ?_) ?_
 ·simp +decide -dsimp -implicitDefEqProofs [go_sem]
 intro i hi
 obtain ⟨hi0,hi1,hi2⟩:=hi
 by_cases h:i < l.length
 ·have w:IntKind.i64.wrap ((i:Int) + 1) = i + 1:=w64 (by omega) (by omega)
  simp +decide -dsimp -implicitDefEqProofs [go_sem,h]
  refine QAK (show ACalls Tryz.prog 123 [.agg (QBK l[i])] [] (.bool (QDz l[i])) [] from QOd l[i] (hv _ (List.getElem_mem h))) rfl rfl ?_
  by_cases h1:QDz l[i] = true
  ·have hnext:∀ x ∈ l.take (i + 1),QDz x = true:=fun x hx=>by
    rw [List.take_succ_eq_append_getElem h] at hx
    rcases List.mem_append.1 hx with hx | hx
    ·exact hi1 x hx
    ·simp at hx; subst hx; exact h1
   by_cases h0:i = 0
   ·subst h0
    simp +decide -dsimp -implicitDefEqProofs [go_sem,h1]
    refine QAG 1 ⟨by omega,hnext,fun j hj hj2=>by omega⟩ (by omega) (QAC (by simp) ?_)
    simp +decide -dsimp -implicitDefEqProofs [go_sem]
   ·obtain ⟨k,rfl⟩:∃ k,i = k + 1:=⟨i - 1,by omega⟩
    have hk:k < l.length:=by omega
    have wk:IntKind.i64.wrap (k:Int) = k:=w64 (by omega) (by omega)
    have e1:(0:Int) < (k:Int) + 1:=by omega
    simp +decide -dsimp -implicitDefEqProofs [go_sem,h1,wk,hk,e1]
    refine QAK (QLu l[k]) rfl rfl ?_
    refine gs ?_
    refine QAK (QLu l[k + 1]) rfl rfl ?_
    by_cases h2:Op.bytesLess l[k].1 l[k + 1].1 = true
    ·have w':IntKind.i64.wrap ((k:Int) + 1 + 1) = k + 1 + 1:=w64 (by omega) (by omega)
     simp +decide -dsimp -implicitDefEqProofs [go_sem,h2,w']
     refine QAG (k + 1 + 1) ⟨by omega,hnext,fun j hj hj2=>?_⟩ (by omega) (QAC (by simp) ?_)
     ·by_cases hjk:j = k
      ·subst hjk; exact h2
      ·exact hi2 j hj (by omega)
     simp +decide -dsimp -implicitDefEqProofs [go_sem]
    ·have e:QFh l n = false:=by
      have:QHi (l.map (·.1)) = false:=by
       rw [Bool.eq_false_iff]; intro ha; exact h2 (by have:=QEp.1 ha k (by simpa using h); simpa using this)
      simp [QFh,this]
     simp +decide -dsimp -implicitDefEqProofs [go_sem,h2,e]
  ·have e:QFh l n = false:=by
    have:l.all QDz = false:=by rw [List.all_eq_false]; exact ⟨l[i],List.getElem_mem h,h1⟩
    simp [QFh,this]
   simp +decide -dsimp -implicitDefEqProofs [go_sem,h1,e]
 ·have e:i = l.length:=by omega
  subst e
  rw [List.take_length] at hi1
  have e1:l.all QDz = true:=List.all_eq_true.2 hi1
  have e2:QHi (l.map (·.1)) = true:=QEp.2 fun j hj=>(by simpa using hi2 j (by simpa using hj) (by simpa using hj))
  have e3:(decide ((l.length:Int) ≤ n)) = decide (l.length ≤ n):=by rw [decide_eq_decide]; omega
  simp +decide -dsimp -implicitDefEqProofs [go_sem,QFh,e1,e2]
end Go.Ab
namespace Go.Ab
open Go Go.Proofs
theorem QEU (l:List (List UInt8)) (n:Nat) (hl:l.length < 1000000000):
  ACalls Tryz.prog 139 [.imm (l.map QAT),.int .i64 n] [] (.bool (QHi l && decide (l.length ≤ n))) []:=by
 refine QAH cqq rfl ?_
 refine gs ?_
 refine QAQ (S:=Nat) (fun k=>⟨tmps 26 [(0,.imm (l.map QAT)),(1,.int .i64 n),(5,.int .i64 ((k:Int) + 1))],[]⟩) (fun k=>l.length + 1 - k)
  (fun k=>k ≤ l.length ∧ ∀ j (h:j + 1 < l.length),j < k → Op.bytesLess l[j] l[j + 1] = true) 0 (by simp) (QAC (by simp) ?_) ?_
 ·simp +decide -dsimp -implicitDefEqProofs [go_sem]
 intro k hk
 obtain ⟨hk0,hk1⟩:=hk
 by_cases h:k + 1 < l.length
 ·have h':(k:Int) + 1 < l.length:=by omega
  have hk2:k < l.length:=by omega
  have w:IntKind.i64.wrap ((k:Int) + 1 + 1) = k + 1 + 1:=w64 (by omega) (by omega)
  have wk:IntKind.i64.wrap (k:Int) = k:=w64 (by omega) (by omega)
  have t1:((k:Int) + 1).toNat = k + 1:=by omega
  have p1:(0:Int) ≤ (k:Int) + 1:=by omega
  by_cases h2:Op.bytesLess l[k] l[k + 1] = true
  ·simp +decide -dsimp -implicitDefEqProofs [go_sem,h',wk,hk2,h,t1,p1,h2,w]
   refine QAG (k + 1) ⟨by omega,fun j hj hj2=>?_⟩ (by omega) (QAC (by simp) ?_)
   ·by_cases hjk:j = k
    ·subst hjk; exact h2
    ·exact hk1 j hj (by omega)
   simp +decide -dsimp -implicitDefEqProofs [go_sem]
  ·have e:QHi l = false:=by rw [Bool.eq_false_iff]; intro ha; exact h2 (QEp.1 ha k h)
   simp +decide -dsimp -implicitDefEqProofs [go_sem,h',wk,hk2,h,t1,p1,h2,e]
 ·have h':¬ (k:Int) + 1 < l.length:=by omega
  have e2:QHi l = true:=QEp.2 fun j hj=>hk1 j hj (by omega)
  have e3:(decide ((l.length:Int) ≤ n)) = decide (l.length ≤ n):=by rw [decide_eq_decide]; omega
  simp +decide -dsimp -implicitDefEqProofs [go_sem,h',e2]
end Go.Ab
namespace Go.Ab
open Go Go.Proofs
structure Rcd where
 path:List UInt8
 index:Int
 props:List (List UInt8 × List UInt8)
 tags:List (List UInt8)
 links:List (List UInt8)
 run:List (List UInt8)
 load:List (List UInt8)
 name:List UInt8
 prio:Int
 owner:List UInt8
 group:List UInt8
 mode:Int
 deriving DecidableEq
def QAR (r:Rcd):List AV:=[.str r.path,.int .i64 r.index,.imm (r.props.map QBK),.imm (r.tags.map QAT),.imm (r.links.map QAT),.imm (r.run.map QAT),.imm (r.load.map QAT),.str r.name,.int .i64 r.prio,.str r.owner,.str r.group,.int .i64 r.mode]
def QCO (s:List UInt8):Bool:=decide (s ≠ []) && QCb s
def QAk (r:Rcd):Bool:=
 QAf r.path && decide (1 ≤ r.index ∧ r.index ≤ 1073741824) && QFh r.props 64 && QHj r.tags QAe 16 && QHj r.links QDs 16 && QHj r.load QCO 16 && decide (r.run.length ≤ 16) && r.run.all QCO &&
  (decide (r.name = []) || QDY r.name) && decide (-1000 ≤ r.prio ∧ r.prio ≤ 1000) && decide (0 ≤ r.mode ∧ r.mode ≤ 4095) &&
  (decide (r.owner = [] ∧ r.group = [] ∧ r.mode = 0 ∧ r.links = []) || QAe r.owner && QAe r.group)
structure Few (r:Rcd):Prop where
 path:r.path.length < 100000000
 tags:r.tags.length < 1000000000
 props:r.props.length < 1000000000
 vals:∀ x ∈ r.props,x.2.length < 1000000000
 links:r.links.length < 1000000000
 link:∀ x ∈ r.links,x.length < 1000000000
 runs:r.run.length < 1000000000
 rn:∀ x ∈ r.run,x.length < 1000000000
 loads:r.load.length < 1000000000
 ld:∀ x ∈ r.load,x.length < 1000000000

end Go.Ab
namespace Go.Ab
open Go Go.Proofs

def QCG (r:Rcd):Bool:=decide (r.owner = [] ∧ r.group = [] ∧ r.mode = 0 ∧ r.links = [])
theorem QVc (r:Rcd) (hf:Few r):ACalls Tryz.prog 90 [.agg (QAR r)] [] (.bool (QAk r)) []:=by
 refine QA2 cqq rfl ?_
 refine QAP ⟨tmps 93 [(1,.ptr 0 0),(2,.bool false)],[.box 36 (QAR r)]⟩ (QAD ?_) (QAP ⟨tmps 93 [(1,.ptr 0 0),(2,.bool false),(3,.bool (QCG r))],[.box 36 (QAR r)]⟩ (QAD ?_) (QAD ?_))
 ·unfold QAR
  refine gs ?_
  refine QAN (by simp) ?_
  simp +decide -dsimp -implicitDefEqProofs [go_sem]
 ·unfold QAR
  by_cases h1:r.owner = []
  ·by_cases h2:r.group = []
   ·by_cases h3:r.mode = 0
    ·by_cases h4:r.links = []
     ·simp +decide -dsimp -implicitDefEqProofs [go_sem,h1,h2,h3,h4]
      refine QAN (by simp) ?_
      simp +decide -dsimp -implicitDefEqProofs [go_sem,QCG,h1,h2,h3,h4]
     ·simp +decide -dsimp -implicitDefEqProofs [go_sem,h1,h2,h3]
      refine QAN (by simp) ?_
      simp +decide -dsimp -implicitDefEqProofs [go_sem,QCG,h1,h2,h3,h4]
    ·simp +decide -dsimp -implicitDefEqProofs [go_sem,h1,h2,h3]
     refine QAN (by simp) ?_
     simp +decide -dsimp -implicitDefEqProofs [go_sem,QCG,h1,h2,h3]
   ·simp +decide -dsimp -implicitDefEqProofs [go_sem,h1,h2]
    refine QAN (by simp) ?_
    simp +decide -dsimp -implicitDefEqProofs [go_sem,QCG,h1,h2]
  ·simp +decide -dsimp -implicitDefEqProofs [go_sem,h1]
   refine QAN (by simp) ?_
   simp +decide -dsimp -implicitDefEqProofs [go_sem,QCG,h1]
 have hs:QAk r = (QAf r.path && decide (1 ≤ r.index ∧ r.index ≤ 1073741824) && QFh r.props 64 && QHj r.tags QAe 16 && QHj r.links QDs 16 && QHj r.load QCO 16 && decide (r.run.length ≤ 16) && r.run.all QCO &&
  (decide (r.name = []) || QDY r.name) && decide (-1000 ≤ r.prio ∧ r.prio ≤ 1000) && decide (0 ≤ r.mode ∧ r.mode ≤ 4095) && (QCG r || QAe r.owner && QAe r.group)):=rfl
 have c1:=QSK r.path hf.path
 have c2:=QQk r.props 64 hf.props (fun x hx=>by have:=hf.vals x hx; omega)
 have c3:=QIp r.tags QAe 41 16 hf.tags (fun x _=>QDb x)
 have c4:=QIp r.links QDs 127 16 hf.links (fun x hx=>QYM x (hf.link x hx))
 have c5:=QIp r.load QCO 128 16 hf.loads (fun x hx=>QNn x (by have:=hf.ld x hx; omega))
 have c6:=QEB r.run 129 [] [] (fun x=>!QCO x) hf.runs (by simp [QAB]) (by simp [QI3,cvH]) (fun x hx=>QMm x (by have:=hf.rn x hx; omega))
 have e6:(r.run.any fun x=>!QCO x) = !r.run.all QCO:=by rw [← List.not_all_eq_any_not]
 rw [e6] at c6
 have c7:=QMl r.name
 generalize hP:QCG r = pl at *
 unfold QAR
 refine gs ?_
 refine QAA c1 rfl rfl ?_
 by_cases h1:QAf r.path = true
 rotate_left
 ·simp +decide -dsimp -implicitDefEqProofs [go_sem,h1,hs]
 by_cases h2:r.index < 1
 ·have:¬ (1 ≤ r.index ∧ r.index ≤ 1073741824):=by omega
  simp +decide -dsimp -implicitDefEqProofs [go_sem,h1,h2,hs,this]
 by_cases h3:1073741824 < r.index
 ·have:¬ (1 ≤ r.index ∧ r.index ≤ 1073741824):=by omega
  simp +decide -dsimp -implicitDefEqProofs [go_sem,h1,h2,h3,hs,this]
 have hi:(1 ≤ r.index ∧ r.index ≤ 1073741824):=by omega
 simp +decide -dsimp -implicitDefEqProofs [go_sem,h1,h2,h3]
 refine QAA c2 (by simp [go_sem]) rfl ?_
 by_cases h4:QFh r.props 64 = true
 rotate_left
 ·simp +decide -dsimp -implicitDefEqProofs [go_sem,h1,h4,hs]
 simp +decide -dsimp -implicitDefEqProofs [go_sem,h4]
 refine QAA c3 (by simp [go_sem]) rfl ?_
 by_cases h5:QHj r.tags QAe 16 = true
 rotate_left
 ·simp +decide -dsimp -implicitDefEqProofs [go_sem,h5,hs]
 simp +decide -dsimp -implicitDefEqProofs [go_sem,h5]
 refine QAA c4 (by simp [go_sem]) rfl ?_
 by_cases h6:QHj r.links QDs 16 = true
 rotate_left
 ·simp +decide -dsimp -implicitDefEqProofs [go_sem,h6,hs]
 simp +decide -dsimp -implicitDefEqProofs [go_sem,h6]
 refine QAA c5 (by simp [go_sem]) rfl ?_
 by_cases h7:QHj r.load QCO 16 = true
 rotate_left
 ·simp +decide -dsimp -implicitDefEqProofs [go_sem,h7,hs]
 by_cases h8:r.run.length ≤ 16
 rotate_left
 ·have h8':(16:Int) < r.run.length:=by omega
  simp +decide -dsimp -implicitDefEqProofs [go_sem,h7,h8,h8',hs]
 have h8':¬ (16:Int) < r.run.length:=by omega
 simp +decide -dsimp -implicitDefEqProofs [go_sem,h7,h8']
 refine QAA c6 (by simp [go_sem]) rfl ?_
 by_cases h9:r.run.all QCO = true
 rotate_left
 ·simp +decide -dsimp -implicitDefEqProofs [go_sem,h9,hs]
 have fin:∀ bo bg:Bool,bo = QAe r.owner → bg = QAe r.group → (decide (r.name = []) || QDY r.name) = true → (-1000 ≤ r.prio ∧ r.prio ≤ 1000) → (0 ≤ r.mode ∧ r.mode ≤ 4095) → QAk r = (pl || bo && bg):=fun bo bg e1 e2 e3 e4 e5=>by
  rw [hs,e1,e2,h1,h4,h5,h6,h7,h9,e3]; simp [hi,h8,e4,e5]
 by_cases h10:r.name = []
 ·have hn:(decide (r.name = []) || QDY r.name) = true:=by simp [h10]
  by_cases h11:r.prio < -1000
  ·have:¬ (-1000 ≤ r.prio ∧ r.prio ≤ 1000):=by omega
   simp +decide -dsimp -implicitDefEqProofs [go_sem,h9,h10,h11,hs,this]
  by_cases h12:1000 < r.prio
  ·have:¬ (-1000 ≤ r.prio ∧ r.prio ≤ 1000):=by omega
   simp +decide -dsimp -implicitDefEqProofs [go_sem,h9,h10,h11,h12,hs,this]
  by_cases h13:r.mode < 0
  ·have:¬ (0 ≤ r.mode ∧ r.mode ≤ 4095):=by omega
   simp +decide -dsimp -implicitDefEqProofs [go_sem,h9,h10,h11,h12,h13,hs,this]
  by_cases h14:4095 < r.mode
  ·have:¬ (0 ≤ r.mode ∧ r.mode ≤ 4095):=by omega
   simp +decide -dsimp -implicitDefEqProofs [go_sem,h9,h10,h11,h12,h13,h14,hs,this]
  rw [fin _ _ rfl rfl hn (by omega) (by omega)]
  cases pl with
  | true=>simp +decide -dsimp -implicitDefEqProofs [go_sem,h9,h10,h11,h12,h13,h14]
  | false=>
   simp +decide -dsimp -implicitDefEqProofs [go_sem,h9,h10,h11,h12,h13,h14]
   refine QAA (QDb r.owner) rfl rfl ?_
   by_cases h15:QAe r.owner = true
   ·simp +decide -dsimp -implicitDefEqProofs [go_sem,h15]
    refine QAA (QDb r.group) rfl rfl ?_
    simp +decide -dsimp -implicitDefEqProofs [go_sem,h15]
   ·simp +decide -dsimp -implicitDefEqProofs [go_sem,h15]
 ·simp +decide -dsimp -implicitDefEqProofs [go_sem,h9,h10]
  refine QAA c7 rfl rfl ?_
  by_cases h10b:QDY r.name = true
  rotate_left
  ·simp +decide -dsimp -implicitDefEqProofs [go_sem,h10,h10b,hs]
  have hn:(decide (r.name = []) || QDY r.name) = true:=by simp [h10b]
  by_cases h11:r.prio < -1000
  ·have:¬ (-1000 ≤ r.prio ∧ r.prio ≤ 1000):=by omega
   simp +decide -dsimp -implicitDefEqProofs [go_sem,h10,h10b,h11,hs,this]
  by_cases h12:1000 < r.prio
  ·have:¬ (-1000 ≤ r.prio ∧ r.prio ≤ 1000):=by omega
   simp +decide -dsimp -implicitDefEqProofs [go_sem,h10,h10b,h11,h12,hs,this]
  by_cases h13:r.mode < 0
  ·have:¬ (0 ≤ r.mode ∧ r.mode ≤ 4095):=by omega
   simp +decide -dsimp -implicitDefEqProofs [go_sem,h10,h10b,h11,h12,h13,hs,this]
  by_cases h14:4095 < r.mode
  ·have:¬ (0 ≤ r.mode ∧ r.mode ≤ 4095):=by omega
   simp +decide -dsimp -implicitDefEqProofs [go_sem,h10,h10b,h11,h12,h13,h14,hs,this]
  rw [fin _ _ rfl rfl hn (by omega) (by omega)]
  cases pl with
  | true=>simp +decide -dsimp -implicitDefEqProofs [go_sem,h10,h10b,h11,h12,h13,h14]
  | false=>
   simp +decide -dsimp -implicitDefEqProofs [go_sem,h10,h10b,h11,h12,h13,h14]
   refine QAA (QDb r.owner) rfl rfl ?_
   by_cases h15:QAe r.owner = true
   ·simp +decide -dsimp -implicitDefEqProofs [go_sem,h15]
    refine QAA (QDb r.group) rfl rfl ?_
    simp +decide -dsimp -implicitDefEqProofs [go_sem,h15]
   ·simp +decide -dsimp -implicitDefEqProofs [go_sem,h15]
end Go.Ab
namespace Go.Ab
open Go Go.Proofs

def QHk (r:Rcd):Bool:=QFh r.props 64 && QHj r.tags QAe 16 && QHj r.links QDs 16 && QHj r.load QCO 16 && decide (r.run.length ≤ 16) && r.run.all QCO

theorem QVd (r:Rcd) (hf:Few r):ACalls Tryz.prog 101 [.agg (QAR r)] [] (.bool (QHk r)) []:=by
 refine QA2 cqq rfl ?_
 have N0:∀ i:Nat,i < 153 → True:=fun _ _=>trivial
 refine QAP ⟨tmps 153 [(1,.ptr 0 0),(2,.bool false)],[.box 36 (QAR r)]⟩ (QAD ?_) ?_
 ·unfold QAR
  refine gs ?_
  refine QAN (by simp) ?_
  simp +decide -dsimp -implicitDefEqProofs [go_sem]
 by_cases hb:r.props.length ≤ 64 ∧ (QHi r.tags = true ∧ r.tags.length ≤ 16) ∧ (QHi r.links = true ∧ r.links.length ≤ 16) ∧ r.run.length ≤ 16 ∧ (QHi r.load = true ∧ r.load.length ≤ 16)
 rotate_left
 ·have hbad:QHk r = false:=by
   rw [Bool.eq_false_iff]; intro h
   simp only [QHk,QFh,QHj,Bool.and_eq_true,decide_eq_true_eq] at h
   exact hb ⟨h.1.1.1.1.1.2,⟨h.1.1.1.1.2.1.2,h.1.1.1.1.2.2⟩,⟨h.1.1.1.2.1.2,h.1.1.1.2.2⟩,h.1.2,⟨h.1.1.2.1.2,h.1.1.2.2⟩⟩
  refine QAD ?_
  rw [hbad]
  unfold QAR
  have t1:=QEU r.tags 16 hf.tags
  have t2:=QEU r.links 16 hf.links
  have t3:=QEU r.load 16 hf.loads
  by_cases h1:r.props.length ≤ 64
  rotate_left
  ·have h1':(64:Int) < r.props.length:=by omega
   simp +decide -dsimp -implicitDefEqProofs [go_sem,h1']
  have h1':¬ (64:Int) < r.props.length:=by omega
  simp +decide -dsimp -implicitDefEqProofs [go_sem,h1']
  refine QAA t1 (by simp [go_sem]) rfl ?_
  by_cases h2:(QHi r.tags && decide (r.tags.length ≤ 16)) = true
  rotate_left
  ·simp only [Bool.not_eq_true] at h2
   simp +decide -dsimp -implicitDefEqProofs [go_sem,h2]
  simp +decide -dsimp -implicitDefEqProofs [go_sem,h2]
  refine QAA t2 (by simp [go_sem]) rfl ?_
  by_cases h3:(QHi r.links && decide (r.links.length ≤ 16)) = true
  rotate_left
  ·simp only [Bool.not_eq_true] at h3
   simp +decide -dsimp -implicitDefEqProofs [go_sem,h3]
  by_cases h4:r.run.length ≤ 16
  rotate_left
  ·have h4':(16:Int) < r.run.length:=by omega
   simp +decide -dsimp -implicitDefEqProofs [go_sem,h3,h4']
  have h4':¬ (16:Int) < r.run.length:=by omega
  simp +decide -dsimp -implicitDefEqProofs [go_sem,h3,h4']
  refine QAA t3 (by simp [go_sem]) rfl ?_
  by_cases h5:(QHi r.load && decide (r.load.length ≤ 16)) = true
  ·exfalso
   simp only [Bool.and_eq_true,decide_eq_true_eq] at h2 h3 h5
   exact hb ⟨h1,h2,h3,h4,h5⟩
  ·simp only [Bool.not_eq_true] at h5
   simp +decide -dsimp -implicitDefEqProofs [go_sem,h5]
 have hl:QHk r = (r.props.all QDz && QHi (r.props.map (·.1)) && r.tags.all QAe && r.links.all QDs && r.run.all QCO && r.load.all QCO):=by
  simp only [QHk,QFh,QHj,hb.1,hb.2.1,hb.2.2.1,hb.2.2.2.1,hb.2.2.2.2,decide_true,Bool.and_true]
  cases r.props.all QDz <;> cases QHi (r.props.map (·.1)) <;> cases r.tags.all QAe <;> cases r.links.all QDs <;> cases r.run.all QCO <;> cases r.load.all QCO <;> rfl
 refine QAP ⟨tmps 153 [(1,.ptr 0 0),(2,.bool false)],[.box 36 (QAR r)]⟩ (QAD ?_) ?_
 ·have t1:=QEU r.tags 16 hf.tags
  have t2:=QEU r.links 16 hf.links
  have t3:=QEU r.load 16 hf.loads
  have h1':¬ (64:Int) < r.props.length:=by omega
  have h4':¬ (16:Int) < r.run.length:=by omega
  simp only [hb.2.1,hb.2.2.1,hb.2.2.2.2,decide_true,Bool.and_true] at t1 t2 t3
  unfold QAR
  simp +decide -dsimp -implicitDefEqProofs [go_sem,h1']
  refine QAA t1 (by simp [go_sem]) rfl ?_
  refine gs ?_
  refine QAA t2 (by simp [go_sem]) rfl ?_
  simp +decide -dsimp -implicitDefEqProofs [go_sem,h4']
  refine QAA t3 (by simp [go_sem]) rfl ?_
  refine gs ?_
  refine QAN (by simp) ?_
  simp +decide -dsimp -implicitDefEqProofs [go_sem]
 refine QAD ?_
 rw [hl]
 unfold QAR
 simp +decide -dsimp -implicitDefEqProofs [go_sem]
 -- the attributes
 refine QAQ (S:=Nat) (fun i=>⟨tmps 153 [(1,.ptr 0 0),(3,.int .i64 i)],[.box 36 (QAR r)]⟩) (fun i=>r.props.length - i)
  (fun i=>i ≤ r.props.length ∧ (∀ x ∈ r.props.take i,QDz x = true) ∧ ∀ j (h:j + 1 < r.props.length),j + 1 < i → Op.bytesLess r.props[j].1 r.props[j + 1].1 = true) 0 (by simp) (QAC (by simp) ?_) ?_
 ·unfold QAR; simp +decide -dsimp -implicitDefEqProofs [go_sem]
 intro i hi
 obtain ⟨hi0,hi1,hi2⟩:=hi
 unfold QAR
 by_cases h:i < r.props.length
 ·have w:IntKind.i64.wrap ((i:Int) + 1) = i + 1:=w64 (by omega) (by have:=hf.props; omega)
  simp +decide -dsimp -implicitDefEqProofs [go_sem,h]
  refine QAK (QYK r.props[i].1) rfl rfl ?_
  by_cases h1:QG6 r.props[i].1 = true
  rotate_left
  ·have e:r.props.all QDz = false:=by rw [List.all_eq_false]; exact ⟨_,List.getElem_mem h,by simp [QDz,h1]⟩
   simp +decide -dsimp -implicitDefEqProofs [go_sem,h1,e]
  simp +decide -dsimp -implicitDefEqProofs [go_sem,h,h1]
  refine QAK (QMT r.props[i].2 (by have:=hf.vals _ (List.getElem_mem h); omega)) rfl rfl ?_
  by_cases h2:QCb r.props[i].2 = true
  rotate_left
  ·have e:r.props.all QDz = false:=by rw [List.all_eq_false]; exact ⟨_,List.getElem_mem h,by simp [QDz,h2]⟩
   simp +decide -dsimp -implicitDefEqProofs [go_sem,h2,e]
  have hnext:∀ x ∈ r.props.take (i + 1),QDz x = true:=fun x hx=>by
   rw [List.take_succ_eq_append_getElem h] at hx
   rcases List.mem_append.1 hx with hx | hx
   ·exact hi1 x hx
   ·simp at hx; subst hx; simp [QDz,h1,h2]
  by_cases h0:i = 0
  ·subst h0
   simp +decide -dsimp -implicitDefEqProofs [go_sem,h2]
   refine QAG 1 ⟨by omega,hnext,fun j hj hj2=>by omega⟩ (by omega) (QAC (by simp) ?_)
   simp +decide -dsimp -implicitDefEqProofs [go_sem]
  ·obtain ⟨k,rfl⟩:∃ k,i = k + 1:=⟨i - 1,by omega⟩
   have hk:k < r.props.length:=by omega
   have wk:IntKind.i64.wrap (k:Int) = k:=w64 (by omega) (by have:=hf.props; omega)
   have w':IntKind.i64.wrap ((k:Int) + 1 + 1) = k + 1 + 1:=w64 (by omega) (by have:=hf.props; omega)
   have e1:(0:Int) < (k:Int) + 1:=by omega
   have e2:((k:Int) + 1).toNat = k + 1:=by omega
   have e3:(0:Int) ≤ (k:Int) + 1:=by omega
   have e4:(k:Int) + 1 < r.props.length:=by omega
   by_cases h3:Op.bytesLess r.props[k].1 r.props[k + 1].1 = true
   ·simp +decide -dsimp -implicitDefEqProofs [go_sem,h,h2,wk,hk,e1,e2,e3,h3,w']
    refine QAG (k + 1 + 1) ⟨by omega,hnext,fun j hj hj2=>?_⟩ (by omega) (QAC (by simp) ?_)
    ·by_cases hjk:j = k
     ·subst hjk; exact h3
     ·exact hi2 j hj (by omega)
    simp +decide -dsimp -implicitDefEqProofs [go_sem]
   ·have e:QHi (r.props.map (·.1)) = false:=by
     rw [Bool.eq_false_iff]; intro ha; exact h3 (by have:=QEp.1 ha k (by simpa using h); simpa using this)
    simp +decide -dsimp -implicitDefEqProofs [go_sem,h,h2,wk,hk,e1,e2,e3,h3,e]
 have ei:i = r.props.length:=by omega
 subst ei
 rw [List.take_length] at hi1
 have g1:r.props.all QDz = true:=List.all_eq_true.2 hi1
 have g2:QHi (r.props.map (·.1)) = true:=QEp.2 fun j hj=>(by simpa using hi2 j (by simpa using hj) (by simpa using hj))
 rw [g1,g2]
 refine gs ?_
 refine QAQ (S:=Nat) (fun i=>⟨tmps 153 [(1,.ptr 0 0),(4,.int .i64 i)],[.box 36 (QAR r)]⟩) (fun i=>r.tags.length - i)
  (fun i=>i ≤ r.tags.length ∧ ∀ x ∈ r.tags.take i,QAe x = true) 0 (by simp) (QAC (by simp) ?_) ?_
 ·unfold QAR; simp +decide -dsimp -implicitDefEqProofs [go_sem]
 intro i hi
 obtain ⟨hi0,hi1⟩:=hi
 unfold QAR
 by_cases h:i < r.tags.length
 ·have w:IntKind.i64.wrap ((i:Int) + 1) = i + 1:=w64 (by omega) (by have:=hf.tags; omega)
  have hbad:QAe r.tags[i] = false → r.tags.all QAe = false:=fun e=>by rw [List.all_eq_false]; exact ⟨_,List.getElem_mem h,by simp [e]⟩
  simp +decide -dsimp -implicitDefEqProofs [go_sem,h]
  refine QAA (QEk r.tags[i]) rfl rfl ?_
  by_cases h1:QAe r.tags[i] = true
  ·skip
   simp +decide -dsimp -implicitDefEqProofs [go_sem,h1,w]
   refine QAG (i + 1) ⟨by omega,fun x hx=>?_⟩ (by omega) (QAC (by simp) ?_)
   ·rw [List.take_succ_eq_append_getElem h] at hx
    rcases List.mem_append.1 hx with hx | hx
    ·exact hi1 x hx
    ·simp at hx; subst hx; exact h1
   simp +decide -dsimp -implicitDefEqProofs [go_sem]
  ·have e:=hbad (by simpa using h1)
   skip
   simp +decide -dsimp -implicitDefEqProofs [go_sem,h1,e]
 have ei:i = r.tags.length:=by omega
 subst ei
 rw [List.take_length] at hi1
 have g1:r.tags.all QAe = true:=List.all_eq_true.2 hi1
 rw [g1]
 refine gs ?_
 refine QAQ (S:=Nat) (fun i=>⟨tmps 153 [(1,.ptr 0 0),(5,.int .i64 i)],[.box 36 (QAR r)]⟩) (fun i=>r.links.length - i)
  (fun i=>i ≤ r.links.length ∧ ∀ x ∈ r.links.take i,QDs x = true) 0 (by simp) (QAC (by simp) ?_) ?_
 ·unfold QAR; simp +decide -dsimp -implicitDefEqProofs [go_sem]
 intro i hi
 obtain ⟨hi0,hi1⟩:=hi
 unfold QAR
 by_cases h:i < r.links.length
 ·have w:IntKind.i64.wrap ((i:Int) + 1) = i + 1:=w64 (by omega) (by have:=hf.links; omega)
  have hbad:QDs r.links[i] = false → r.links.all QDs = false:=fun e=>by rw [List.all_eq_false]; exact ⟨_,List.getElem_mem h,by simp [e]⟩
  simp +decide -dsimp -implicitDefEqProofs [go_sem,h]
  refine QAA (QU9 r.links[i] (by have:=hf.link _ (List.getElem_mem h); omega)) rfl rfl ?_
  by_cases h1:QDs r.links[i] = true
  ·skip
   simp +decide -dsimp -implicitDefEqProofs [go_sem,h1,w]
   refine QAG (i + 1) ⟨by omega,fun x hx=>?_⟩ (by omega) (QAC (by simp) ?_)
   ·rw [List.take_succ_eq_append_getElem h] at hx
    rcases List.mem_append.1 hx with hx | hx
    ·exact hi1 x hx
    ·simp at hx; subst hx; exact h1
   simp +decide -dsimp -implicitDefEqProofs [go_sem]
  ·have e:=hbad (by simpa using h1)
   skip
   simp +decide -dsimp -implicitDefEqProofs [go_sem,h1,e]
 have ei:i = r.links.length:=by omega
 subst ei
 rw [List.take_length] at hi1
 have g1:r.links.all QDs = true:=List.all_eq_true.2 hi1
 rw [g1]
 refine gs ?_
 refine QAQ (S:=Nat) (fun i=>⟨tmps 153 [(1,.ptr 0 0),(6,.int .i64 i)],[.box 36 (QAR r)]⟩) (fun i=>r.run.length - i)
  (fun i=>i ≤ r.run.length ∧ ∀ x ∈ r.run.take i,QCO x = true) 0 (by simp) (QAC (by simp) ?_) ?_
 ·unfold QAR; simp +decide -dsimp -implicitDefEqProofs [go_sem]
 intro i hi
 obtain ⟨hi0,hi1⟩:=hi
 unfold QAR
 by_cases h:i < r.run.length
 ·have w:IntKind.i64.wrap ((i:Int) + 1) = i + 1:=w64 (by omega) (by have:=hf.runs; omega)
  have hbad:QCO r.run[i] = false → r.run.all QCO = false:=fun e=>by rw [List.all_eq_false]; exact ⟨_,List.getElem_mem h,by simp [e]⟩
  by_cases h0:r.run[i] = []
  ·have e:=hbad (by simp [QCO,h0])
   simp +decide -dsimp -implicitDefEqProofs [go_sem,h,h0,e]
  simp +decide -dsimp -implicitDefEqProofs [go_sem,h,h0]
  refine QAA (QMT r.run[i] (by have:=hf.rn _ (List.getElem_mem h); omega)) rfl rfl ?_
  by_cases h1:QCO r.run[i] = true
  ·have ht:QCb r.run[i] = true:=by simpa [QCO,h0] using h1
   simp +decide -dsimp -implicitDefEqProofs [go_sem,ht,w,h0]
   refine QAG (i + 1) ⟨by omega,fun x hx=>?_⟩ (by omega) (QAC (by simp) ?_)
   ·rw [List.take_succ_eq_append_getElem h] at hx
    rcases List.mem_append.1 hx with hx | hx
    ·exact hi1 x hx
    ·simp at hx; subst hx; exact h1
   simp +decide -dsimp -implicitDefEqProofs [go_sem]
  ·have e:=hbad (by simpa using h1)
   have ht:QCb r.run[i] = false:=by simpa [QCO,h0] using h1
   simp +decide -dsimp -implicitDefEqProofs [go_sem,ht,e,h0]
 have ei:i = r.run.length:=by omega
 subst ei
 rw [List.take_length] at hi1
 have g1:r.run.all QCO = true:=List.all_eq_true.2 hi1
 rw [g1]
 refine gs ?_
 refine QAQ (S:=Nat) (fun i=>⟨tmps 153 [(1,.ptr 0 0),(7,.int .i64 i)],[.box 36 (QAR r)]⟩) (fun i=>r.load.length - i)
  (fun i=>i ≤ r.load.length ∧ ∀ x ∈ r.load.take i,QCO x = true) 0 (by simp) (QAC (by simp) ?_) ?_
 ·unfold QAR; simp +decide -dsimp -implicitDefEqProofs [go_sem]
 intro i hi
 obtain ⟨hi0,hi1⟩:=hi
 unfold QAR
 by_cases h:i < r.load.length
 ·have w:IntKind.i64.wrap ((i:Int) + 1) = i + 1:=w64 (by omega) (by have:=hf.loads; omega)
  have hbad:QCO r.load[i] = false → r.load.all QCO = false:=fun e=>by rw [List.all_eq_false]; exact ⟨_,List.getElem_mem h,by simp [e]⟩
  by_cases h0:r.load[i] = []
  ·have e:=hbad (by simp [QCO,h0])
   simp +decide -dsimp -implicitDefEqProofs [go_sem,h,h0,e]
  simp +decide -dsimp -implicitDefEqProofs [go_sem,h,h0]
  refine QAA (QMT r.load[i] (by have:=hf.ld _ (List.getElem_mem h); omega)) rfl rfl ?_
  by_cases h1:QCO r.load[i] = true
  ·have ht:QCb r.load[i] = true:=by simpa [QCO,h0] using h1
   simp +decide -dsimp -implicitDefEqProofs [go_sem,ht,w,h0]
   refine QAG (i + 1) ⟨by omega,fun x hx=>?_⟩ (by omega) (QAC (by simp) ?_)
   ·rw [List.take_succ_eq_append_getElem h] at hx
    rcases List.mem_append.1 hx with hx | hx
    ·exact hi1 x hx
    ·simp at hx; subst hx; exact h1
   simp +decide -dsimp -implicitDefEqProofs [go_sem]
  ·have e:=hbad (by simpa using h1)
   have ht:QCb r.load[i] = false:=by simpa [QCO,h0] using h1
   simp +decide -dsimp -implicitDefEqProofs [go_sem,ht,e,h0]
 have ei:i = r.load.length:=by omega
 subst ei
 rw [List.take_length] at hi1
 have g1:r.load.all QCO = true:=List.all_eq_true.2 hi1
 rw [g1]
 simp +decide -dsimp -implicitDefEqProofs [go_sem]
end Go.Ab
namespace Go.Ab
open Go Go.Proofs

theorem QSg (r:Rcd) (hf:Few r):ACalls Tryz.prog 62 [.agg (QAR r)] [] (.bool (QAk r)) []:=by
 refine QA2 cqq rfl ?_
 refine QAP ⟨tmps 81 [(1,.ptr 0 0)],[.box 36 (QAR r)]⟩ (QAD ?_) (QAP ⟨tmps 81 [(1,.ptr 0 0),(3,.bool (QAe r.owner && QAe r.group))],[.box 36 (QAR r)]⟩ (QAD ?_)
  (QAP ⟨tmps 81 [(1,.ptr 0 0),(3,.bool (QCG r || QAe r.owner && QAe r.group))],[.box 36 (QAR r)]⟩ (QAD ?_) (QAD ?_)))
 ·unfold QAR
  refine gs ?_
  refine QAN (by simp) ?_
  simp +decide -dsimp -implicitDefEqProofs [go_sem]
 ·unfold QAR
  refine gs ?_
  refine QAA (QEk r.owner) rfl rfl ?_
  by_cases h1:QAe r.owner = true
  ·simp +decide -dsimp -implicitDefEqProofs [go_sem,h1]
   refine QAA (QEk r.group) rfl rfl ?_
   simp +decide -dsimp -implicitDefEqProofs [go_sem,h1]
   refine QAN (by simp) ?_
   simp +decide -dsimp -implicitDefEqProofs [go_sem]
  ·simp only [Bool.not_eq_true] at h1
   simp +decide -dsimp -implicitDefEqProofs [go_sem,h1]
   refine QAN (by simp) ?_
   simp +decide -dsimp -implicitDefEqProofs [go_sem]
 ·unfold QAR
  have P1:∀ {b:Bool},QCG r = b → QCG r = b:=id
  by_cases h1:r.owner = []
  ·by_cases h2:r.group = []
   ·by_cases h3:r.mode = 0
    ·by_cases h4:r.links = []
     ·have hp:QCG r = true:=by simp [QCG,h1,h2,h3,h4]
      rw [hp]
      simp +decide -dsimp -implicitDefEqProofs [go_sem,h1,h2,h3,h4]
      refine QAN (by simp) ?_
      simp +decide -dsimp -implicitDefEqProofs [go_sem]
     ·have hp:QCG r = false:=by simp [QCG,h1,h2,h3,h4]
      rw [hp]
      simp +decide -dsimp -implicitDefEqProofs [go_sem,h1,h2,h3,h4]
      refine QAN (by simp) ?_
      simp +decide -dsimp -implicitDefEqProofs [go_sem]
    ·have hp:QCG r = false:=by simp [QCG,h1,h2,h3]
     rw [hp]
     simp +decide -dsimp -implicitDefEqProofs [go_sem,h1,h2,h3]
     refine QAN (by simp) ?_
     simp +decide -dsimp -implicitDefEqProofs [go_sem]
   ·have hp:QCG r = false:=by simp [QCG,h1,h2]
    rw [hp]
    simp +decide -dsimp -implicitDefEqProofs [go_sem,h1,h2]
    refine QAN (by simp) ?_
    simp +decide -dsimp -implicitDefEqProofs [go_sem]
  ·have hp:QCG r = false:=by simp [QCG,h1]
   rw [hp]
   simp +decide -dsimp -implicitDefEqProofs [go_sem,h1]
   refine QAN (by simp) ?_
   simp +decide -dsimp -implicitDefEqProofs [go_sem]
 have hs:QAk r = (QAf r.path && decide (1 ≤ r.index ∧ r.index ≤ 1073741824) && QHk r &&
  (decide (r.name = []) || QDY r.name) && decide (-1000 ≤ r.prio ∧ r.prio ≤ 1000) && decide (0 ≤ r.mode ∧ r.mode ≤ 4095) && (QCG r || QAe r.owner && QAe r.group)):=by
  unfold QAk QHk
  change _ = (QAf r.path && decide (1 ≤ r.index ∧ r.index ≤ 1073741824) && _ && _ && _ && _ && (QCG r || _))
  unfold QCG
  simp only [Bool.and_assoc]
 have c1:=QSL r.path hf.path
 have c2:=QVd r hf
 have c7:=QLt r.name
 generalize hP:(QCG r || QAe r.owner && QAe r.group) = pl at *
 have hL:QAR r = [.str r.path,.int .i64 r.index,.imm (r.props.map QBK),.imm (r.tags.map QAT),.imm (r.links.map QAT),.imm (r.run.map QAT),.imm (r.load.map QAT),.str r.name,.int .i64 r.prio,.str r.owner,.str r.group,.int .i64 r.mode]:=rfl
 rw [hL] at c2 ⊢
 cases pl with
 | false=>simp +decide -dsimp -implicitDefEqProofs [go_sem,hs]
 | true=>
 refine gs ?_
 refine QAA c1 rfl rfl ?_
 by_cases h1:QAf r.path = true
 rotate_left
 ·simp +decide -dsimp -implicitDefEqProofs [go_sem,h1,hs]
 by_cases h2:1 ≤ r.index
 rotate_left
 ·simp +decide -dsimp -implicitDefEqProofs [go_sem,h1,h2,hs]
 by_cases h3:r.index ≤ 1073741824
 rotate_left
 ·simp +decide -dsimp -implicitDefEqProofs [go_sem,h1,h2,h3,hs]
 simp +decide -dsimp -implicitDefEqProofs [go_sem,h1,h2,h3]
 refine QAA c2 (by simp [go_sem]) rfl ?_
 by_cases h4:QHk r = true
 rotate_left
 ·simp +decide -dsimp -implicitDefEqProofs [go_sem,h4,hs]
 by_cases h10:r.name = []
 ·have hx:True:=trivial
  by_cases h11:-1000 ≤ r.prio
  rotate_left
  ·simp +decide -dsimp -implicitDefEqProofs [go_sem,h4,h10,h11,hs]
  by_cases h12:r.prio ≤ 1000
  rotate_left
  ·simp +decide -dsimp -implicitDefEqProofs [go_sem,h4,h10,h11,h12,hs]
  by_cases h13:0 ≤ r.mode
  rotate_left
  ·simp +decide -dsimp -implicitDefEqProofs [go_sem,h4,h10,h11,h12,h13,hs]
  by_cases h14:r.mode ≤ 4095
  ·simp +decide -dsimp -implicitDefEqProofs [go_sem,h10,h1,h2,h3,h4,h11,h12,h13,h14,hs]
  ·simp +decide -dsimp -implicitDefEqProofs [go_sem,h4,h10,h11,h12,h13,h14,hs]
 ·simp +decide -dsimp -implicitDefEqProofs [go_sem,h4,h10]
  refine QAA c7 rfl rfl ?_
  by_cases h10b:QDY r.name = true
  rotate_left
  ·simp +decide -dsimp -implicitDefEqProofs [go_sem,h10,h10b,hs]
  by_cases h11:-1000 ≤ r.prio
  rotate_left
  ·simp +decide -dsimp -implicitDefEqProofs [go_sem,h10,h10b,h11,hs]
  by_cases h12:r.prio ≤ 1000
  rotate_left
  ·simp +decide -dsimp -implicitDefEqProofs [go_sem,h10,h10b,h11,h12,hs]
  by_cases h13:0 ≤ r.mode
  rotate_left
  ·simp +decide -dsimp -implicitDefEqProofs [go_sem,h10,h10b,h11,h12,h13,hs]
  by_cases h14:r.mode ≤ 4095
  ·simp +decide -dsimp -implicitDefEqProofs [go_sem,h10,h10b,h1,h2,h3,h4,h11,h12,h13,h14,hs]
  ·simp +decide -dsimp -implicitDefEqProofs [go_sem,h10,h10b,h11,h12,h13,h14,hs]

end Go.Ab
namespace Go.Ab
open Go Go.Proofs

@[go_sem ↓] theorem QWg (x:List UInt8 × List UInt8):QED [some .str,some .str] (QBK x) = true:=rfl
@[go_sem ↓] theorem QYp (x:List UInt8 × List UInt8):(QBK x).take 2 = QBK x:=rfl
@[go_sem ↓] theorem QTb (x y:List UInt8 × List UInt8):QBp (QBK x) (QBK y) = some (decide (x = y)):=by
 obtain ⟨a,b⟩:=x
 obtain ⟨c,d⟩:=y
 simp only [QBK,QBp,QC4]
 by_cases h1:a = c <;> by_cases h2:b = d <;> simp [h1,h2]

theorem QD0 (a b:List (List UInt8)) (ha:a.length ≤ 9223372036854775807) (hb:b.length ≤ 9223372036854775807):ACalls Tryz.prog 38 [.imm (a.map QAT),.imm (b.map QAT)] [] (.bool (decide (a = b))) []:=by
 refine QAH cqq rfl ?_
 by_cases hl:a.length = b.length
 rotate_left
 ·have hl':¬ (a.length:Int) = b.length:=by omega
  have e:¬ a = b:=fun e=>hl (by rw [e])
  simp +decide -dsimp -implicitDefEqProofs [go_sem,hl',e]
 have hl':(a.length:Int) = b.length:=by omega
 simp +decide -dsimp -implicitDefEqProofs [go_sem,hl']
 refine QAQ (S:=Nat) (fun i=>⟨tmps 26 [(0,.imm (a.map QAT)),(1,.imm (b.map QAT)),(5,.int .i64 i)],[]⟩) (fun i=>a.length - i) (fun i=>i ≤ a.length ∧ ∀ j (h1:j < a.length) (h2:j < b.length),j < i → a[j] = b[j]) 0 (by simp) (QAC (by simp) ?_) ?_
 ·simp +decide -dsimp -implicitDefEqProofs [go_sem]
 intro i hi
 by_cases h:i < a.length
 ·have h2:i < b.length:=by omega
  have w:IntKind.i64.wrap ((i:Int) + 1) = i + 1:=w64 (by omega) (by omega)
  by_cases he:a[i] = b[i]
  ·simp +decide -dsimp -implicitDefEqProofs [go_sem,h,h2,he,w]
   refine QAG (i + 1) ⟨by omega,fun j h1 h2 hj=>?_⟩ (by omega) (QAC (by simp) ?_)
   ·by_cases hji:j = i
    ·subst hji; exact he
    ·exact hi.2 j h1 h2 (by omega)
   simp +decide -dsimp -implicitDefEqProofs [go_sem]
  ·have e:¬ a = b:=fun e=>he (by subst e; rfl)
   simp +decide -dsimp -implicitDefEqProofs [go_sem,h,h2,he,e]
 ·have e:a = b:=List.ext_getElem hl fun j h1 h2=>hi.2 j h1 h2 (by omega)
  subst e
  have e2:i = a.length:=by omega
  subst e2
  simp +decide -dsimp -implicitDefEqProofs [go_sem]

theorem QMn (a b:List (List UInt8 × List UInt8)) (ha:a.length ≤ 9223372036854775807) (hb:b.length ≤ 9223372036854775807):ACalls Tryz.prog 106 [.imm (a.map QBK),.imm (b.map QBK)] [] (.bool (decide (a = b))) []:=by
 refine QAH cqq rfl ?_
 by_cases hl:a.length = b.length
 rotate_left
 ·have hl':¬ (a.length:Int) = b.length:=by omega
  have e:¬ a = b:=fun e=>hl (by rw [e])
  simp +decide -dsimp -implicitDefEqProofs [go_sem,hl',e]
 have hl':(a.length:Int) = b.length:=by omega
 simp +decide -dsimp -implicitDefEqProofs [go_sem,hl']
 refine QAQ (S:=Nat) (fun i=>⟨tmps 26 [(0,.imm (a.map QBK)),(1,.imm (b.map QBK)),(5,.int .i64 i)],[]⟩) (fun i=>a.length - i) (fun i=>i ≤ a.length ∧ ∀ j (h1:j < a.length) (h2:j < b.length),j < i → a[j] = b[j]) 0 (by simp) (QAC (by simp) ?_) ?_
 ·simp +decide -dsimp -implicitDefEqProofs [go_sem]
 intro i hi
 by_cases h:i < a.length
 ·have h2:i < b.length:=by omega
  have w:IntKind.i64.wrap ((i:Int) + 1) = i + 1:=w64 (by omega) (by omega)
  by_cases he:a[i] = b[i]
  ·simp +decide -dsimp -implicitDefEqProofs [go_sem,h,h2,he,w]
   refine QAG (i + 1) ⟨by omega,fun j h1 h2 hj=>?_⟩ (by omega) (QAC (by simp) ?_)
   ·by_cases hji:j = i
    ·subst hji; exact he
    ·exact hi.2 j h1 h2 (by omega)
   simp +decide -dsimp -implicitDefEqProofs [go_sem]
  ·have e:¬ a = b:=fun e=>he (by subst e; rfl)
   simp +decide -dsimp -implicitDefEqProofs [go_sem,h,h2,he,e]
 ·have e:a = b:=List.ext_getElem hl fun j h1 h2=>hi.2 j h1 h2 (by omega)
  subst e
  have e2:i = a.length:=by omega
  subst e2
  simp +decide -dsimp -implicitDefEqProofs [go_sem]

end Go.Ab
namespace Go.Ab
open Go Go.Proofs
structure Fit (r:Rcd):Prop where
 props:r.props.length ≤ 9223372036854775807
 tags:r.tags.length ≤ 9223372036854775807
 links:r.links.length ≤ 9223372036854775807
 run:r.run.length ≤ 9223372036854775807
 load:r.load.length ≤ 9223372036854775807
theorem Few.fit {r:Rcd} (h:Few r):Fit r:=⟨by have:=h.props; omega,by have:=h.tags; omega,by have:=h.links; omega,by have:=h.runs; omega,by have:=h.loads; omega⟩

theorem QHl (a b:Rcd) (ha:Fit a) (hb:Fit b):ACalls Tryz.prog 66 [.agg (QAR a),.agg (QAR b)] [] (.bool (decide (a = b))) []:=by
 refine QAH cqq rfl ?_
 unfold QAR
 by_cases h1:a.path = b.path
 rotate_left
 ·have e:¬ a = b:=fun e=>h1 (by rw [e])
  simp +decide -dsimp -implicitDefEqProofs [go_sem,h1,e]
 by_cases h2:a.index = b.index
 rotate_left
 ·have e:¬ a = b:=fun e=>h2 (by rw [e])
  simp +decide -dsimp -implicitDefEqProofs [go_sem,h1,h2,e]
 simp +decide -dsimp -implicitDefEqProofs [go_sem,h1,h2]
 refine QAA (QMn a.props b.props ha.props hb.props) (by simp [go_sem]) rfl ?_
 by_cases h3:a.props = b.props
 rotate_left
 ·have e:¬ a = b:=fun e=>h3 (by rw [e])
  simp +decide -dsimp -implicitDefEqProofs [go_sem,h3,e]
 simp +decide -dsimp -implicitDefEqProofs [go_sem,h3]
 refine QAA (QD0 a.tags b.tags ha.tags hb.tags) (by simp [go_sem]) rfl ?_
 by_cases h4:a.tags = b.tags
 rotate_left
 ·have e:¬ a = b:=fun e=>h4 (by rw [e])
  simp +decide -dsimp -implicitDefEqProofs [go_sem,h4,e]
 simp +decide -dsimp -implicitDefEqProofs [go_sem,h4]
 refine QAA (QD0 a.links b.links ha.links hb.links) (by simp [go_sem]) rfl ?_
 by_cases h5:a.links = b.links
 rotate_left
 ·have e:¬ a = b:=fun e=>h5 (by rw [e])
  simp +decide -dsimp -implicitDefEqProofs [go_sem,h5,e]
 simp +decide -dsimp -implicitDefEqProofs [go_sem,h5]
 refine QAA (QD0 a.run b.run ha.run hb.run) (by simp [go_sem]) rfl ?_
 by_cases h6:a.run = b.run
 rotate_left
 ·have e:¬ a = b:=fun e=>h6 (by rw [e])
  simp +decide -dsimp -implicitDefEqProofs [go_sem,h6,e]
 simp +decide -dsimp -implicitDefEqProofs [go_sem,h6]
 refine QAA (QD0 a.load b.load ha.load hb.load) (by simp [go_sem]) rfl ?_
 by_cases h7:a.load = b.load
 rotate_left
 ·have e:¬ a = b:=fun e=>h7 (by rw [e])
  simp +decide -dsimp -implicitDefEqProofs [go_sem,h7,e]
 by_cases h8:a.name = b.name
 rotate_left
 ·have e:¬ a = b:=fun e=>h8 (by rw [e])
  simp +decide -dsimp -implicitDefEqProofs [go_sem,h7,h8,e]
 by_cases h9:a.prio = b.prio
 rotate_left
 ·have e:¬ a = b:=fun e=>h9 (by rw [e])
  simp +decide -dsimp -implicitDefEqProofs [go_sem,h7,h8,h9,e]
 by_cases h10:a.owner = b.owner
 rotate_left
 ·have e:¬ a = b:=fun e=>h10 (by rw [e])
  simp +decide -dsimp -implicitDefEqProofs [go_sem,h7,h8,h9,h10,e]
 by_cases h11:a.group = b.group
 rotate_left
 ·have e:¬ a = b:=fun e=>h11 (by rw [e])
  simp +decide -dsimp -implicitDefEqProofs [go_sem,h7,h8,h9,h10,h11,e]
 by_cases h12:a.mode = b.mode
 rotate_left
 ·have e:¬ a = b:=fun e=>h12 (by rw [e])
  simp +decide -dsimp -implicitDefEqProofs [go_sem,h7,h8,h9,h10,h11,h12,e]
 have e:a = b:=by
  obtain ⟨⟩:=a
  obtain ⟨⟩:=b
  simp only at h1 h2 h3 h4 h5 h6 h7 h8 h9 h10 h11 h12
  simp only [h1,h2,h3,h4,h5,h6,h7,h8,h9,h10,h11,h12]
 simp +decide -dsimp -implicitDefEqProofs [go_sem,e]

theorem QVe (a b:Rcd) (ha:Fit a) (hb:Fit b):ACalls Tryz.prog 65 [.agg (QAR a),.agg (QAR b)] [] (.bool (decide (a = b))) []:=by
 refine QAH cqq rfl ?_
 have c:=QHl a b ha hb
 unfold QAR at c ⊢
 refine gs ?_
 refine QAA c (by simp [go_sem]) rfl ?_
 simp +decide -dsimp -implicitDefEqProofs [go_sem]

end Go.Ab
namespace Go.Ab
open Go Go.Proofs
theorem QD9 (is:List Nat) (r:Rcd):QBt is (QAR r) = QAR r:=by unfold QAR; simp +decide -dsimp -implicitDefEqProofs [go_sem,QCU,QEq]
theorem QBr (k:Nat) (r:Rcd):QAB k (QAR r) = true:=by unfold QAR; simp +decide -dsimp -implicitDefEqProofs [go_sem]
@[go_sem ↓] theorem QZn (r:Rcd) (K:AV → Prop):ldK (some 12) (QAR r) K = K (.agg (QAR r)):=by simp [ldK,QAR]
theorem QYq (r:Rcd):(QAR r).take 12 = QAR r:=rfl
theorem QAM (k:Nat) (l:List Rcd):QAb k (l.map QAR) = true:=QAn fun x _=>QBr k x
theorem QIq {n:Nat} (h:n < 256):[AV.int .u8 (n:Int)] = QF9 (UInt8.ofNat n):=by
 simp only [QF9,UInt8.toNat_ofNat']
 rw [Nat.mod_eq_of_lt h]
theorem QVf {n:Nat} (h:n < 256):unb [[AV.int .u8 (n:Int)]] = some [UInt8.ofNat n]:=by
 rw [QIq h]; exact QQX [UInt8.ofNat n]
end Go.Ab
namespace Go.Ab
open Go Go.Proofs
theorem QJk {s:List UInt8} (h:QCb s = true):s.length ≤ 256:=by
 unfold QCb at h
 simp only [Bool.and_eq_true,decide_eq_true_eq] at h
 exact h.2
theorem QOe {s:List UInt8} (h:QDs s = true):s.length ≤ 256:=by
 unfold QDs at h
 simp only [Bool.and_eq_true,decide_eq_true_eq] at h
 exact h.1
theorem QQl {s:List UInt8} (h:QG6 s = true):s.length ≤ 32:=by
 unfold QG6 at h
 simp only [Bool.and_eq_true,decide_eq_true_eq] at h
 exact h.1.1.2
structure Small (r:Rcd):Prop where
 path:r.path.length ≤ 400
 props:r.props.length ≤ 64
 attr:∀ p ∈ r.props,p.1.length ≤ 32 ∧ p.2.length ≤ 256
 tags:r.tags.length ≤ 16
 tag:∀ x ∈ r.tags,x.length ≤ 32
 links:r.links.length ≤ 16
 link:∀ x ∈ r.links,x.length ≤ 256
 runs:r.run.length ≤ 16
 run:∀ x ∈ r.run,x.length ≤ 256
 loads:r.load.length ≤ 16
 load:∀ x ∈ r.load,x.length ≤ 256
 name:r.name.length ≤ 32
 owner:r.owner.length ≤ 32
 group:r.group.length ≤ 32
theorem QEr {r:Rcd} (h:QAk r = true):Small r:=by
 unfold QAk at h
 simp only [Bool.and_eq_true,Bool.or_eq_true,decide_eq_true_eq,QFh,QHj,List.all_eq_true] at h
 obtain ⟨⟨⟨⟨⟨⟨⟨⟨⟨⟨⟨h1,h2⟩,h3⟩,h4⟩,h5⟩,h6⟩,h7⟩,h8⟩,h9⟩,h10⟩,h11⟩,h12⟩:=h
 have hg:∀ p ∈ r.props,QG6 p.1 = true ∧ QCb p.2 = true:=fun p hp=>by simpa [QDz] using h3.1.1 p hp
 have hf:∀ x,QCO x = true → x.length ≤ 256:=fun x hx=>by
  unfold QCO at hx; simp only [Bool.and_eq_true] at hx; exact QJk hx.2
 refine ⟨Nat.le_trans (QBV h1) (by decide),h3.2,fun p hp=>⟨QQl (hg p hp).1,QJk (hg p hp).2⟩,h4.2,fun x hx=>QCv (h4.1.1 x hx),h5.2,fun x hx=>QOe (h5.1.1 x hx),h7,fun x hx=>hf x (h8 x hx),h6.2,fun x hx=>hf x (h6.1.1 x hx),?_,?_,?_⟩
 ·rcases h9 with h | h
  ·rw [h]; simp
  ·unfold QDY at h; simp only [Bool.and_eq_true] at h; exact QCv h.1.1.1
 ·rcases h12 with h | h
  ·rw [h.1]; simp
  ·exact QCv h.1
 ·rcases h12 with h | h
  ·rw [h.2.1]; simp
  ·exact QCv h.2
theorem Small.few {r:Rcd} (h:Small r):Few r:=by
 have:=h.path; have:=h.tags; have:=h.props; have:=h.links; have:=h.runs; have:=h.loads
 exact ⟨by omega,by omega,by omega,fun x hx=>by have:=h.attr x hx; omega,by omega,fun x hx=>by have:=h.link x hx; omega,by omega,fun x hx=>by have:=h.run x hx; omega,by omega,fun x hx=>by have:=h.load x hx; omega⟩
end Go.Ab
