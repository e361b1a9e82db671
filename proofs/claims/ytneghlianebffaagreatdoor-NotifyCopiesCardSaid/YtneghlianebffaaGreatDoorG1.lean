/- Patterns: sets of bytes, and how they are read. -/
import Derived.Test.YtneghlianebffaaGreatDoorOX
import Derived.Test.YtneghlianebffaaGreatDoorW1
import Derived.Test.YtneghlianebffaaGreatDoorW3
import Derived.Test.YtneghlianebffaaGreatDoorA6
import Derived.Test.YtneghlianebffaaGreatDoorW2
import Derived.Below
set_option maxRecDepth 20000
set_option maxHeartbeats 8000000
namespace Go.Ab
open Go Go.Proofs
def rB (n:Nat) (f:Nat → Bool):List Bool:=(List.range n).map f
@[simp] theorem QJE (n:Nat) (f:Nat → Bool):(rB n f).length = n:=by simp [rB]
theorem QK7 {n:Nat} {f:Nat → Bool} {i:Nat} (h:i < (rB n f).length):(rB n f)[i] = f i:=by simp [rB]
theorem QSt {n i:Nat} {f:Nat → Bool} {b:Bool}:(rB n f).set i b = rB n fun j=>if j = i then b else f j:=by
 refine List.ext_getElem (by simp) fun j h1 h2=>?_
 rw [List.getElem_set,QK7,QK7]
 by_cases h:i = j
 ·simp [h]
 ·rw [if_neg h,if_neg fun e=>h e.symm]
theorem QBu {n:Nat} {f g:Nat → Bool} (h:∀ i,i < n → f i = g i):rB n f = rB n g:=by
 unfold rB
 exact List.map_congr_left fun i hi=>h i (List.mem_range.1 hi)
theorem QJ8:QHN = bB (rB 127 fun _=>false):=by simp [QHN,bB,rB,List.map_const']
theorem QEt {n i:Nat} {f:Nat → Bool} {b:Bool} (h:i < n):(bB (rB n f)).take i ++ AV.bool b :: (bB (rB n f)).drop (i + 1) = bB (rB n fun j=>if j = i then b else f j):=by
 have e:=QTT (rB n f) i b (by simpa using h)
 rw [QSt] at e
 simpa using e
def QOm (i:Nat):Bool:=decide (32 ≤ i)
def upF (i j:Nat):Bool:=decide (32 ≤ j ∧ j < i)
theorem QIH:ACalls Tryz.prog 166 [] [] (.agg (bB (rB 127 QOm))) []:=by
 refine QAH c166_ok rfl ?_
 unfold c166
 rw [QJ8]
 refine gs ?_
 refine QAQ (S:=Nat) (fun i=>⟨tmps 10 [(0,.ptr 0 0),(1,.ptr 1 0),(2,.int .i64 i)],[.box 208 (bB (rB 127 fun _=>false)),.box 208 (bB (rB 127 (upF i)))]⟩) (fun i=>127 - i) (fun i=>32 ≤ i ∧ i ≤ 127) 32 (by simp) (QAC (by simp) ?_) ?_
 ·have e:rB 127 (upF 32) = rB 127 fun _=>false:=QBu fun i _=>by simp [upF]
  rw [e]
  simp +decide -dsimp -implicitDefEqProofs [go_sem,QAa]
 intro i ⟨h32,hi⟩
 by_cases h:i < 127
 ·have w:IntKind.i64.wrap ((i:Int) + 1) = i + 1:=w64 (by omega) (by omega)
  have h':(i:Int) ≤ 126:=by omega
  have e:=QEt (n:=127) (i:=i) (f:=upF i) (b:=true) h
  have e2:(rB 127 fun j=>if j = i then true else upF i j) = rB 127 (upF (i + 1)):=QBu fun j _=>by
   unfold upF
   by_cases hj:j = i
   ·simp [hj]; omega
   ·rw [if_neg hj,decide_eq_decide]; omega
  rw [e2] at e
  simp +decide -dsimp -implicitDefEqProofs [go_sem,h,h',w,QAq,e]
  refine ⟨by omega,QAG (i + 1) ⟨by omega,by omega⟩ (by show 127 - (i + 1) < 127 - i; omega) (QAC (by simp) ?_)⟩
  simp +decide -dsimp -implicitDefEqProofs [go_sem,QAa]
 ·have e:i = 127:=by omega
  subst e
  have t1:∀ f,(bB (rB 127 f)).take 127 = bB (rB 127 f):=fun f=>QEh _ 127 (by simp)
  have t2:∀ f,(bB (rB 127 f)).drop 127 = []:=fun f=>List.drop_eq_nil_of_le (by rw [QAq]; simp)
  have e2:rB 127 (upF 127) = rB 127 QOm:=QBu fun j hj=>by unfold QOm upF; rw [decide_eq_decide]; omega
  rw [e2]
  simp +decide -dsimp -implicitDefEqProofs [go_sem,QAq,t1,t2,QAa]
end Go.Ab
namespace Go.Ab
open Go Go.Proofs
def pc (p:List UInt8) (i:Nat):UInt8:=p.getD i 0
theorem QIy {p:List UInt8} {i:Nat} (h:i < p.length):p[i]? = some (pc p i):=by rw [pc,List.getD_eq_getElem?_getD,List.getElem?_eq_getElem h]; rfl
def QY1 (p:List UInt8) (i:Nat):Prop:=i + 2 < p.length ∧ (pc p (i + 1)).toNat = 45 ∧ (pc p (i + 2)).toNat ≠ 93
instance (p:List UInt8) (i:Nat):Decidable (QY1 p i):=by unfold QY1; infer_instance
def QEa (p:List UInt8) (i:Nat):Nat × Nat × Nat:=
 if QY1 p i then (3,(pc p i).toNat,(pc p (i + 2)).toNat) else (1,(pc p i).toNat,(pc p i).toNat)
def QL4 (f:Nat → Bool) (a z j:Nat):Bool:=f j || decide (a ≤ j ∧ j ≤ z)
theorem QPR (p:List UInt8) (i:Nat):1 ≤ (QEa p i).1 ∧ (i < p.length → i + (QEa p i).1 ≤ p.length):=by
 unfold QEa
 split
 ·rename_i h; exact ⟨by simp,fun _=>by have:=h.1; simp; omega⟩
 ·exact ⟨by simp,fun _=>by simp; omega⟩
theorem QK8 {p:List UInt8} {B i:Nat} (hp:∀ c ∈ p,c.toNat ≤ B):(pc p i).toNat ≤ B:=by
 unfold pc
 rw [List.getD_eq_getElem?_getD]
 cases h:p[i]? with
 | none=>simp
 | some c=>exact hp c (List.mem_of_getElem? h)
theorem QWx {p:List UInt8} {B:Nat} (hp:∀ c ∈ p,c.toNat ≤ B) (i:Nat):(QEa p i).2.1 ≤ B ∧ (QEa p i).2.2 ≤ B:=by
 unfold QEa
 split <;> exact ⟨QK8 hp,QK8 hp⟩
theorem w8 {n:Int} (h0:0 ≤ n) (h1:n ≤ 255):IntKind.u8.wrap n = n:=by
 have e:IntKind.u8.wrap n = n % 256:=by simp [IntKind.wrap,IntKind.signed,IntKind.bits]
 rw [e]; omega
def QOn (f:Nat → Bool) (a b j:Nat):Bool:=f j || decide (a ≤ j ∧ j < b)
theorem QK9 {f:Nat → Bool} {a i:Nat} (h:a ≤ i):(fun j=>if j = i then true else QOn f a i j) = QOn f a (i + 1):=by
 funext j
 unfold QOn
 by_cases hj:j = i
 ·rw [if_pos hj,decide_eq_true (by omega),Bool.or_true]
 ·rw [if_neg hj]
  congr 1
  rw [decide_eq_decide]; omega
theorem QJ9 {f:Nat → Bool} {a:Nat}:QOn f a a = f:=by
 funext j; unfold QOn; rw [decide_eq_false (by omega),Bool.or_false]
theorem QM5 {f:Nat → Bool} {a z:Nat}:QOn f a (z + 1) = QL4 f a z:=by
 funext j; unfold QOn QL4; congr 1; rw [decide_eq_decide]; omega
theorem QRM (p:List UInt8) (i:Nat) (f:Nat → Bool) (hp:∀ c ∈ p,c.toNat ≤ 126) (hl:p.length ≤ 1000) (hi:i < p.length):
  ACalls Tryz.prog 192 [.ptr 0 0,.ptr 1 0] [.box 157 [.str p,.int .i64 i],.box 208 (bB (rB 127 f))] (.bool (decide ((QEa p i).2.1 ≤ (QEa p i).2.2)))
   [.box 157 [.str p,.int .i64 ((i + (QEa p i).1:Nat):Int)],.box 208 (bB (rB 127 (if (QEa p i).2.1 ≤ (QEa p i).2.2 then QL4 f (QEa p i).2.1 (QEa p i).2.2 else f)))]:=by
 have hz:=QWx hp i
 obtain ⟨d,hd⟩:∃ d,d = p.drop i:=⟨_,rfl⟩
 have hdl:d.length = p.length - i:=by rw [hd,List.length_drop]
 have hdn:d ≠ []:=fun h=>by rw [h] at hdl; simp at hdl; omega
 have dj:∀ j,i + j < p.length → d[j]? = some (pc p (i + j)):=fun j h=>by rw [hd,List.getElem?_drop,QIy h]
 have d0:d[0]? = some (pc p i):=dj 0 (by omega)
 have d1:=dj 1
 have d2:=dj 2
 refine QA2 cqq rfl ?_
 refine gS ?_
 refine QAP ⟨tmps 66 [(0,.ptr 0 0),(1,.ptr 1 0),(5,.str d)],[.box 157 [.str p,.int .i64 i],.box 208 (bB (rB 127 f))]⟩ (QAD ?_) ?_
 ·simp +decide -dsimp -implicitDefEqProofs [go_sem]
  refine ⟨by omega,?_⟩
  rw [← hd]
  refine QAC (by simp) ?_
  simp +decide -dsimp -implicitDefEqProofs [go_sem,QAa]
 refine QBU ?_
 simp +decide -dsimp -implicitDefEqProofs [go_sem,hdn]
 refine QBU ?_
 simp +decide -dsimp -implicitDefEqProofs [go_sem,d0]
 have w1:IntKind.i64.wrap ((i:Int) + 1) = i + 1:=w64 (by omega) (by omega)
 have w3:IntKind.i64.wrap ((i:Int) + 1 + 2) = i + 3:=w64 (by omega) (by omega)
 refine QBU ?_
 simp +decide -dsimp -implicitDefEqProofs [go_sem,w1]
 refine QAP ⟨tmps 66 [(1,.ptr 1 0),(6,.int .u8 (QEa p i).2.1),(7,.int .u8 (QEa p i).2.2)],[.box 157 [.str p,.int .i64 ((i + (QEa p i).1:Nat):Int)],.box 208 (bB (rB 127 f))]⟩ (QAD ?_) ?_
 ·unfold QEa
  by_cases h1:i + 2 < p.length
  ·have l1:(2:Int) < (d.length:Int):=by omega
   have d1':=d1 (by omega)
   have d2':=d2 h1
   by_cases h2:(pc p (i + 1)).toNat = 45
   ·by_cases h3:(pc p (i + 2)).toNat = 93
    ·rw [if_neg (fun h=>h.2.2 h3)]
     have h2':((pc p (i + 1)).toNat:Int) = 45:=by omega
     have h3':((pc p (i + 2)).toNat:Int) = 93:=by omega
     simp +decide -dsimp -implicitDefEqProofs [go_sem,l1,d1',d2',h2',h3']
     refine QAC (by simp) ?_
     simp +decide -dsimp -implicitDefEqProofs [go_sem,QAa]
    ·rw [if_pos ⟨h1,h2,h3⟩]
     have h3':¬ ((pc p (i + 2)).toNat:Int) = 93:=by omega
     have h2':((pc p (i + 1)).toNat:Int) = 45:=by omega
     simp +decide -dsimp -implicitDefEqProofs [go_sem,l1,d1',d2',h2',h3',w3]
     refine QAC (by simp) ?_
     simp +decide -dsimp -implicitDefEqProofs [go_sem,QAa]
   ·rw [if_neg (fun h=>h2 h.2.1)]
    have h2':¬ ((pc p (i + 1)).toNat:Int) = 45:=by omega
    simp +decide -dsimp -implicitDefEqProofs [go_sem,l1,d1',h2']
    refine QAC (by simp) ?_
    simp +decide -dsimp -implicitDefEqProofs [go_sem,QAa]
  ·rw [if_neg (fun h=>h1 h.1)]
   have l1:¬ (2:Int) < (d.length:Int):=by omega
   simp +decide -dsimp -implicitDefEqProofs [go_sem,l1]
   refine QAC (by simp) ?_
   simp +decide -dsimp -implicitDefEqProofs [go_sem,QAa]
 generalize (QEa p i).1 = k at *
 generalize (QEa p i).2.1 = a at *
 generalize (QEa p i).2.2 = z at *
 refine QAP ⟨tmps 66 [(6,.int .u8 a),(7,.int .u8 z)],[.box 157 [.str p,.int .i64 ((i + k:Nat):Int)],.box 208 (bB (rB 127 (if a ≤ z then QL4 f a z else f)))]⟩ (QAD ?_) ?_
 ·simp +decide -dsimp -implicitDefEqProofs [go_sem]
  refine QAQ (S:=Nat) (fun b=>⟨tmps 66 [(1,.ptr 1 0),(6,.int .u8 a),(7,.int .u8 z),(8,.int .u8 b)],[.box 157 [.str p,.int .i64 ((i + k:Nat):Int)],.box 208 (bB (rB 127 (QOn f a b)))]⟩) (fun b=>128 - b) (fun b=>a ≤ b ∧ (b ≤ z + 1 ∨ b = a)) a ⟨by omega,.inr rfl⟩ (QAC (by simp) ?_) ?_
  ·rw [QJ9]
   simp +decide -dsimp -implicitDefEqProofs [go_sem,QAa]
  intro b ⟨hab,hb⟩
  by_cases h:b ≤ z
  ·have w:IntKind.u8.wrap ((b:Int) + 1) = b + 1:=w8 (by omega) (by omega)
   have e:=QEt (n:=127) (i:=b) (f:=QOn f a b) (b:=true) (by omega)
   rw [QK9 hab] at e
   have hb127:b < 127:=by omega
   simp +decide -dsimp -implicitDefEqProofs [go_sem,h,w,QAq,hb127,e]
   refine ⟨by omega,QAG (b + 1) ⟨by omega,by omega⟩ (by show 128 - (b + 1) < 128 - b; omega) (QAC (by simp) ?_)⟩
   simp +decide -dsimp -implicitDefEqProofs [go_sem,QAa]
  ·have e:QOn f a b = if a ≤ z then QL4 f a z else f:=by
    by_cases h2:a ≤ z
    ·rw [if_pos h2,show b = z + 1 by omega,QM5]
    ·rw [if_neg h2,show b = a by omega,QJ9]
   rw [e]
   simp +decide -dsimp -implicitDefEqProofs [go_sem,h]
   refine QAC (by simp) ?_
   simp +decide -dsimp -implicitDefEqProofs [go_sem,QAa]
 refine QAD ?_
 simp +decide -dsimp -implicitDefEqProofs [go_sem,QAa]
end Go.Ab
namespace Go.Ab
open Go Go.Proofs
def QEV (p:List UInt8) (i:Nat) (c:UInt8):Bool:=decide (i < p.length ∧ pc p i = c)
theorem QM6 (p:List UInt8) (i:Nat) (c:UInt8):([c]:List UInt8).isPrefixOf (p.drop i) = QEV p i c:=by
 unfold QEV
 by_cases h:i < p.length
 ·have e:p.drop i = pc p i :: p.drop (i + 1):=by
   rw [List.drop_eq_getElem_cons h]
   have:=QIy h
   rw [List.getElem?_eq_getElem h] at this
   rw [Option.some.inj this]
  rw [e]
  by_cases h2:pc p i = c
  ·simp [h,h2]
  ·have h3:¬ c = pc p i:=fun e=>h2 e.symm
   show (c == pc p i && _) = _
   simp [h2,h3]
 ·rw [List.drop_eq_nil_of_le (by omega)]
  simp [h]
def QEb (p:List UInt8) (i:Nat) (f:Nat → Bool):Option (Nat × (Nat → Bool)):=
 if _h:i < p.length then
  if pc p i = 93 then some (i,f)
  else if (QEa p i).2.1 ≤ (QEa p i).2.2 then QEb p (i + (QEa p i).1) (QL4 f (QEa p i).2.1 (QEa p i).2.2) else none
 else none
termination_by p.length - i
decreasing_by have:=(QPR p i).1; omega
def QRN (f:Nat → Bool) (t:Nat):Bool:=if 32 ≤ t then !f t else f t
def QPS (f:Nat → Bool) (b t:Nat):Bool:=if 32 ≤ t ∧ t < b then !f t else f t
def noF (_:Nat):Bool:=false
def QIw (p:List UInt8) (i:Nat):Nat:=if QEV p i 33 = true then i + 1 else i
def QGA (p:List UInt8) (i:Nat):Option (Nat × (Nat → Bool)):=
 if QEV p (QIw p i) 93 = true then none else match QEb p (QIw p i) noF with
  | none=>none
  | some (e,f)=>some (e + 1,if QEV p i 33 = true then QRN f else f)
theorem QMG {p:List UInt8} {e:Nat} {g:Nat → Bool}:∀ (n i:Nat) (f:Nat → Bool),p.length - i ≤ n → QEb p i f = some (e,g) → i ≤ e ∧ e < p.length
 | 0,i,f,hn,h=>by
  rw [QEb,dif_neg (by omega)] at h; cases h
 | n + 1,i,f,hn,h=>by
  rw [QEb] at h
  split at h
  ·split at h
   ·cases h; exact ⟨Nat.le_refl _,by assumption⟩
   ·split at h
    ·have:=(QPR p i).1
     have:=QMG n _ _ (by omega) h
     omega
    ·cases h
  ·cases h
theorem QTt {p:List UInt8} {i e:Nat} {g:Nat → Bool} (h:QGA p i = some (e,g)):i < e ∧ e ≤ p.length:=by
 unfold QGA at h
 split at h
 ·cases h
 ·split at h
  ·cases h
  ·rename_i e' f hA
   cases h
   have h2:=QMG _ _ _ (Nat.le_refl _) hA
   have:i ≤ QIw p i:=by unfold QIw; split <;> omega
   omega
theorem QPT (p:List UInt8) (f:Nat → Bool):
  ACalls Tryz.prog 192 [.ptr 0 0,.ptr 1 0] [.box 157 [.str p,.int .i64 p.length],.box 208 (bB (rB 127 f))] (.bool false) [.box 157 [.str p,.int .i64 p.length],.box 208 (bB (rB 127 f))]:=by
 refine QAH cqq rfl ?_
 simp +decide -dsimp -implicitDefEqProofs [go_sem,QAa]
theorem QC2 (is:List Nat) (bs:List Bool):QBt is (bB bs) = bB bs:=by
 induction bs with
 | nil=>rfl
 | cons b r ih=>show _ :: _ = _ :: _; rw [show r.map AV.bool = bB r from rfl,ih]; rfl
def QN8 (p:List UInt8) (i:Nat) (v:AV) (G:List AObj):Prop:=match QGA p i with
 | some eg=>v = .tup [.agg (bB (rB 127 eg.2)),.bool true] ∧ G = [.box 157 [.str p,.int .i64 eg.1]]
 | none=>v = .tup [.agg (bB (rB 127 noF)),.bool false] ∧ ∃ m:Nat,G = [.box 157 [.str p,.int .i64 m]]
structure SS where
 i:Nat
 f:Nat → Bool
theorem hid1:∀ j,j < 1 → ([0,1,2,4]:List Nat)[j]? = some j:=fun j hj=>by rw [Nat.lt_one_iff.1 hj]; rfl
theorem QRO (p:List UInt8) (i:Nat) (hp:∀ c ∈ p,c.toNat ≤ 126) (hl:p.length ≤ 1000) (hi:i ≤ p.length):ACallsR Tryz.prog 167 [.ptr 0 0] [.box 157 [.str p,.int .i64 i]] (QN8 p i):=by
 have hz:QHN = bB (rB 127 noF):=QJ8
 have t1:∀ f,(bB (rB 127 f)).take 127 = bB (rB 127 f):=fun f=>QEh _ 127 (by simp)
 have t2:∀ f,(bB (rB 127 f)).drop 127 = []:=fun f=>List.drop_eq_nil_of_le (by rw [QAq]; simp)
 have cb:∀ k f,QAB k (bB (rB 127 f)) = true:=fun k f=>QBD k _
 refine QFE (QN8 p i) 0 c167_ok ?_
 unfold c167
 rw [hz]
 refine gS ?_
 refine gS ?_
 have hP:=QF3 (p.drop i) [33] (by decide)
 rw [QM6] at hP
 refine gS ?_
 refine ⟨by omega,?_⟩
 refine QAK hP rfl rfl ?_
 refine gs ?_
 have hbeg:QIw p i ≤ p.length:=by unfold QIw; split <;> simp_all [QEV]; omega
 refine QAP ⟨tmps 92 [(0,.ptr 0 0),(2,.ptr 1 0),(3,.bool false),(4,.ptr 2 0),(5,.bool (QEV p i 33))],[.box 157 [.str p,.int .i64 (QIw p i)],.box 208 (bB (rB 127 noF)),.box 208 (bB (rB 127 noF))]⟩ (QAD ?_) ?_
 ·have w1:IntKind.i64.wrap ((i:Int) + 1) = i + 1:=w64 (by omega) (by omega)
  unfold QIw
  cases QEV p i 33 with
  | true=>
   simp +decide -dsimp -implicitDefEqProofs [go_sem,w1]
   refine QAC (by simp) ?_
   simp +decide -dsimp -implicitDefEqProofs [go_sem,QAa]
  | false=>
   refine gs ?_
   refine QAC (by simp) ?_
   simp +decide -dsimp -implicitDefEqProofs [go_sem,QAa]
 have hfail:(QEV p (QIw p i) 93 = true ∨ QEb p (QIw p i) noF = none) → ∀ m:Nat,QN8 p i (.tup [.agg (bB (rB 127 noF)),.bool false]) [.box 157 [.str p,.int .i64 m]]:=fun h m=>by
  have:QGA p i = none:=by
   unfold QGA
   rcases h with h | h
   ·rw [if_pos h]
   ·rw [h]; simp
  unfold QN8
  rw [this]
  exact ⟨rfl,m,rfl⟩
 have hset:∀ e f,QEV p (QIw p i) 93 = false → QEb p (QIw p i) noF = some (e,f) → QGA p i = some (e + 1,if QEV p i 33 = true then QRN f else f):=fun e f h1 h2=>by
  unfold QGA; rw [h1,h2]; simp
 generalize QIw p i = j at *
 generalize QEV p i 33 = nt at *
 refine QA6 (S:=SS) (fun s=>⟨tmps 92 [(0,.ptr 0 0),(2,.ptr 1 0),(4,.ptr 2 0),(5,.bool nt)],[.box 157 [.str p,.int .i64 s.i],.box 208 (bB (rB 127 noF)),.box 208 (bB (rB 127 s.f))]⟩) (fun s=>QEV p j 93 = false ∧ QEb p j noF = some (s.i,s.f)) (QAD ?_) ?_
 ·simp +decide -dsimp -implicitDefEqProofs [go_sem]
  refine QBH (S:=SS) (fun s=>⟨tmps 92 [(0,.ptr 0 0),(2,.ptr 1 0),(3,.bool false),(4,.ptr 2 0),(5,.bool nt),(6,.int .i64 j)],[.box 157 [.str p,.int .i64 s.i],.box 208 (bB (rB 127 noF)),.box 208 (bB (rB 127 s.f))]⟩) (fun s=>p.length - s.i) (fun s=>j ≤ s.i ∧ s.i ≤ p.length ∧ QEb p j noF = QEb p s.i s.f ∧ (j = s.i ∨ QEV p j 93 = false)) ⟨j,noF⟩ ⟨Nat.le_refl _,hbeg,rfl,.inl rfl⟩ (QAC (by simp) ?_) ?_
  ·simp +decide -dsimp -implicitDefEqProofs [go_sem,QAa]
  rintro ⟨q,f⟩ ⟨h1,h2,h3,h4⟩
  simp only at h1 h2 h3 h4
  have hP:=QF3 (p.drop q) [93] (by decide)
  rw [QM6] at hP
  by_cases hx:QEV p q 93 = true ∧ ¬ j = q
  ·obtain ⟨hc,hj⟩:=hx
   have hq2:¬ (q:Int) = j:=by omega
   have hA:QEb p q f = some (q,f):=by
    unfold QEV at hc
    simp only [decide_eq_true_eq] at hc
    rw [QEb,dif_pos hc.1,if_pos hc.2]
   rw [hc] at hP
   refine QAD ?_
   simp +decide -dsimp -implicitDefEqProofs [go_sem,hq2]
   refine ⟨by omega,?_⟩
   refine QAK hP rfl rfl ?_
   simp +decide -dsimp -implicitDefEqProofs [go_sem,hq2]
   refine QAs ⟨q,f⟩ ⟨h4.resolve_left hj,by rw [h3,hA]⟩ (QAC (by simp) ?_)
   simp +decide -dsimp -implicitDefEqProofs [go_sem,QAa]
  refine QAP ⟨tmps 92 [(0,.ptr 0 0),(2,.ptr 1 0),(3,.bool false),(4,.ptr 2 0),(5,.bool nt),(6,.int .i64 j)],[.box 157 [.str p,.int .i64 q],.box 208 (bB (rB 127 noF)),.box 208 (bB (rB 127 f))]⟩ (QAD ?_) ?_
  ·by_cases hj:j = q
   ·have hq2:(q:Int) = j:=by omega
    simp +decide -dsimp -implicitDefEqProofs [go_sem,hq2]
    refine QAC (by simp) ?_
    simp +decide -dsimp -implicitDefEqProofs [go_sem,QAa]
   ·have hq2:¬ (q:Int) = j:=by omega
    have hc:QEV p q 93 = false:=by
     cases h:QEV p q 93 with
     | false=>rfl
     | true=>exact absurd ⟨h,hj⟩ hx
    rw [hc] at hP
    simp +decide -dsimp -implicitDefEqProofs [go_sem,hq2]
    refine ⟨by omega,?_⟩
    refine QAK hP rfl rfl ?_
    simp +decide -dsimp -implicitDefEqProofs [go_sem,hq2]
    refine QAC (by simp) ?_
    simp +decide -dsimp -implicitDefEqProofs [go_sem,QAa]
  refine QAD ?_
  cases hc:QEV p q 93 with
  | true=>
   have hj:j = q:=Classical.byContradiction fun h=>hx ⟨hc,h⟩
   subst hj
   rw [hc] at hP
   refine gs ?_
   refine ⟨by omega,?_⟩
   refine QAK hP rfl rfl ?_
   refine gs ?_
   refine QBE _ _ (hfail (.inl hc) j) rfl ?_
   simp +decide -dsimp -implicitDefEqProofs [go_sem,t1,QAa]
  | false=>
   rw [hc] at hP
   have hj93:QEV p j 93 = false:=by
    rcases h4 with h4 | h4
    ·rw [h4]; exact hc
    ·exact h4
   by_cases hq:q < p.length
   ·have hne:¬ pc p q = 93:=fun h=>by
     unfold QEV at hc
     simp [hq,h] at hc
    have cm:=QRM p q f hp hl hq
    have hk:=QPR p q
    by_cases hr:(QEa p q).2.1 ≤ (QEa p q).2.2
    ·have hA:QEb p q f = QEb p (q + (QEa p q).1) (QL4 f (QEa p q).2.1 (QEa p q).2.2):=by
      rw [QEb,dif_pos hq,if_neg hne,if_pos hr]
     rw [decide_eq_true hr,if_pos hr] at cm
     generalize (QEa p q).1 = k at *
     generalize QL4 f (QEa p q).2.1 (QEa p q).2.2 = f' at *
     refine gs ?_
     refine ⟨by omega,?_⟩
     refine QAK hP rfl rfl ?_
     refine gs ?_
     refine QAu [0,2] cm rfl rfl (by simp) (by simp +decide -dsimp -implicitDefEqProofs [go_sem]) (by simp +decide -dsimp -implicitDefEqProofs [go_sem,QC2]) ?_
     simp +decide -dsimp -implicitDefEqProofs [go_sem,QC2]
     refine QAG ⟨q + k,f'⟩ ⟨by show j ≤ q + k; omega,hk.2 hq,by rw [h3,hA],.inr hj93⟩ (by show p.length - (q + k) < p.length - q; omega) (QAC (by simp) ?_)
     simp +decide -dsimp -implicitDefEqProofs [go_sem,QAa]
    ·have hA:QEb p q f = none:=by
      rw [QEb,dif_pos hq,if_neg hne,if_neg hr]
     rw [decide_eq_false hr,if_neg hr] at cm
     have hfl:=hfail (.inr (h3.trans hA)) (q + (QEa p q).1)
     generalize (QEa p q).1 = k at *
     refine gs ?_
     refine ⟨by omega,?_⟩
     refine QAK hP rfl rfl ?_
     refine gs ?_
     refine QAu [0,2] cm rfl rfl (by simp) (by simp +decide -dsimp -implicitDefEqProofs [go_sem]) (by simp +decide -dsimp -implicitDefEqProofs [go_sem,QC2]) ?_
     simp +decide -dsimp -implicitDefEqProofs [go_sem,QC2]
     refine QBE _ _ hfl rfl ?_
     simp +decide -dsimp -implicitDefEqProofs [go_sem,t1,QAa]
   ·have e:q = p.length:=by omega
    subst e
    have hA:QEb p p.length f = none:=by rw [QEb,dif_neg (by omega)]
    have hfl:=hfail (.inr (h3.trans hA)) p.length
    have cm:=QPT p f
    rw [List.drop_length] at hP
    refine gs ?_
    refine QAK hP rfl rfl ?_
    refine gs ?_
    refine QAu [0,2] cm rfl rfl (by simp) (by simp +decide -dsimp -implicitDefEqProofs [go_sem]) (by simp +decide -dsimp -implicitDefEqProofs [go_sem,QC2]) ?_
    simp +decide -dsimp -implicitDefEqProofs [go_sem,QC2]
    refine QBE _ _ hfl rfl ?_
    simp +decide -dsimp -implicitDefEqProofs [go_sem,t1,QAa]
 rintro ⟨e,f⟩ ⟨h1,h2⟩
 simp only at h1 h2 ⊢
 have he:=QMG _ _ _ (Nat.le_refl _) h2
 have hs:=hset e f h1 h2
 have w1:IntKind.i64.wrap ((e:Int) + 1) = e + 1:=w64 (by omega) (by omega)
 refine QBU ?_
 simp +decide -dsimp -implicitDefEqProofs [go_sem,w1]
 have hfe:∀ f:Nat → Bool,QPS f 32 = f:=fun f=>by funext t; unfold QPS; rw [if_neg (by omega)]
 refine QAP ⟨tmps 92 [(2,.ptr 1 0),(4,.ptr 2 0)],[.box 157 [.str p,.int .i64 ((e + 1:Nat):Int)],.box 208 (bB (rB 127 noF)),.box 208 (bB (rB 127 (if nt = true then QRN f else f)))]⟩ (QAD ?_) ?_
 ·cases nt with
  | false=>
   refine gs ?_
   refine QAC (by simp) ?_
   simp +decide -dsimp -implicitDefEqProofs [go_sem,QAa]
  | true=>
   refine gs ?_
   refine QAA QIH rfl (QAw _ _) ?_
   simp +decide -dsimp -implicitDefEqProofs [go_sem,t2,QAq]
   refine QAQ (S:=Nat) (fun b=>⟨tmps 92 [(2,.ptr 1 0),(4,.ptr 2 0),(7,.int .i64 b),(8,.ptr 3 0)],[.box 157 [.str p,.int .i64 ((e + 1:Nat):Int)],.box 208 (bB (rB 127 noF)),.box 208 (bB (rB 127 (QPS f b))),.box 208 (bB (rB 127 QOm))]⟩) (fun b=>127 - b) (fun b=>32 ≤ b ∧ b ≤ 127) 32 (by simp) (QAC (by simp) ?_) ?_
   ·rw [hfe]
    simp +decide -dsimp -implicitDefEqProofs [go_sem,QAa]
   intro b ⟨hb1,hb2⟩
   by_cases h:b < 127
   ·have w:IntKind.i64.wrap ((b:Int) + 1) = b + 1:=w64 (by omega) (by omega)
    have h':(b:Int) ≤ 126:=by omega
    have h126:b ≤ 126:=by omega
    have l1:(rB 127 QOm)[b]'(by simpa using h) = true:=by rw [QK7]; unfold QOm; simp; omega
    have l2:(rB 127 (QPS f b))[b]'(by simpa using h) = f b:=by rw [QK7]; unfold QPS; rw [if_neg (by omega)]
    have ee:=QEt (n:=127) (i:=b) (f:=QPS f b) (b:=!f b) h
    have e2:(fun j=>if j = b then !f b else QPS f b j) = QPS f (b + 1):=by
     funext j
     unfold QPS
     by_cases hj:j = b
     ·subst hj; rw [if_pos rfl,if_pos ⟨hb1,by omega⟩]
     ·rw [if_neg hj]
      by_cases h3:32 ≤ j ∧ j < b
      ·rw [if_pos h3,if_pos ⟨h3.1,by omega⟩]
      ·rw [if_neg h3,if_neg (by omega)]
    rw [e2] at ee
    simp +decide -dsimp -implicitDefEqProofs [go_sem,h,h',h126,w,QAq,QGX,l1,l2,ee,t1,t2]
    refine QAG (b + 1) ⟨by omega,by omega⟩ (by show 127 - (b + 1) < 127 - b; omega) (Wk.ren [0,1,2,4] (by decide) rfl (by decide) hid1 (fun x m s l hx h=>by rw [Nat.lt_one_iff.1 hx] at h; cases h) (by simp +decide -dsimp -implicitDefEqProofs [go_sem,QC2]) (by simp +decide [rnT,ren,tmps,QEE]))
   ·have hb:b = 127:=by omega
    subst hb
    have hn:rB 127 (QPS f 127) = rB 127 (QRN f):=QBu fun t ht=>by
     unfold QPS QRN
     by_cases h3:32 ≤ t
     ·rw [if_pos ⟨h3,ht⟩,if_pos h3]
     ·rw [if_neg (fun h=>h3 h.1),if_neg h3]
    rw [hn]
    refine gs ?_
    refine QAC (by simp) ?_
    simp +decide -dsimp -implicitDefEqProofs [go_sem,QAa]
 refine QAD ?_
 simp +decide -dsimp -implicitDefEqProofs [go_sem,t1,t2,QAq]
 refine QBE _ [.box 157 [.str p,.int .i64 ((e + 1:Nat):Int)]] (by unfold QN8; rw [hs]; exact ⟨rfl,rfl⟩) rfl ?_
 simp +decide -dsimp -implicitDefEqProofs [go_sem,t1,QAa,QAq]
end Go.Ab
namespace Go.Ab
open Go Go.Proofs
structure El where
 lit:Nat
 star:Bool
 set:Nat → Bool
def QBe (e:El):List AV:=.int .u8 e.lit :: .bool e.star :: bB (rB 127 e.set)
def QBa (l:List El):List AV:=[.imm (l.map QBe)]
theorem QGM (e:El):(QBe e).length = 129:=by simp [QBe,QAq]
theorem QHv (k:Nat) (e:El):QAB k (QBe e) = true:=by simp [QBe,QAB,QAE,QBD]
theorem QLA (is:List Nat) (e:El):QBt is (QBe e) = QBe e:=by simp [QBe,QBt,ren,QC2]
theorem QB5 (k:Nat) (l:List El):QAb k (l.map QBe) = true:=QAn fun x _=>QHv k x
theorem QPU (k:Nat) (l:List El):QAB k (QBa l) = true:=by simp [QBa,QAB,QAE,QB5]
theorem QAr (k:Nat) (l:List (List El)):QAb k (l.map QBa) = true:=QAn fun x _=>QPU k x
theorem QJF (is:List Nat):∀ l:List El,QBL is (l.map QBe) = l.map QBe
 | []=>rfl
 | x :: l=>by rw [List.map_cons,QBL,QLA,QJF is l]
theorem QFw (is:List Nat):∀ l:List (List El),QBL is (l.map QBa) = l.map QBa
 | []=>rfl
 | x :: l=>by rw [List.map_cons,QBL,QFw is l]; simp [QBa,QBt,ren,QJF]
def QRP (b t:Nat):Bool:=decide (t = b)
def elA (p:List UInt8) (q:Nat):Option (El × Nat):=
 if (pc p q).toNat = 42 then some (⟨0,true,QOm⟩,q + 1)
 else if (pc p q).toNat = 63 then some (⟨0,false,QOm⟩,q + 1)
 else if (pc p q).toNat = 91 then (QGA p (q + 1)).map fun eg=>(⟨0,false,eg.2⟩,eg.1)
 else some (⟨(pc p q).toNat,false,QRP (pc p q).toNat⟩,q + 1)
theorem QJG {p:List UInt8} {q:Nat} {x:El} {q':Nat} (hq:q < p.length) (h:elA p q = some (x,q')):q < q' ∧ q' ≤ p.length:=by
 unfold elA at h
 split at h
 ·cases h; omega
 split at h
 ·cases h; omega
 split at h
 ·cases hs:QGA p (q + 1) with
  | none=>rw [hs] at h; cases h
  | some eg=>
   rw [hs] at h
   cases h
   have:=QTt hs
   omega
 ·cases h; omega
def QGB (p:List UInt8) (q:Nat) (acc:List (List El)) (cur:List El):Option (List (List El)):=
 if _h:q < p.length then
  if (pc p q).toNat = 124 then QGB p (q + 1) (acc ++ [cur]) []
  else match _he:elA p q with
   | none=>none
   | some xq=>QGB p xq.2 acc (cur ++ [xq.1])
 else some (acc ++ [cur])
termination_by p.length - q
decreasing_by
 ·omega
 ·have:=QJG _h (x:=xq.1) (q':=xq.2) _he
  omega
theorem QM7 {p:List UInt8} {acc:List (List El)} {cur:List El}:QGB p p.length acc cur = some (acc ++ [cur]):=by
 rw [QGB,dif_neg (by omega)]
theorem QGN {p:List UInt8} {q:Nat} {acc:List (List El)} {cur:List El} (h:q < p.length) (hb:(pc p q).toNat = 124):QGB p q acc cur = QGB p (q + 1) (acc ++ [cur]) []:=by
 rw [QGB,dif_pos h,if_pos hb]
theorem QII {p:List UInt8} {q:Nat} {acc:List (List El)} {cur:List El} {x:El} {q':Nat} (h:q < p.length) (hb:¬ (pc p q).toNat = 124) (he:elA p q = some (x,q')):QGB p q acc cur = QGB p q' acc (cur ++ [x]):=by
 rw [QGB,dif_pos h,if_neg hb]
 split
 ·rename_i h2; rw [he] at h2; cases h2
 ·rename_i xq h2; rw [he] at h2; cases h2; rfl
theorem QIJ {p:List UInt8} {q:Nat} {acc:List (List El)} {cur:List El} (h:q < p.length) (hb:¬ (pc p q).toNat = 124) (he:elA p q = none):QGB p q acc cur = none:=by
 rw [QGB,dif_pos h,if_neg hb]
 split
 ·rfl
 ·rename_i xq h2; rw [he] at h2; cases h2
def QSu (p:List UInt8) (v:AV) (G:List AObj):Prop:=match QGB p 0 [] [] with
 | some L=>v = .tup [.imm (L.map QBa),.bool true] ∧ ∃ m:Nat,G = [.box 157 [.str p,.int .i64 m]]
 | none=>v = .tup [.nils,.bool false] ∧ ∃ m:Nat,G = [.box 157 [.str p,.int .i64 m]]
end Go.Ab
namespace Go.Ab
open Go Go.Proofs
structure SA where
 q:Nat
 acc:List (List El)
 cur:List El
def QTu (o:Nat):List El → AV
 | []=>.nils
 | _x :: l=>.own o (l.length + 1)
def QWy:List El → List AObj
 | []=>[]
 | x :: l=>[.reg 210 129 ((x :: l).map QBe)]
def QTv (p:List UInt8) (s:SA):List AObj:=.box 157 [.str p,.int .i64 s.q] :: .reg 160 1 (s.acc.map QBa ++ [[QTu 2 s.cur]]) :: QWy s.cur
theorem QRQ {H:List AObj} {k0:Nat} {cur:List El} (hk:k0 ≤ 2) (hH:∀ x l,cur = x :: l → H[2]? = some (.reg 210 129 ((x :: l).map QBe))):Conv H k0 [] (QTu 2 cur) (.imm (cur.map QBe)):=by
 cases cur with
 | nil=>exact .nils
 | cons x l=>exact .frz 2 _ 210 129 _ _ hk (by simp) (hH x l rfl) (by simp) (QBY (QB5 _ _))
theorem QLB {H:List AObj} {k0:Nat} {acc:List (List El)} {cur:List El} (hk:k0 ≤ 2) (hH:∀ x l,cur = x :: l → H[2]? = some (.reg 210 129 ((x :: l).map QBe))):QDB H k0 [] (acc.map QBa ++ [[QTu 2 cur]]) ((acc ++ [cur]).map QBa):=by
 rw [List.map_append,List.map_singleton]
 exact QC8 (QJm (QRQ hk hH)) (QBY (QAr _ _))
theorem hid2:∀ j,j < 1 → ([0,1,3]:List Nat)[j]? = some j:=fun j hj=>by rw [Nat.lt_one_iff.1 hj]; rfl
theorem QM8 {H:List AObj} {k0:Nat} {acc:List (List El)} {cur:List El} (hk:k0 ≤ 2) (hH:∀ x l,cur = x :: l → H[2]? = some (.reg 210 129 ((x :: l).map QBe))):QDB H k0 [] (acc.map QBa ++ [[QTu 2 cur],[.nils]]) ((acc ++ [cur]).map QBa ++ [[.nils]]):=by
 have:=QC8 (QBY rfl:QDB H k0 [] [[.nils]] [[.nils]]) (QLB (acc:=acc) hk hH)
 rwa [List.append_assoc] at this
theorem QIz (p:List UInt8) (hp:∀ c ∈ p,c.toNat ≤ 126) (hl:p.length ≤ 1000):ACallsR Tryz.prog 117 [.ptr 0 0] [.box 157 [.str p,.int .i64 0]] (QSu p):=by
 have hz:QHN = bB (rB 127 noF):=QJ8
 have hno:∀ m:Nat,QGB p 0 [] [] = none → QSu p (.tup [.nils,.bool false]) [.box 157 [.str p,.int .i64 m]]:=fun m h=>by unfold QSu; rw [h]; exact ⟨rfl,m,rfl⟩
 have hyes:∀ (m:Nat) L,QGB p 0 [] [] = some L → QSu p (.tup [.imm (L.map QBa),.bool true]) [.box 157 [.str p,.int .i64 m]]:=fun m L h=>by unfold QSu; rw [h]; exact ⟨rfl,m,rfl⟩
 refine QFE (QSu p) 0 c117_ok ?_
 unfold c117
 rw [show zE = QBe ⟨0,false,noF⟩ by unfold zE QBe; rw [hz]; rfl]
 refine gS ?_
 refine gS ?_
 refine QA6 (S:=List (List El) × Nat) (fun s=>⟨tmps 81 [(4,.imm (s.1.map QBa))],[.box 157 [.str p,.int .i64 s.2]]⟩) (fun s=>QGB p 0 [] [] = some s.1) (QAD ?_) ?_
 ·simp +decide -dsimp -implicitDefEqProofs [go_sem]
  refine QBH (S:=SA) (fun s=>⟨tmps 81 [(0,.ptr 0 0),(4,.own 1 (s.acc.length + 1))],QTv p s⟩) (fun s=>p.length - s.q) (fun s=>s.q ≤ p.length ∧ s.acc.length ≤ s.q ∧ s.cur.length ≤ s.q ∧ QGB p 0 [] [] = QGB p s.q s.acc s.cur) ⟨0,[],[]⟩ ⟨by simp,by simp,by simp,rfl⟩ (QAC (by simp [QTv]) ?_) ?_
  ·simp +decide -dsimp -implicitDefEqProofs [go_sem,QTv,QTu,QWy]
  rintro ⟨q,acc,cur⟩ ⟨h1,h2,h2b,h3⟩
  simp only at h1 h2 h2b h3
  by_cases hq:q < p.length
  ·have pq:=QIy hq
   have wq:IntKind.i64.wrap ((q:Int) + 1) = q + 1:=w64 (by omega) (by omega)
   have t1:∀ f,(bB (rB 127 f)).take 127 = bB (rB 127 f):=fun f=>QEh _ 127 (by simp)
   have t2:∀ f,(bB (rB 127 f)).drop 127 = []:=fun f=>List.drop_eq_nil_of_le (by rw [QAq]; simp)
   have cb:∀ k f,QAB k (bB (rB 127 f)) = true:=fun k f=>QBD k _
   have cvx:∀ (H:List AObj) m (e:El),cvT H m (QBe e) (QBe e):=fun H m e=>QFW (QHv m e)
   have tk:∀ (b:Nat) (x y:AV) (l:List AV),(x :: y :: l).take (2 + b) = x :: y :: l.take b:=fun b x y l=>by rw [Nat.add_comm]; rfl
   have dk:∀ (b:Nat) (x y:AV) (l:List AV),(x :: y :: l).drop (2 + b + 1) = l.drop (b + 1):=fun b x y l=>by rw [show 2 + b + 1 = (b + 1) + 2 by omega]; rfl
   unfold QBe at *
   cases cur with
   | nil=>
    show awp Tryz.prog 1 _ _ ⟨tmps 81 [(0,.ptr 0 0),(4,.own 1 (acc.length + 1))],[.box 157 [.str p,.int .i64 q],.reg 160 1 (acc.map QBa ++ [[.nils]])]⟩
    have r1:(acc.map QBa ++ [[(.nils:AV)]])[acc.length]? = some [(.nils:AV)]:=by rw [List.getElem?_append_right (by simp)]; simp
    have r2:∀ v:AV,(acc.map QBa ++ [[(.nils:AV)]]).set acc.length [v] = acc.map QBa ++ [[v]]:=fun v=>by rw [List.set_append_right _ _ (by simp)]; simp
    refine QAP ⟨tmps 81 [(0,.ptr 0 0),(4,.own 1 (acc.length + 1))],[.box 157 [.str p,.int .i64 q],.reg 160 1 (acc.map QBa ++ [[.nils]])]⟩ (QAD ?_) ?_
    ·simp +decide -dsimp -implicitDefEqProofs [go_sem,hq]
     refine QAC (by simp) ?_
     simp +decide -dsimp -implicitDefEqProofs [go_sem,QAr]
    refine QBZ ?_
    refine QBU ?_
    simp +decide -dsimp -implicitDefEqProofs [go_sem,pq]
    refine QBU ?_
    simp +decide -dsimp -implicitDefEqProofs [go_sem,wq]
    refine QBU ?_
    simp +decide -dsimp -implicitDefEqProofs [go_sem,t2,QAq]
    by_cases hb:(pc p q).toNat = 124
    ·rw [QGN hq hb] at h3
     have hb':((pc p q).toNat:Int) = 124:=by omega
     refine QAD ?_
     simp +decide -dsimp -implicitDefEqProofs [go_sem,hb',maxLen]
     refine ⟨⟨by omega,by omega⟩,QAG ⟨q + 1,acc ++ [[]],[]⟩ ⟨by show q + 1 ≤ p.length; omega,by simp; omega,by simp,h3⟩ (by show p.length - (q + 1) < p.length - q; omega) ?_⟩
     have e1:(acc ++ [[]]).length = acc.length + 1:=by simp
     show Wk 1 _ ⟨tmps 81 [(0,.ptr 0 0),(4,.own 1 ((acc ++ [[]]).length + 1))],[.box 157 [.str p,.int .i64 ((q + 1:Nat):Int)],.reg 160 1 ((acc ++ [[]]).map QBa ++ [[.nils]])]⟩
     rw [e1]
     refine Wk.cut1 0 (.ptr 0 0) (.ptr 0 0) [(4,.own 1 (acc.length + 1 + 1))] (by simp) rfl (.same _ (by simp [QAE])) ?_ (QEs (by simp) fun o x' y' hx hy=>?_)
     ·simp +decide -dsimp -implicitDefEqProofs [go_sem]
     ·cases o with
      | zero=>cases hx; cases hy; exact ⟨rfl,QCQ rfl⟩
      | succ o=>cases o with
       | zero=>cases hx; cases hy; exact ⟨rfl,rfl,QM8 (cur:=[]) (by simp) fun x'' l' e=>by cases e⟩
       | succ o=>simp at hy
    have hb':¬ ((pc p q).toNat:Int) = 124:=by omega
    cases he:elA p q with
    | none=>
     rw [QIJ hq hb he] at h3
     unfold elA at he
     split at he
     ·cases he
     rename_i n42
     split at he
     ·cases he
     rename_i n63
     split at he
     rotate_left
     ·cases he
     rename_i n91
     have hs:QGA p (q + 1) = none:=by
      cases h:QGA p (q + 1) with
      | none=>rfl
      | some eg=>rw [h] at he; cases he
     have c:=QRO p (q + 1) hp hl (by omega)
     have i42:¬ ((pc p q).toNat:Int) = 42:=by omega
     have i63:¬ ((pc p q).toNat:Int) = 63:=by omega
     have i91:((pc p q).toNat:Int) = 91:=by omega
     refine QAD ?_
     simp +decide -dsimp -implicitDefEqProofs [go_sem,i91]
     refine QBc [0] c rfl (fun v G h=>by unfold QN8 at h; rw [hs] at h; obtain ⟨_,m,rfl⟩:=h; rfl) (by simp) (by simp +decide -dsimp -implicitDefEqProofs [go_sem]) (by simp +decide -dsimp -implicitDefEqProofs [go_sem]) ?_
     intro v G hR
     unfold QN8 at hR
     rw [hs] at hR
     obtain ⟨rfl,m,rfl⟩:=hR
     simp +decide -dsimp -implicitDefEqProofs [go_sem,QAq,QC2,hz]
     refine QBE _ _ (hno m (h3)) rfl ?_
     simp +decide -dsimp -implicitDefEqProofs [go_sem]
    | some xq=>
     obtain ⟨x,q'⟩:=xq
     have hlt:=QJG hq he
     rw [QII hq hb he] at h3
     refine QAP ⟨tmps 81 [(0,.ptr 0 0),(4,.own 1 (acc.length + 1)),(6,.ptr 2 0)],[.box 157 [.str p,.int .i64 q'],.reg 160 1 (acc.map QBa ++ [[.nils]]),.box 210 (QBe x)]⟩ ?_ ?_
     ·unfold elA at he
      by_cases n42:(pc p q).toNat = 42
      ·rw [if_pos n42] at he
       cases he
       have i42:((pc p q).toNat:Int) = 42:=by omega
       refine QAD ?_
       simp +decide -dsimp -implicitDefEqProofs [go_sem,i42]
       refine QAA QIH rfl (QAw _ _) ?_
       simp +decide -dsimp -implicitDefEqProofs [go_sem,t2,QAq]
       refine QAC (by simp) ?_
       simp +decide -dsimp -implicitDefEqProofs [go_sem,QBe,QAr,QAa]
      have i42:¬ ((pc p q).toNat:Int) = 42:=by omega
      rw [if_neg n42] at he
      by_cases n63:(pc p q).toNat = 63
      ·rw [if_pos n63] at he
       cases he
       have i63:((pc p q).toNat:Int) = 63:=by omega
       refine QAD ?_
       simp +decide -dsimp -implicitDefEqProofs [go_sem,i63]
       refine QAA QIH rfl (QAw _ _) ?_
       simp +decide -dsimp -implicitDefEqProofs [go_sem,t2,QAq]
       refine QAC (by simp) ?_
       simp +decide -dsimp -implicitDefEqProofs [go_sem,QBe,QAr,QAa]
      have i63:¬ ((pc p q).toNat:Int) = 63:=by omega
      rw [if_neg n63] at he
      by_cases n91:(pc p q).toNat = 91
      ·rw [if_pos n91] at he
       have i91:((pc p q).toNat:Int) = 91:=by omega
       have c:=QRO p (q + 1) hp hl (by omega)
       obtain ⟨eg,hs,hx⟩:∃ eg,QGA p (q + 1) = some eg ∧ (⟨0,false,eg.2⟩,eg.1) = (x,q'):=by
        cases h:QGA p (q + 1) with
        | none=>rw [h] at he; cases he
        | some eg=>rw [h] at he; exact ⟨eg,rfl,Option.some.inj he⟩
       cases hx
       refine QAD ?_
       simp +decide -dsimp -implicitDefEqProofs [go_sem,i91]
       refine QBc [0] c rfl (fun v G h=>by unfold QN8 at h; rw [hs] at h; obtain ⟨_,rfl⟩:=h; rfl) (by simp) (by simp +decide -dsimp -implicitDefEqProofs [go_sem]) (by simp +decide -dsimp -implicitDefEqProofs [go_sem]) ?_
       intro v G hR
       unfold QN8 at hR
       rw [hs] at hR
       obtain ⟨rfl,rfl⟩:=hR
       simp +decide -dsimp -implicitDefEqProofs [go_sem,QAq,QC2,hz,t1,t2]
       refine QAC (by simp) ?_
       simp +decide -dsimp -implicitDefEqProofs [go_sem,QBe,QAr,QAa]
      ·rw [if_neg n91] at he
       have i91:¬ ((pc p q).toNat:Int) = 91:=by omega
       cases he
       have h126:(pc p q).toNat ≤ 126:=QK8 hp
       have ee:=QEt (n:=127) (i:=(pc p q).toNat) (f:=noF) (b:=true) (by omega)
       have e2:(fun j=>if j = (pc p q).toNat then true else noF j) = QRP (pc p q).toNat:=by funext j; unfold QRP noF; by_cases hj:j = (pc p q).toNat <;> simp [hj]
       rw [e2] at ee
       refine QAD ?_
       simp +decide -dsimp -implicitDefEqProofs [go_sem,hb',i42,i63,i91,QAq,tk,dk,ee]
       refine ⟨by omega,by omega,QAN (by simp) ?_⟩
       simp +decide -dsimp -implicitDefEqProofs [go_sem,QBe,QAr,QAa]
     refine QAD ?_
     have wl:IntKind.i64.wrap (acc.length:Int) = acc.length:=w64 (by omega) (by omega)
     have e129:(QBe x).take 129 = QBe x:=List.take_of_length_le (by rw [QGM]; omega)
     simp +decide -dsimp -implicitDefEqProofs [go_sem,wl,r2,e129,QGM,maxLen]
     refine QAG ⟨q',acc,[x]⟩ ⟨hlt.2,by show acc.length ≤ q'; omega,by show 1 ≤ q'; omega,h3⟩ (by show p.length - q' < p.length - q; omega) (Wk.ren [0,1,3] (by decide) rfl (by decide) hid2 (fun x' m s l hx h=>by rw [Nat.lt_one_iff.1 hx] at h; cases h) ?_ ?_)
     ·simp +decide -dsimp -implicitDefEqProofs [go_sem,QTv,QTu,QWy,QFw,QLA,QBL]
     ·simp +decide [rnT,ren]
   | cons y l=>
    show awp Tryz.prog 1 _ _ ⟨tmps 81 [(0,.ptr 0 0),(4,.own 1 (acc.length + 1))],[.box 157 [.str p,.int .i64 q],.reg 160 1 (acc.map QBa ++ [[.own 2 (l.length + 1)]]),.reg 210 129 ((y :: l).map QBe)]⟩
    have r1:(acc.map QBa ++ [[(.own 2 (l.length + 1):AV)]])[acc.length]? = some [(.own 2 (l.length + 1):AV)]:=by rw [List.getElem?_append_right (by simp)]; simp
    have r2:∀ v:AV,(acc.map QBa ++ [[(.own 2 (l.length + 1):AV)]]).set acc.length [v] = acc.map QBa ++ [[v]]:=fun v=>by rw [List.set_append_right _ _ (by simp)]; simp
    refine QAP ⟨tmps 81 [(0,.ptr 0 0),(4,.own 1 (acc.length + 1))],[.box 157 [.str p,.int .i64 q],.reg 160 1 (acc.map QBa ++ [[.own 2 (l.length + 1)]]),.reg 210 129 ((y :: l).map QBe)]⟩ (QAD ?_) ?_
    ·simp +decide -dsimp -implicitDefEqProofs [go_sem,hq]
     refine QAC (by simp) ?_
     simp +decide -dsimp -implicitDefEqProofs [go_sem,QAr,QHv]
    refine QBZ ?_
    refine QBU ?_
    simp +decide -dsimp -implicitDefEqProofs [go_sem,pq]
    refine QBU ?_
    simp +decide -dsimp -implicitDefEqProofs [go_sem,wq]
    refine QBU ?_
    simp +decide -dsimp -implicitDefEqProofs [go_sem,t2,QAq]
    by_cases hb:(pc p q).toNat = 124
    ·rw [QGN hq hb] at h3
     have hb':((pc p q).toNat:Int) = 124:=by omega
     refine QAD ?_
     simp +decide -dsimp -implicitDefEqProofs [go_sem,hb',maxLen]
     refine ⟨⟨by omega,by omega⟩,QAG ⟨q + 1,acc ++ [y :: l],[]⟩ ⟨by show q + 1 ≤ p.length; omega,by simp; omega,by simp,h3⟩ (by show p.length - (q + 1) < p.length - q; omega) ?_⟩
     have e1:(acc ++ [y :: l]).length = acc.length + 1:=by simp
     show Wk 1 _ ⟨tmps 81 [(0,.ptr 0 0),(4,.own 1 ((acc ++ [y :: l]).length + 1))],[.box 157 [.str p,.int .i64 ((q + 1:Nat):Int)],.reg 160 1 ((acc ++ [y :: l]).map QBa ++ [[.nils]])]⟩
     rw [e1]
     refine Wk.cut1 0 (.ptr 0 0) (.ptr 0 0) [(4,.own 1 (acc.length + 1 + 1))] (by simp) rfl (.same _ (by simp [QAE])) ?_ (QEs (by simp) fun o x' y' hx hy=>?_)
     ·simp +decide -dsimp -implicitDefEqProofs [go_sem]
     ·cases o with
      | zero=>cases hx; cases hy; exact ⟨rfl,QCQ rfl⟩
      | succ o=>cases o with
       | zero=>cases hx; cases hy; exact ⟨rfl,rfl,QM8 (cur:=y :: l) (by simp) fun x'' l' e=>by cases e; rfl⟩
       | succ o=>simp at hy
    have hyl:l.length + 1 ≤ q:=by simpa using h2b
    have hb':¬ ((pc p q).toNat:Int) = 124:=by omega
    cases he:elA p q with
    | none=>
     rw [QIJ hq hb he] at h3
     unfold elA at he
     split at he
     ·cases he
     rename_i n42
     split at he
     ·cases he
     rename_i n63
     split at he
     rotate_left
     ·cases he
     rename_i n91
     have hs:QGA p (q + 1) = none:=by
      cases h:QGA p (q + 1) with
      | none=>rfl
      | some eg=>rw [h] at he; cases he
     have c:=QRO p (q + 1) hp hl (by omega)
     have i42:¬ ((pc p q).toNat:Int) = 42:=by omega
     have i63:¬ ((pc p q).toNat:Int) = 63:=by omega
     have i91:((pc p q).toNat:Int) = 91:=by omega
     refine QAD ?_
     simp +decide -dsimp -implicitDefEqProofs [go_sem,i91]
     refine QBc [0] c rfl (fun v G h=>by unfold QN8 at h; rw [hs] at h; obtain ⟨_,m,rfl⟩:=h; rfl) (by simp) (by simp +decide -dsimp -implicitDefEqProofs [go_sem]) (by simp +decide -dsimp -implicitDefEqProofs [go_sem]) ?_
     intro v G hR
     unfold QN8 at hR
     rw [hs] at hR
     obtain ⟨rfl,m,rfl⟩:=hR
     simp +decide -dsimp -implicitDefEqProofs [go_sem,QAq,QC2,hz]
     refine QBE _ _ (hno m (h3)) rfl ?_
     simp +decide -dsimp -implicitDefEqProofs [go_sem]
    | some xq=>
     obtain ⟨x,q'⟩:=xq
     have hlt:=QJG hq he
     rw [QII hq hb he] at h3
     refine QAP ⟨tmps 81 [(0,.ptr 0 0),(4,.own 1 (acc.length + 1)),(6,.ptr 3 0)],[.box 157 [.str p,.int .i64 q'],.reg 160 1 (acc.map QBa ++ [[.own 2 (l.length + 1)]]),.reg 210 129 ((y :: l).map QBe),.box 210 (QBe x)]⟩ ?_ ?_
     ·unfold elA at he
      by_cases n42:(pc p q).toNat = 42
      ·rw [if_pos n42] at he
       cases he
       have i42:((pc p q).toNat:Int) = 42:=by omega
       refine QAD ?_
       simp +decide -dsimp -implicitDefEqProofs [go_sem,i42]
       refine QAA QIH rfl (QAw _ _) ?_
       simp +decide -dsimp -implicitDefEqProofs [go_sem,t2,QAq]
       refine QAC (by simp) ?_
       simp +decide -dsimp -implicitDefEqProofs [go_sem,QBe,QAr,QAa,cb]
      have i42:¬ ((pc p q).toNat:Int) = 42:=by omega
      rw [if_neg n42] at he
      by_cases n63:(pc p q).toNat = 63
      ·rw [if_pos n63] at he
       cases he
       have i63:((pc p q).toNat:Int) = 63:=by omega
       refine QAD ?_
       simp +decide -dsimp -implicitDefEqProofs [go_sem,i63]
       refine QAA QIH rfl (QAw _ _) ?_
       simp +decide -dsimp -implicitDefEqProofs [go_sem,t2,QAq]
       refine QAC (by simp) ?_
       simp +decide -dsimp -implicitDefEqProofs [go_sem,QBe,QAr,QAa,cb]
      have i63:¬ ((pc p q).toNat:Int) = 63:=by omega
      rw [if_neg n63] at he
      by_cases n91:(pc p q).toNat = 91
      ·rw [if_pos n91] at he
       have i91:((pc p q).toNat:Int) = 91:=by omega
       have c:=QRO p (q + 1) hp hl (by omega)
       obtain ⟨eg,hs,hx⟩:∃ eg,QGA p (q + 1) = some eg ∧ (⟨0,false,eg.2⟩,eg.1) = (x,q'):=by
        cases h:QGA p (q + 1) with
        | none=>rw [h] at he; cases he
        | some eg=>rw [h] at he; exact ⟨eg,rfl,Option.some.inj he⟩
       cases hx
       refine QAD ?_
       simp +decide -dsimp -implicitDefEqProofs [go_sem,i91]
       refine QBc [0] c rfl (fun v G h=>by unfold QN8 at h; rw [hs] at h; obtain ⟨_,rfl⟩:=h; rfl) (by simp) (by simp +decide -dsimp -implicitDefEqProofs [go_sem]) (by simp +decide -dsimp -implicitDefEqProofs [go_sem]) ?_
       intro v G hR
       unfold QN8 at hR
       rw [hs] at hR
       obtain ⟨rfl,rfl⟩:=hR
       simp +decide -dsimp -implicitDefEqProofs [go_sem,QAq,QC2,hz,t1,t2]
       refine QAC (by simp) ?_
       simp +decide -dsimp -implicitDefEqProofs [go_sem,QBe,QAr,QAa,cb]
      ·rw [if_neg n91] at he
       have i91:¬ ((pc p q).toNat:Int) = 91:=by omega
       cases he
       have h126:(pc p q).toNat ≤ 126:=QK8 hp
       have ee:=QEt (n:=127) (i:=(pc p q).toNat) (f:=noF) (b:=true) (by omega)
       have e2:(fun j=>if j = (pc p q).toNat then true else noF j) = QRP (pc p q).toNat:=by funext j; unfold QRP noF; by_cases hj:j = (pc p q).toNat <;> simp [hj]
       rw [e2] at ee
       refine QAD ?_
       simp +decide -dsimp -implicitDefEqProofs [go_sem,hb',i42,i63,i91,QAq,tk,dk,ee]
       refine ⟨by omega,by omega,QAN (by simp) ?_⟩
       simp +decide -dsimp -implicitDefEqProofs [go_sem,QBe,QAr,QAa,cb]
     refine QAD ?_
     have wl:IntKind.i64.wrap (acc.length:Int) = acc.length:=w64 (by omega) (by omega)
     have e129:(QBe x).take 129 = QBe x:=List.take_of_length_le (by rw [QGM]; omega)
     simp +decide -dsimp -implicitDefEqProofs [go_sem,wl,r2,e129,QGM,maxLen]
     refine ⟨⟨by omega,by omega⟩,QAG ⟨q',acc,y :: (l ++ [x])⟩ ⟨hlt.2,by show acc.length ≤ q'; omega,by simp at h2b ⊢; omega,by rw [h3]; rfl⟩ (by show p.length - q' < p.length - q; omega) (QAC (by simp [QTv,QWy]) ?_)⟩
     simp +decide -dsimp -implicitDefEqProofs [go_sem,QTv,QTu,QWy,QAr,QHv]
  ·have e:q = p.length:=by omega
   subst e
   rw [QM7] at h3
   refine QAD ?_
   unfold QTv
   refine gs ?_
   refine QAs (acc ++ [cur],p.length) h3 (Wk.cut1 4 (.own 1 (acc.length + 1)) _ [] (by simp) rfl (.frz 1 _ 160 1 _ _ (by simp) (by simp) rfl (by simp) (QLB (by simp) fun x l e=>by subst e; rfl)) ?_ (QEs (by simp) fun o x y hx hy=>?_))
   ·simp +decide -dsimp -implicitDefEqProofs [go_sem]
   ·cases o with
    | zero=>simp at hx hy; subst hx hy; exact ⟨rfl,QCQ rfl⟩
    | succ o=>simp at hy
 rintro ⟨L,m⟩ h
 simp only at h ⊢
 refine QAD ?_
 refine gs ?_
 refine QBE _ [.box 157 [.str p,.int .i64 m]] (hyes m L h) rfl ?_
 simp +decide -dsimp -implicitDefEqProofs [go_sem,QAr]
end Go.Ab
namespace Go.Ab
open Go Go.Proofs
def QCf (p:List UInt8):Option (List (List El)):=if QCb p = true then QGB p 0 [] [] else none
def QCD (p:List UInt8):Int:=match QCf p with
 | some _=>0
 | none=>if p.length > 256 then 21 else 20
def QE1 (p:List UInt8):AV:=match QCf p with
 | some L=>.imm (L.map QBa)
 | none=>.nils
theorem QLC (k:Nat) (p:List UInt8):QAE k (QE1 p) = true:=by
 unfold QE1; split
 ·simp [QAE,QAr]
 ·rfl
theorem QGs {p:List UInt8} (h:QCb p = true):(∀ c ∈ p,32 ≤ c.toNat ∧ c.toNat ≤ 126) ∧ p.length ≤ 256:=by
 unfold QCb QBJ at h
 simp only [Bool.and_eq_true,decide_eq_true_eq,List.all_eq_true] at h
 exact ⟨fun c hc=>by simpa using h.1 c hc,h.2⟩
theorem QPV (p:List UInt8) (hl:p.length < 9223372036854775807):ACalls Tryz.prog 82 [.str p] [] (.tup [QE1 p,.int .i64 (QCD p)]) []:=by
 have ct:=QQE p hl
 by_cases h:(256:Int) < p.length
 ·have hn:¬ QCb p = true:=fun ht=>by have:=(QGs ht).2; omega
  have e1:QCf p = none:=by unfold QCf; rw [if_neg hn]
  have h':p.length > 256:=by omega
  refine QAH cqq rfl ?_
  unfold QE1 QCD
  rw [e1]
  simp +decide -dsimp -implicitDefEqProofs [go_sem,h,h']
 ·have h':¬ p.length > 256:=by omega
  by_cases ht:QCb p = true
  ·rw [ht] at ct
   have c:=QIz p (fun c hc=>((QGs ht).1 c hc).2) (by have:=(QGs ht).2; omega)
   have e1:QCf p = QGB p 0 [] []:=by unfold QCf; rw [if_pos ht]
   refine QAH cqq rfl ?_
   unfold QE1 QCD
   rw [e1]
   simp +decide -dsimp -implicitDefEqProofs [go_sem,h]
   refine QAA ct rfl rfl ?_
   refine gs ?_
   refine QBc [0] c rfl (fun v G h=>by unfold QSu at h; split at h <;> obtain ⟨_,m,rfl⟩:=h <;> rfl) (by simp) (by simp +decide -dsimp -implicitDefEqProofs [go_sem]) (by simp +decide -dsimp -implicitDefEqProofs [go_sem]) ?_
   intro v G hR
   unfold QSu at hR
   cases hA:QGB p 0 [] [] with
   | none=>
    rw [hA] at hR
    obtain ⟨rfl,m,rfl⟩:=hR
    simp +decide -dsimp -implicitDefEqProofs [go_sem,h']
   | some L=>
    rw [hA] at hR
    obtain ⟨rfl,m,rfl⟩:=hR
    simp +decide -dsimp -implicitDefEqProofs [go_sem,QFw,QAr]
  ·have e1:QCf p = none:=by unfold QCf; rw [if_neg ht]
   have hf:QCb p = false:=by simpa using ht
   rw [hf] at ct
   refine QAH cqq rfl ?_
   unfold QE1 QCD
   rw [e1]
   simp +decide -dsimp -implicitDefEqProofs [go_sem,h]
   refine QAA ct rfl rfl ?_
   simp +decide -dsimp -implicitDefEqProofs [go_sem,h']
theorem QPW (p:List UInt8) (hl:p.length < 9223372036854775807):ACalls Tryz.prog 42 [.str p] [] (.int .i64 (QCD p)) []:=by
 have c:=QPV p hl
 have hcl:=QLC 0 p
 refine QAH cqq rfl ?_
 generalize QE1 p = v at c hcl
 refine gs ?_
 refine QAA c rfl (by simp [QAE,QAB,hcl]) ?_
 simp +decide -dsimp -implicitDefEqProofs [go_sem]
end Go.Ab
namespace Go.Ab
open Go Go.Proofs
def mtch (l:List El) (s:List UInt8):Bool:=match l with
 | []=>s.isEmpty
 | e :: l=>if e.star then mtch l s || (match s with | []=>false | _ :: t=>mtch (e :: l) t)
  else match s with | []=>false | c :: t=>e.set c.toNat && mtch l t
termination_by (l.length,s.length)
theorem QMH (s:List UInt8):mtch [] s = s.isEmpty:=by rw [mtch]
theorem QHR {e:El} (h:e.star = true) (l:List El) (s:List UInt8):mtch (e :: l) s = (mtch l s || (match s with | []=>false | _ :: t=>mtch (e :: l) t)):=by
 conv=>lhs; rw [mtch.eq_def]
 simp only [h,if_true]
theorem QLD {e:El} (h:e.star = false) (l:List El) (s:List UInt8):mtch (e :: l) s = (match s with | []=>false | c :: t=>e.set c.toNat && mtch l t):=by
 conv=>lhs; rw [mtch.eq_def]
 simp only [h,Bool.false_eq_true,if_false]
theorem QGO {e:El} (h:e.star = true) (l:List El):∀ s:List UInt8,mtch (e :: l) s = true ↔ ∃ j,j ≤ s.length ∧ mtch l (s.drop j) = true
 | []=>by
  rw [QHR h]
  simp
 | c :: t=>by
  rw [QHR h,Bool.or_eq_true]
  show _ ∨ mtch (e :: l) t = true ↔ _
  rw [QGO h l t]
  constructor
  ·rintro (h1 | ⟨j,h1,h2⟩)
   ·exact ⟨0,by simp,h1⟩
   ·exact ⟨j + 1,by simp; omega,h2⟩
  ·rintro ⟨j,h1,h2⟩
   cases j with
   | zero=>exact .inl h2
   | succ j=>exact .inr ⟨j,by simp at h1; omega,h2⟩
theorem QMI {e:El} (h:e.star = true) (l:List El) {s:List UInt8} {a b:Nat} (hab:b ≤ a) (ha:a ≤ s.length) (hm:mtch (e :: l) (s.drop a) = true):mtch (e :: l) (s.drop b) = true:=by
 rw [QGO h] at hm ⊢
 obtain ⟨j,h1,h2⟩:=hm
 rw [List.length_drop] at h1
 refine ⟨a - b + j,by rw [List.length_drop]; omega,?_⟩
 rw [List.drop_drop] at h2 ⊢
 rwa [show b + (a - b + j) = a + j by omega]
theorem QTw:∀ (seg l:List El) (s:List UInt8),(∀ e ∈ seg,e.star = false) → mtch (seg ++ l) s = true → seg.length ≤ s.length ∧ mtch l (s.drop seg.length) = true
 | [],l,s,_,h=>⟨by simp,h⟩
 | e :: seg,l,s,hs,h=>by
  rw [List.cons_append,QLD (hs e (by simp))] at h
  cases s with
  | nil=>cases h
  | cons c t=>
   simp only [Bool.and_eq_true] at h
   have:=QTw seg l t (fun x hx=>hs x (by simp [hx])) h.2
   exact ⟨by simp; omega,this.2⟩
structure MS where
 at':Nat
 star:Int
 frm:Nat
 i:Nat
structure MOk (l:List El) (s:List UInt8) (x:MS):Prop where
 ia:x.i ≤ s.length
 aa:x.at' ≤ l.length
 fi:x.frm ≤ x.i
 cs:(x.star = -1 ∧ mtch l s = mtch (l.drop x.at') (s.drop x.i)) ∨
  ∃ k:Nat,x.star = k ∧ ∃ hk:k < l.length,l[k].star = true ∧ k + 1 ≤ x.at' ∧ x.i = x.frm + (x.at' - (k + 1)) ∧ (∀ j,k + 1 ≤ j → j < x.at' → ∀ h:j < l.length,l[j].star = false) ∧
   (mtch l s = true ↔ ∃ j,x.frm ≤ j ∧ j ≤ s.length ∧ mtch (l.drop (k + 1)) (s.drop j) = true) ∧
   mtch (l.drop (k + 1)) (s.drop x.frm) = mtch (l.drop x.at') (s.drop x.i)
variable {l:List El} {s:List UInt8}
theorem MOk.init:MOk l s ⟨0,-1,0,0⟩:=⟨Nat.zero_le _,Nat.zero_le _,Nat.le_refl _,.inl ⟨rfl,rfl⟩⟩
theorem QBb {α:Type} {l:List α} {i:Nat} (h:i < l.length):l.drop i = l[i] :: l.drop (i + 1):=List.drop_eq_getElem_cons h
theorem MOk.star (x:MS) (h:MOk l s x) (ha:x.at' < l.length) (hs:l[x.at'].star = true):MOk l s ⟨x.at' + 1,x.at',x.i,x.i⟩:=by
 refine ⟨h.ia,by show x.at' + 1 ≤ _; omega,Nat.le_refl _,.inr ⟨x.at',rfl,ha,hs,Nat.le_refl _,by dsimp only; omega,fun j h1 h2=>by have h2':j < x.at' + 1:=h2; omega,?_,rfl⟩⟩
 have key:mtch (l.drop x.at') (s.drop x.i) = true ↔ ∃ j,x.i ≤ j ∧ j ≤ s.length ∧ mtch (l.drop (x.at' + 1)) (s.drop j) = true:=by
  rw [QBb ha,QGO hs]
  constructor
  ·rintro ⟨j,h1,h2⟩
   rw [List.drop_drop] at h2
   rw [List.length_drop] at h1
   exact ⟨x.i + j,by omega,by have:=h.ia; omega,h2⟩
  ·rintro ⟨j,h1,h2,h3⟩
   refine ⟨j - x.i,by rw [List.length_drop]; omega,?_⟩
   rw [List.drop_drop,show x.i + (j - x.i) = j by omega]
   exact h3
 rcases h.cs with ⟨_,h1⟩ | ⟨k,hk0,hk,h1,h2,h3,h4,h5,h6⟩
 ·show mtch l s = true ↔ _
  rw [h1]; exact key
 ·show mtch l s = true ↔ _
  rw [← key,h5,← h6]
  constructor
  ·rintro ⟨j,g1,g2,g3⟩
   -- the elements between take as many bytes from j
   have hseg:l.drop (k + 1) = (l.drop (k + 1)).take (x.at' - (k + 1)) ++ l.drop x.at':=by
    conv=>lhs; rw [← List.take_append_drop (x.at' - (k + 1)) (l.drop (k + 1))]
    rw [List.drop_drop,Nat.add_sub_of_le h2]
   have hlen:((l.drop (k + 1)).take (x.at' - (k + 1))).length = x.at' - (k + 1):=by rw [List.length_take,List.length_drop]; omega
   have q1:∀ n,n < x.at' - (k + 1) → k + 1 ≤ k + 1 + n ∧ k + 1 + n < x.at' ∧ k + 1 + n < l.length:=fun n hn=>⟨Nat.le_add_right _ _,by omega,by omega⟩
   have hns:∀ e ∈ (l.drop (k + 1)).take (x.at' - (k + 1)),e.star = false:=fun e he=>by
    obtain ⟨n,hn,rfl⟩:=List.mem_iff_getElem.1 he
    rw [List.getElem_take,List.getElem_drop]
    rw [hlen] at hn
    exact h4 (k + 1 + n) (q1 n hn).1 (q1 n hn).2.1 (q1 n hn).2.2
   rw [hseg] at g3
   obtain ⟨f1,f2⟩:=QTw _ _ _ hns g3
   rw [hlen] at f1 f2
   rw [List.length_drop] at f1
   rw [h6]
   rw [List.drop_drop,QBb ha] at f2
   rw [QBb ha]
   exact QMI hs _ (by omega) (by omega) f2
  ·intro g
   exact ⟨x.frm,Nat.le_refl _,by have:=h.fi; have:=h.ia; omega,g⟩
theorem MOk.byte (x:MS) (h:MOk l s x) (ha:x.at' < l.length) (hi:x.i < s.length) (hs:l[x.at'].star = false) (hb:l[x.at'].set s[x.i].toNat = true):MOk l s ⟨x.at' + 1,x.star,x.frm,x.i + 1⟩:=by
 have e:mtch (l.drop x.at') (s.drop x.i) = mtch (l.drop (x.at' + 1)) (s.drop (x.i + 1)):=by
  rw [QBb ha,QBb hi,QLD hs]
  simp [hb]
 refine ⟨by show x.i + 1 ≤ _; omega,by show x.at' + 1 ≤ _; omega,by show x.frm ≤ x.i + 1; have:=h.fi; omega,?_⟩
 rcases h.cs with ⟨h0,h1⟩ | ⟨k,hk0,hk,h1,h2,h3,h4,h5,h6⟩
 ·exact .inl ⟨h0,h1.trans e⟩
 ·refine .inr ⟨k,hk0,hk,h1,Nat.le_succ_of_le h2,by dsimp only; rw [h3,Nat.sub_add_comm h2,Nat.add_assoc],fun j g1 g2 g3=>?_,h5,h6.trans e⟩
  have g2':j < x.at' + 1:=g2
  by_cases hj:j = x.at'
  ·subst hj; exact hs
  ·exact h4 j g1 (Nat.lt_of_le_of_ne (Nat.lt_succ_iff.1 g2') hj) g3
def QPX (l:List El) (s:List UInt8) (x:MS):Prop:=∀ ha:x.at' < l.length,l[x.at'].star = false ∧ ∀ hi:x.i < s.length,l[x.at'].set s[x.i].toNat = false
theorem QM9 {x:MS} (hi:x.i < s.length) (h:QPX l s x):mtch (l.drop x.at') (s.drop x.i) = false:=by
 by_cases ha:x.at' < l.length
 ·obtain ⟨h1,h2⟩:=h ha
  rw [QBb ha,QBb hi,QLD h1]
  simp [h2 hi]
 ·rw [List.drop_eq_nil_of_le (by omega),QBb hi,QMH]; rfl
theorem MOk.back (x:MS) (h:MOk l s x) (hi:x.i < s.length) (hst:QPX l s x) (k:Nat) (hk:x.star = k):MOk l s ⟨k + 1,x.star,x.frm + 1,x.frm + 1⟩:=by
 have hno:=QM9 hi hst
 rcases h.cs with ⟨h0,_⟩ | ⟨k',hk0,hk',h1,h2,h3,h4,h5,h6⟩
 ·rw [hk] at h0; omega
 have:k' = k:=by rw [hk] at hk0; omega
 subst this
 have hfi:=h.fi
 refine ⟨by show x.frm + 1 ≤ _; omega,by show k' + 1 ≤ _; omega,Nat.le_refl _,.inr ⟨k',hk0,hk',h1,Nat.le_refl _,by dsimp only; omega,fun j g1 g2=>by have g2':j < k' + 1:=g2; omega,?_,rfl⟩⟩
 rw [h5]
 constructor
 ·rintro ⟨j,g1,g2,g3⟩
  refine ⟨j,?_,g2,g3⟩
  show x.frm + 1 ≤ j
  rcases Nat.lt_or_ge x.frm j with g | g
  ·omega
  ·have:j = x.frm:=by omega
   rw [this,h6,hno] at g3
   cases g3
 ·rintro ⟨j,g1,g2,g3⟩
  have g1':x.frm + 1 ≤ j:=g1
  exact ⟨j,by omega,g2,g3⟩
theorem MOk.fail (x:MS) (h:MOk l s x) (hi:x.i < s.length) (hst:QPX l s x) (hk:x.star = -1):mtch l s = false:=by
 rcases h.cs with ⟨_,h1⟩ | ⟨k,hk0,_⟩
 ·rw [h1,QM9 hi hst]
 ·rw [hk] at hk0; omega
theorem QTx:∀ l:List El,mtch l [] = l.all (·.star)
 | []=>by rw [QMH]; rfl
 | e :: l=>by
  cases h:e.star with
  | true=>rw [QHR h,QTx l]; simp [h]
  | false=>rw [QLD h]; simp [h]
theorem MOk.fin (x:MS) (h:MOk l s x) (hi:x.i = s.length):mtch l s = (l.drop x.at').all (·.star):=by
 have hd:s.drop x.i = []:=List.drop_eq_nil_of_le (by omega)
 rcases h.cs with ⟨_,h1⟩ | ⟨k,hk0,hk,h1,h2,h3,h4,h5,h6⟩
 ·rw [h1,hd,QTx]
 ·rw [hd,QTx] at h6
  cases ha:(l.drop x.at').all (·.star) with
  | true=>
   rw [ha] at h6
   exact h5.2 ⟨x.frm,Nat.le_refl _,by have:=h.fi; omega,h6⟩
  | false=>
   rw [ha] at h6
   cases hm:mtch l s with
   | false=>rfl
   | true=>
    obtain ⟨j,g1,g2,g3⟩:=h5.1 hm
    have hseg:l.drop (k + 1) = (l.drop (k + 1)).take (x.at' - (k + 1)) ++ l.drop x.at':=by
     conv=>lhs; rw [← List.take_append_drop (x.at' - (k + 1)) (l.drop (k + 1))]
     rw [List.drop_drop,Nat.add_sub_of_le h2]
    have haa:=h.aa
    have hlen:((l.drop (k + 1)).take (x.at' - (k + 1))).length = x.at' - (k + 1):=by rw [List.length_take,List.length_drop]; omega
    have q1:∀ n,n < x.at' - (k + 1) → k + 1 ≤ k + 1 + n ∧ k + 1 + n < x.at' ∧ k + 1 + n < l.length:=fun n hn=>⟨Nat.le_add_right _ _,by omega,by omega⟩
    have hns:∀ e ∈ (l.drop (k + 1)).take (x.at' - (k + 1)),e.star = false:=fun e he=>by
     obtain ⟨n,hn,rfl⟩:=List.mem_iff_getElem.1 he
     rw [List.getElem_take,List.getElem_drop]
     rw [hlen] at hn
     exact h4 (k + 1 + n) (q1 n hn).1 (q1 n hn).2.1 (q1 n hn).2.2
    have g4:=g3
    rw [hseg] at g4
    obtain ⟨f1,f2⟩:=QTw _ _ _ hns g4
    rw [hlen,List.length_drop] at f1
    have:j = x.frm:=by omega
    rw [this,h6] at g3
    cases g3
end Go.Ab
namespace Go.Ab
open Go Go.Proofs
def QRR (L S:Nat) (x:MS):Nat:=(L - (x.star + 1).toNat) * ((S + 1) * (S + 1)) + (S - x.frm) * (S + 1) + (S - x.i)
theorem lex3 {S a b c a' b' c':Nat} (hb:b' ≤ S) (hc:c' ≤ S) (h:a' < a):a' * ((S + 1) * (S + 1)) + b' * (S + 1) + c' < a * ((S + 1) * (S + 1)) + b * (S + 1) + c:=by
 have h1:b' * (S + 1) ≤ S * (S + 1):=Nat.mul_le_mul_right _ hb
 have h2:(a' + 1) * ((S + 1) * (S + 1)) ≤ a * ((S + 1) * (S + 1)):=Nat.mul_le_mul_right _ h
 rw [Nat.add_mul,Nat.one_mul] at h2
 have h3:(S + 1) * (S + 1) = S * (S + 1) + (S + 1):=by rw [Nat.add_mul,Nat.one_mul]
 generalize (S + 1) * (S + 1) = K at *
 generalize a' * K = A' at *
 generalize a * K = A at *
 generalize b' * (S + 1) = B' at *
 generalize b * (S + 1) = B at *
 generalize S * (S + 1) = D at *
 omega
theorem lex2 {S b c b' c':Nat} (hc:c' ≤ S) (h:b' < b):b' * (S + 1) + c' < b * (S + 1) + c:=by
 have h2:(b' + 1) * (S + 1) ≤ b * (S + 1):=Nat.mul_le_mul_right _ h
 rw [Nat.add_mul,Nat.one_mul] at h2
 omega
theorem QPY (l:List El) (s:List UInt8) (hl:l.length ≤ 1000) (hs:s.length ≤ 1000000) (hb:∀ c ∈ s,c.toNat ≤ 126):ACalls Tryz.prog 118 [.imm (l.map QBe),.str s] [] (.bool (mtch l s)) []:=by
 refine QA2 cqq rfl ?_
 refine gS ?_
 refine gS ?_
 refine QA6 (S:=MS) (fun x=>⟨tmps 74 [(0,.imm (l.map QBe)),(5,.int .i64 x.at')],[]⟩) (fun x=>MOk l s x ∧ x.i = s.length) (QAD ?_) ?_
 ·simp +decide -dsimp -implicitDefEqProofs [go_sem]
  refine QBH (S:=MS) (fun x=>⟨tmps 74 [(0,.imm (l.map QBe)),(1,.str s),(5,.int .i64 x.at'),(6,.int .i64 x.star),(7,.int .i64 x.frm),(8,.int .i64 x.i)],[]⟩) (QRR l.length s.length) (fun x=>MOk l s x) ⟨0,-1,0,0⟩ .init (QAC (by simp) ?_) ?_
  ·simp +decide -dsimp -implicitDefEqProofs [go_sem,QB5]
  intro x hx
  have hia:=hx.ia
  have haa:=hx.aa
  have hfi:=hx.fi
  have hst:x.star = -1 ∨ ∃ k:Nat,x.star = k ∧ k + 1 ≤ x.at':=by
   rcases hx.cs with ⟨h,_⟩ | ⟨k,h,_,_,h2,_⟩
   ·exact .inl h
   ·exact .inr ⟨k,h,h2⟩
  by_cases hi:x.i < s.length
  ·have hi':(x.i:Int) < s.length:=by omega
   have si:s[x.i]? = some s[x.i]:=List.getElem?_eq_getElem hi
   have hc126:s[x.i].toNat ≤ 126:=hb _ (List.getElem_mem hi)
   have hc127:s[x.i].toNat < 127:=by omega
   have wa:IntKind.i64.wrap ((x.at':Int) + 1) = x.at' + 1:=w64 (by omega) (by omega)
   have wi:IntKind.i64.wrap ((x.i:Int) + 1) = x.i + 1:=w64 (by omega) (by omega)
   have wf:IntKind.i64.wrap ((x.frm:Int) + 1) = x.frm + 1:=w64 (by omega) (by omega)
   by_cases ha:x.at' < l.length
   ·have ha':(x.at':Int) < l.length:=by omega
    cases hsr:l[x.at'].star with
    | true=>
     have la:QBe l[x.at'] = .int .u8 l[x.at'].lit :: .bool true :: bB (rB 127 l[x.at'].set):=by unfold QBe; rw [hsr]
     refine QAD ?_
     simp +decide -dsimp -implicitDefEqProofs [go_sem,hi',ha',ha,la,wa,QAq]
     refine QAG (⟨x.at' + 1,x.at',x.i,x.i⟩:MS) (MOk.star x hx ha hsr) (lex3 (by dsimp only; omega) (by dsimp only; omega) ?_) (QAC (by simp) ?_)
     ·dsimp only
      rcases hst with h | ⟨k,h,h2⟩ <;> omega
     ·simp +decide -dsimp -implicitDefEqProofs [go_sem,QB5]
    | false=>
     have la:QBe l[x.at'] = .int .u8 l[x.at'].lit :: .bool false :: bB (rB 127 l[x.at'].set):=by unfold QBe; rw [hsr]
     have lset:(rB 127 l[x.at'].set)[s[x.i].toNat]'(by rw [QJE]; omega) = l[x.at'].set s[x.i].toNat:=by rw [QK7]
     cases hbs:l[x.at'].set s[x.i].toNat with
     | true=>
      rw [hbs] at lset
      refine QAD ?_
      simp +decide -dsimp -implicitDefEqProofs [go_sem,hi',hi,ha',ha,la,wa,wi,hc127,QAq,QGX,lset]
      refine QAG (⟨x.at' + 1,x.star,x.frm,x.i + 1⟩:MS) (MOk.byte x hx ha hi hsr hbs) (by unfold QRR; dsimp only; omega) (QAC (by simp) ?_)
      simp +decide -dsimp -implicitDefEqProofs [go_sem,QB5]
     | false=>
      rw [hbs] at lset
      have hstuck:QPX l s x:=fun _=>⟨hsr,fun _=>hbs⟩
      rcases hst with h0 | ⟨k,h0,h2⟩
      ·have hno:=MOk.fail x hx hi hstuck h0
       rw [hno]
       refine QAD ?_
       rw [h0]
       simp +decide -dsimp -implicitDefEqProofs [go_sem,hi',hi,ha',ha,la,wa,wi,hc127,QAq,QGX,lset]
      ·have wk:IntKind.i64.wrap ((k:Int) + 1) = k + 1:=w64 (by omega) (by omega)
       have hbk:=MOk.back x hx hi hstuck k h0
       rw [h0] at hbk ⊢
       refine QAD ?_
       simp +decide -dsimp -implicitDefEqProofs [go_sem,hi',hi,ha',ha,la,wa,wi,wk,wf,hc127,QAq,QGX,lset]
       refine QAG (⟨k + 1,k,x.frm + 1,x.frm + 1⟩:MS) hbk (by unfold QRR; dsimp only; rw [h0,Nat.add_assoc,Nat.add_assoc]; exact Nat.add_lt_add_left (lex2 (by omega) (by omega)) _) (QAC (by simp) ?_)
       simp +decide -dsimp -implicitDefEqProofs [go_sem,QB5]
   ·have ha':¬ (x.at':Int) < l.length:=by omega
    have hstuck:QPX l s x:=fun h=>absurd h ha
    rcases hst with h0 | ⟨k,h0,h2⟩
    ·have hno:=MOk.fail x hx hi hstuck h0
     rw [hno]
     refine QAD ?_
     rw [h0]
     simp +decide -dsimp -implicitDefEqProofs [go_sem,hi',ha']
    ·have wk:IntKind.i64.wrap ((k:Int) + 1) = k + 1:=w64 (by omega) (by omega)
     have hbk:=MOk.back x hx hi hstuck k h0
     rw [h0] at hbk ⊢
     refine QAD ?_
     simp +decide -dsimp -implicitDefEqProofs [go_sem,hi',ha',wk,wf]
     refine QAG (⟨k + 1,k,x.frm + 1,x.frm + 1⟩:MS) hbk (by unfold QRR; dsimp only; rw [h0,Nat.add_assoc,Nat.add_assoc]; exact Nat.add_lt_add_left (lex2 (by omega) (by omega)) _) (QAC (by simp) ?_)
     simp +decide -dsimp -implicitDefEqProofs [go_sem,QB5]
  ·have hi':¬ (x.i:Int) < s.length:=by omega
   refine QAD ?_
   simp +decide -dsimp -implicitDefEqProofs [go_sem,hi']
   refine QAs x ⟨hx,by omega⟩ (QAC (by simp) ?_)
   simp +decide -dsimp -implicitDefEqProofs [go_sem,QB5]
 intro x ⟨hx,hi⟩
 have hfin:=MOk.fin x hx hi
 have haa:=hx.aa
 refine QA6 (S:=Nat) (fun a=>⟨tmps 74 [(0,.imm (l.map QBe)),(5,.int .i64 a)],[]⟩) (fun a=>a ≤ l.length ∧ mtch l s = (l.drop a).all (·.star) ∧ ∀ h:a < l.length,l[a].star = false) (QAD ?_) ?_
 ·simp +decide -dsimp -implicitDefEqProofs [go_sem]
  refine QAQ (S:=Nat) (fun a=>⟨tmps 74 [(0,.imm (l.map QBe)),(5,.int .i64 a)],[]⟩) (fun a=>l.length - a) (fun a=>a ≤ l.length ∧ mtch l s = (l.drop a).all (·.star)) x.at' ⟨haa,hfin⟩ (QAC (by simp) ?_) ?_
  ·simp +decide -dsimp -implicitDefEqProofs [go_sem,QB5]
  intro a ⟨h1,h2⟩
  by_cases ha:a < l.length
  ·have ha':(a:Int) < l.length:=by omega
   have wa:IntKind.i64.wrap ((a:Int) + 1) = a + 1:=w64 (by omega) (by omega)
   cases hsr:l[a].star with
   | true=>
    have la:QBe l[a] = .int .u8 l[a].lit :: .bool true :: bB (rB 127 l[a].set):=by unfold QBe; rw [hsr]
    simp +decide -dsimp -implicitDefEqProofs [go_sem,ha',ha,la,wa,QAq]
    refine QAG (a + 1) ⟨ha,by rw [h2,QBb ha,List.all_cons,hsr,Bool.true_and]⟩ (by show l.length - (a + 1) < l.length - a; omega) (QAC (by simp) ?_)
    simp +decide -dsimp -implicitDefEqProofs [go_sem,QB5]
   | false=>
    have la:QBe l[a] = .int .u8 l[a].lit :: .bool false :: bB (rB 127 l[a].set):=by unfold QBe; rw [hsr]
    simp +decide -dsimp -implicitDefEqProofs [go_sem,ha',ha,la,QAq]
    refine QAs a ⟨h1,h2,fun _=>hsr⟩ (QAC (by simp) ?_)
    simp +decide -dsimp -implicitDefEqProofs [go_sem,QB5]
  ·have ha':¬ (a:Int) < l.length:=by omega
   simp +decide -dsimp -implicitDefEqProofs [go_sem,ha']
   refine QAs a ⟨h1,h2,fun h=>absurd h ha⟩ (QAC (by simp) ?_)
   simp +decide -dsimp -implicitDefEqProofs [go_sem,QB5]
 intro a ⟨h1,h2,h3⟩
 have e:mtch l s = decide (a = l.length):=by
  rw [h2]
  by_cases ha:a < l.length
  ·rw [QBb ha,List.all_cons,h3 ha,Bool.false_and,decide_eq_false (by omega)]
  ·rw [List.drop_eq_nil_of_le (by omega),decide_eq_true (by omega)]; rfl
 rw [e]
 refine QAD ?_
 by_cases ha:a = l.length
 ·simp +decide -dsimp -implicitDefEqProofs [go_sem,ha]
 ·have ha':¬ (a:Int) = l.length:=by omega
  simp +decide -dsimp -implicitDefEqProofs [go_sem,ha,ha']
end Go.Ab
namespace Go.Ab
open Go Go.Proofs
theorem QGt {p:List UInt8} {N:Nat}:∀ (n q:Nat) (acc:List (List El)) (cur:List El) (L:List (List El)),p.length - q ≤ n → QGB p q acc cur = some L → (∀ a ∈ acc,a.length ≤ N) → cur.length + (p.length - q) ≤ N →
  (∀ a ∈ L,a.length ≤ N) ∧ L.length ≤ acc.length + 1 + (p.length - q) ∧ L ≠ []
 | n,q,acc,cur,L,hn,h,ha,hc=>by
  by_cases hq:q < p.length
  ·cases n with
   | zero=>omega
   | succ n=>
    by_cases hb:(pc p q).toNat = 124
    ·rw [QGN hq hb] at h
     obtain ⟨h1,h2,h3⟩:=QGt n (q + 1) _ _ L (by omega) h (fun a hm=>by
      rcases List.mem_append.1 hm with hm | hm
      ·exact ha a hm
      ·rw [List.mem_singleton.1 hm]; omega) (by simp; omega)
     exact ⟨h1,by simp at h2; omega,h3⟩
    ·cases he:elA p q with
     | none=>rw [QIJ hq hb he] at h; cases h
     | some xq=>
      obtain ⟨x,q'⟩:=xq
      have hlt:=QJG hq he
      rw [QII hq hb he] at h
      obtain ⟨h1,h2,h3⟩:=QGt n q' _ _ L (by omega) h ha (by simp; omega)
      exact ⟨h1,by omega,h3⟩
  ·rw [QGB,dif_neg hq] at h
   cases h
   refine ⟨fun a hm=>?_,by simp,by simp⟩
   rcases List.mem_append.1 hm with hm | hm
   ·exact ha a hm
   ·rw [List.mem_singleton.1 hm]; omega
theorem QHS {p:List UInt8} {L:List (List El)} (h:QCf p = some L):(∀ a ∈ L,a.length ≤ 256) ∧ L.length ≤ 257:=by
 unfold QCf at h
 split at h
 ·rename_i ht
  have hl:=(QGs ht).2
  obtain ⟨h1,h2,_⟩:=QGt (N:=256) _ 0 [] [] L (Nat.le_refl _) h (by simp) (by simp; omega)
  exact ⟨h1,by simp at h2; omega⟩
 ·cases h
def QDR (p s:List UInt8):Bool:=match QCf p with
 | none=>false
 | some L=>QBJ s && L.any fun l=>mtch l s
theorem QNA {s:List UInt8} (h:QBJ s = true):∀ c ∈ s,c.toNat ≤ 126:=fun c hc=>by
 unfold QBJ at h
 have:=List.all_eq_true.1 h c hc
 simp at this; exact this.2
theorem QJH {s:List UInt8} {i:Nat} (h:i < s.length):QBJ (s.take (i + 1)) = (QBJ (s.take i) && (decide (32 ≤ s[i].toNat) && decide (s[i].toNat ≤ 126))):=by
 unfold QBJ
 rw [List.take_succ_eq_append_getElem h,List.all_append,List.all_cons,List.all_nil,Bool.and_true]
theorem QPZ (p s:List UInt8) (hl:p.length < 9223372036854775807) (hs:s.length ≤ 1000000):ACalls Tryz.prog 84 [.str p,.str s] [] (.bool (QDR p s)) []:=by
 have c:=QPV p hl
 refine QA2 cqq rfl ?_
 refine gS ?_
 have hcl:=QLC 0 p
 unfold QDR
 cases hL:QCf p with
 | none=>
  have e1:QE1 p = .nils:=by unfold QE1; rw [hL]
  have e2:¬ QCD p = 0:=by unfold QCD; rw [hL]; dsimp only; split <;> omega
  rw [e1] at c
  refine QAD ?_
  refine gs ?_
  refine QAA c rfl rfl ?_
  simp +decide -dsimp -implicitDefEqProofs [go_sem,e2]
 | some L=>
  have e1:QE1 p = .imm (L.map QBa):=by unfold QE1; rw [hL]
  have e2:QCD p = 0:=by unfold QCD; rw [hL]
  obtain ⟨hs1,hs2⟩:=QHS hL
  rw [e1,e2] at c
  refine gS ?_
  refine QAA c rfl (by simp [QAE,QAB,QAr]) ?_
  refine gs ?_
  refine gS ?_
  by_cases hp:QBJ s = true
  ·refine QAP ⟨tmps 43 [(1,.str s),(5,.imm (L.map QBa))],[]⟩ (QAD ?_) ?_
   ·simp +decide -dsimp -implicitDefEqProofs [go_sem]
    refine QAQ (S:=Nat) (fun i=>⟨tmps 43 [(1,.str s),(5,.imm (L.map QBa)),(18,.int .i64 s.length),(19,.int .i64 i)],[]⟩) (fun i=>s.length - i) (fun i=>i ≤ s.length) 0 (by simp) (QAC (by simp) ?_) ?_
    ·simp +decide -dsimp -implicitDefEqProofs [go_sem,QAr]
    intro i hi
    by_cases h:i < s.length
    ·have w:IntKind.i64.wrap ((i:Int) + 1) = i + 1:=w64 (by omega) (by omega)
     have hc:32 ≤ s[i].toNat ∧ s[i].toNat ≤ 126:=by
      have:=List.all_eq_true.1 hp s[i] (List.getElem_mem h)
      simpa using this
     have hc1:¬ (s[i].toNat:Int) < 32:=by omega
     have hc2:¬ (126:Int) < (s[i].toNat:Int):=by omega
     simp +decide -dsimp -implicitDefEqProofs [go_sem,h,w,hc1,hc2]
     refine QAG (i + 1) (by show i + 1 ≤ s.length; omega) (by show s.length - (i + 1) < s.length - i; omega) (QAC (by simp) ?_)
     simp +decide -dsimp -implicitDefEqProofs [go_sem,QAr]
    ·simp +decide -dsimp -implicitDefEqProofs [go_sem,h]
     refine QAC (by simp) ?_
     simp +decide -dsimp -implicitDefEqProofs [go_sem,QAr]
   rw [hp,Bool.true_and]
   refine QAD ?_
   refine gs ?_
   refine QAQ (S:=Nat) (fun i=>⟨tmps 43 [(1,.str s),(33,.imm (L.map QBa)),(34,.int .i64 L.length),(35,.int .i64 i)],[]⟩) (fun i=>L.length - i) (fun i=>i ≤ L.length ∧ (L.take i).any (fun l=>mtch l s) = false) 0 (by simp) (QAC (by simp) ?_) ?_
   ·simp +decide -dsimp -implicitDefEqProofs [go_sem,QAr]
   intro i ⟨hi,hi2⟩
   by_cases h:i < L.length
   ·have w:IntKind.i64.wrap ((i:Int) + 1) = i + 1:=w64 (by omega) (by omega)
    have cm:=QPY L[i] s (by have:=hs1 _ (List.getElem_mem h); omega) hs (QNA hp)
    have ha:QBa L[i] = [.imm (L[i].map QBe)]:=rfl
    simp +decide -dsimp -implicitDefEqProofs [go_sem,h,ha]
    refine QAA cm (by simp [QAE,QAB,QB5]) rfl ?_
    cases hm:mtch L[i] s with
    | true=>
     have e:(L.any fun l=>mtch l s) = true:=List.any_eq_true.2 ⟨_,List.getElem_mem h,hm⟩
     rw [e]
     simp +decide -dsimp -implicitDefEqProofs [go_sem]
    | false=>
     simp +decide -dsimp -implicitDefEqProofs [go_sem,w]
     refine QAG (i + 1) ⟨h,by rw [List.take_succ_eq_append_getElem h,List.any_append,hi2]; simp [hm]⟩ (by show L.length - (i + 1) < L.length - i; omega) (QAC (by simp) ?_)
     simp +decide -dsimp -implicitDefEqProofs [go_sem,QAr]
   ·have e:i = L.length:=by omega
    rw [e,List.take_length] at hi2
    rw [hi2]
    simp +decide -dsimp -implicitDefEqProofs [go_sem,h]
  ·have hp':QBJ s = false:=by simpa using hp
   rw [hp',Bool.false_and]
   refine QAD ?_
   refine gs ?_
   refine QAQ (S:=Nat) (fun i=>⟨tmps 43 [(1,.str s),(5,.imm (L.map QBa)),(18,.int .i64 s.length),(19,.int .i64 i)],[]⟩) (fun i=>s.length - i) (fun i=>i ≤ s.length ∧ QBJ (s.take i) = true) 0 ⟨by simp,rfl⟩ (QAC (by simp) ?_) ?_
   ·simp +decide -dsimp -implicitDefEqProofs [go_sem,QAr]
   intro i ⟨hi,hi2⟩
   by_cases h:i < s.length
   ·have w:IntKind.i64.wrap ((i:Int) + 1) = i + 1:=w64 (by omega) (by omega)
    have st:=QJH h
    rw [hi2,Bool.true_and] at st
    by_cases hc1:(s[i].toNat:Int) < 32
    ·simp +decide -dsimp -implicitDefEqProofs [go_sem,h,hc1]
    ·by_cases hc2:(126:Int) < (s[i].toNat:Int)
     ·simp +decide -dsimp -implicitDefEqProofs [go_sem,h,hc1,hc2]
     ·simp +decide -dsimp -implicitDefEqProofs [go_sem,h,w,hc1,hc2]
      refine QAG (i + 1) ⟨h,by rw [st,decide_eq_true (by omega),decide_eq_true (by omega)]; rfl⟩ (by show s.length - (i + 1) < s.length - i; omega) (QAC (by simp) ?_)
      simp +decide -dsimp -implicitDefEqProofs [go_sem,QAr]
   ·have e:i = s.length:=by omega
    rw [e,List.take_length,hp'] at hi2
    cases hi2
end Go.Ab
namespace Go.Ab
open Go Go.Proofs
def c43:AFn:=⟨(sq [(ox 1 (.box 27 (.t 0))),(ox 2 (.mov (.v .nilf)))] (sq [(ox 3 (.mkfn (.func 83) [] [(.t 1)])),(mv 2 3)] .ret)),4,[(.tmp 2)]⟩
theorem c43_ok:QAg Tryz.prog [] 43 = some c43:=by kernel_rfl
def c48:AFn:=⟨(sq [(ox 3 (.box 39 (.t 1)))] (.seq (sq [(mv 4 0),(ox 5 (.nilchk (.t 4))),(ox 6 (fa 3 5)),(ox 7 (ld 6))] (cd 7 .ret .skip)) (.seq (.draw [(mv 8 0),(ox 9 (.nilchk (.t 8))),(ox 10 (fa 1 9)),(ox 11 (ld 10)),(ox 12 (fa 2 3)),(ox 13 (fa 0 12)),(ox 14 (ld 13)),(ox 15 (fa 1 3)),(ox 16 (ld 15)),(ox 17 (b1 .eql 16 1)),(on (.mapset .str (.t 11) (.t 14) (.t 17)))] [0,1,3,7,0,16,48,0,128,384,1023]) (.seq (.draw [(mv 18 0),(mv 19 0),(ox 20 (.nilchk (.t 19))),(ox 21 (fa 2 20)),(ox 22 (ld 21)),(ox 23 (.load (some 14) (.t 3))),(ox 24 (.bslice 39 14 false [(.t 23)])),(ox 25 (.append 39 14 224 (.t 22) (.t 24))),(ox 26 (.nilchk (.t 18))),(ox 27 (fa 2 26)),(on (.store none (.t 27) (.t 25)))] [0,0,2,6,14,0,32,126,255,511,1023]) (sq [(mv 28 0),(ox 29 (.nilchk (.t 28))),(ox 30 (fa 2 29)),(ox 31 (ld 30)),(ox 32 (.len .sl (.t 31))),(ox 33 (b1 .gtr 32 64))] (cd 33 (.ops [(mv 34 0),(mv 35 0),(ox 36 (.nilchk (.t 34))),(ox 37 (fa 2 36)),(on (.store none (.t 37) (.v .nils))),(ox 38 (.nilchk (.t 35))),(ox 39 (fa 3 38)),(on (.store none (.t 39) (.v (.bool true))))]) .skip)))))),40,[]⟩
theorem c48_ok:QAg Tryz.prog [] 48 = some c48:=by kernel_rfl
def c87:AFn:=⟨(sq [(ox 3 (mb false))] (sq [(ox 4 (fa 1 1)),(ox 5 (ld 4)),(mv 6 0),(ox 7 (fc 84 [(.t 5),(.t 6)])),(mv 3 7)] .ret)),8,[(.tmp 3)]⟩
theorem c87_ok:QAg Tryz.prog [] 87 = some c87:=by kernel_rfl
end Go.Ab
namespace Go.Ab
open Go Go.Proofs
structure Flt where
 sub:List UInt8
 tag:List UInt8
 deriving DecidableEq
def QBM (f:Flt):List AV:=[.str f.sub,.str f.tag]
def QA5 (f:Flt):AV:=.fn (.func 83) [] [.iptr (QBM f)]
def QI0 (l:List (List UInt8 × List UInt8)) (k:List UInt8):List UInt8:=match l.find? (fun p=>decide (p.1 = k)) with
 | some p=>p.2
 | none=>[]
def QEc:List UInt8:=[83,85,66,83,89,83,84,69,77]
def QA4 (f:Flt) (r:Rcd):Bool:=QDR f.sub (QI0 r.props QEc) && (decide (f.tag = []) || r.tags.any (QDR f.tag))
theorem QTy (f:Flt):ACalls Tryz.prog 43 [.agg (QBM f)] [] (QA5 f) []:=by
 refine QER c43_ok ?_
 unfold c43 QBM
 refine gs ?_
 refine QAj (tmps 4 [(2,QA5 f)]) [] (Wk.cut1 2 (.fn (.func 83) [] [.ptr 0 0]) (QA5 f) [] (by simp) rfl ?_ ?_ (QEs (by simp) fun o x y hx hy=>by simp at hy)) ?_
 ·exact .fn _ _ _ _ _ .nil (.cons _ _ _ _ (.fbx 0 0 27 _ _ (by simp) (by simp) rfl (QCQ rfl)) .nil)
 ·simp +decide -dsimp -implicitDefEqProofs [go_sem]
 ·simp +decide -dsimp -implicitDefEqProofs [go_sem,QBG]
theorem QTz (f:Flt) (s:List UInt8) (hl:f.tag.length < 9223372036854775807) (hs:s.length ≤ 1000000):ACalls Tryz.prog 87 [.str s,.iptr (QBM f)] [] (.bool (QDR f.tag s)) []:=by
 have c:=QPZ f.tag s hl hs
 refine QAH c87_ok rfl ?_
 unfold c87 QBM
 refine gs ?_
 refine QAA c rfl rfl ?_
 simp +decide -dsimp -implicitDefEqProofs [go_sem]
theorem QGP {α:Type} {q:α → Bool} {l:List α} {i:Nat} (h:i < l.length) (hn:∀ x ∈ l.take i,q x = false) (hq:q l[i] = true):l.find? q = some l[i]:=by
 have e:l = l.take i ++ l[i] :: l.drop (i + 1):=by rw [← List.drop_eq_getElem_cons h,List.take_append_drop]
 conv=>lhs; rw [e]
 rw [List.find?_append,List.find?_eq_none.2 (fun x hx=>by rw [hn x hx]; decide),List.find?_cons,hq]; rfl
theorem QRS (r:Rcd) (k:List UInt8) (hl:r.props.length < 1000000):ACalls Tryz.prog 85 [.agg (QAR r),.str k] [] (.str (QI0 r.props k)) []:=by
 have hcl:=fun k=>QAW k r.props
 refine QAH cqq rfl ?_
 unfold QAR
 refine gs ?_
 refine QAQ (S:=Nat) (fun i=>⟨tmps 21 [(1,.str k),(8,.imm (r.props.map QBK)),(9,.int .i64 r.props.length),(10,.int .i64 i)],[]⟩) (fun i=>r.props.length - i) (fun i=>i ≤ r.props.length ∧ ∀ x ∈ r.props.take i,decide (x.1 = k) = false) 0 (by simp) (QAC (by simp) ?_) ?_
 ·simp +decide -dsimp -implicitDefEqProofs [go_sem,hcl]
 intro i ⟨hi,hi2⟩
 by_cases h:i < r.props.length
 ·have w:IntKind.i64.wrap ((i:Int) + 1) = i + 1:=w64 (by omega) (by omega)
  have ha:QBK r.props[i] = [.str r.props[i].1,.str r.props[i].2]:=rfl
  by_cases hk:r.props[i].1 = k
  ·have e:QI0 r.props k = r.props[i].2:=by unfold QI0; rw [QGP h hi2 (by simp [hk])]
   rw [e]
   simp +decide -dsimp -implicitDefEqProofs [go_sem,h,ha,hk]
  ·simp +decide -dsimp -implicitDefEqProofs [go_sem,h,ha,hk,w]
   refine QAG (i + 1) ⟨h,fun x hx=>?_⟩ (by show r.props.length - (i + 1) < r.props.length - i; omega) (QAC (by simp) ?_)
   ·rw [List.take_succ_eq_append_getElem h] at hx
    rcases List.mem_append.1 hx with hx | hx
    ·exact hi2 x hx
    ·rw [List.mem_singleton.1 hx]; simp [hk]
   ·simp +decide -dsimp -implicitDefEqProofs [go_sem,hcl]
 ·have e:i = r.props.length:=by omega
  rw [e,List.take_length] at hi2
  have e2:QI0 r.props k = []:=by unfold QI0; rw [List.find?_eq_none.2 (fun x hx=>by rw [hi2 x hx]; decide)]
  rw [e2]
  simp +decide -dsimp -implicitDefEqProofs [go_sem,h]
structure Ask (r:Rcd):Prop where
 props:r.props.length < 1000000
 vals:∀ p ∈ r.props,p.2.length ≤ 1000000
 tags:r.tags.length < 1000000
 tag:∀ s ∈ r.tags,s.length ≤ 1000000
theorem QNB {l:List (List UInt8 × List UInt8)} {k:List UInt8} {B:Nat} (h:∀ p ∈ l,p.2.length ≤ B):(QI0 l k).length ≤ B:=by
 unfold QI0
 split
 ·rename_i p hp; exact h p (List.mem_of_find?_eq_some hp)
 ·exact Nat.zero_le _
theorem QNC (f:Flt) (r:Rcd) (h1:f.sub.length < 9223372036854775807) (h2:f.tag.length < 9223372036854775807) (hr:Ask r):ACalls Tryz.prog 83 [.agg (QAR r),.iptr (QBM f)] [] (.bool (QA4 f r)) []:=by
 have cg:=QRS r QEc hr.props
 have cm:=QPZ f.sub (QI0 r.props QEc) h1 (QNB hr.vals)
 have cc:=QEB r.tags 87 [.iptr (QBM f)] [] (QDR f.tag) (by have:=hr.tags; omega) (by simp [QAB,QAE,QBM]) (by simp [QI3,cvH]) (fun x hx=>QTz f x h2 (hr.tag x hx))
 have hrc:=fun k=>QBr k r
 unfold QA4
 refine QAH cqq rfl ?_
 unfold QBM at cc ⊢
 unfold QAR at cg hrc ⊢
 have e0:QEc = [83,85,66,83,89,83,84,69,77]:=rfl
 rw [e0] at cg cm ⊢
 generalize QI0 r.props [83,85,66,83,89,83,84,69,77] = v at cg cm ⊢
 have hs2:=fun k=>QAF k r.tags
 refine gs ?_
 refine QAK cg (by simpa [QAB,QAE] using hrc 0) rfl ?_
 refine gs ?_
 refine QAK cm rfl rfl ?_
 cases QDR f.sub v with
 | false=>
  simp +decide -dsimp -implicitDefEqProofs [go_sem]
 | true=>
  by_cases ht:f.tag = []
  ·rw [decide_eq_true ht]
   simp +decide -dsimp -implicitDefEqProofs [go_sem,ht]
  ·rw [decide_eq_false ht]
   simp +decide -dsimp -implicitDefEqProofs [go_sem,ht]
   refine QAA cc (by simp [QAB,QAE,hs2]) rfl ?_
   simp +decide -dsimp -implicitDefEqProofs [go_sem,ht]
end Go.Ab
namespace Go.Ab
open Go Go.Proofs
set_option maxRecDepth 20000
theorem QRT (l:List (List UInt8 × List UInt8)) (hl:l.length ≤ 100000):ACalls Tryz.prog 88 [.imm (l.map QBK)] [] (.imm (l.map QBK)) []:=by
 have hcl:=fun k=>QAW k l
 cases l with
 | nil=>
  refine ACalls.emp rfl fun a cp=>?_
  refine QAH c88_ok rfl ?_
  unfold c88
  cases a with
  | none=>simp +decide -dsimp -implicitDefEqProofs [go_sem]
  | some a=>simp +decide -dsimp -implicitDefEqProofs [go_sem]
 | cons x l=>
  simp only [List.length_cons] at hl
  refine QAH c88_ok rfl ?_
  unfold c88
  simp +decide -dsimp -implicitDefEqProofs [go_sem,maxLen,QBK]
  exact ⟨fun _ _ _ _ h=>by subst h; rfl,by omega,by omega⟩
theorem QHw (l:List (List UInt8)) (hl:l.length ≤ 100000):ACalls Tryz.prog 89 [.imm (l.map QAT)] [] (.imm (l.map QAT)) []:=by
 have hcl:=fun k=>QAF k l
 cases l with
 | nil=>
  refine ACalls.emp rfl fun a cp=>?_
  refine QAH c89_ok rfl ?_
  unfold c89
  cases a with
  | none=>simp +decide -dsimp -implicitDefEqProofs [go_sem]
  | some a=>simp +decide -dsimp -implicitDefEqProofs [go_sem]
 | cons x l=>
  simp only [List.length_cons] at hl
  refine QAH c89_ok rfl ?_
  unfold c89
  simp +decide -dsimp -implicitDefEqProofs [go_sem,maxLen,QAT]
  omega
structure Cpy (r:Rcd):Prop where
 a:r.props.length ≤ 100000
 b:r.tags.length ≤ 100000
 c:r.links.length ≤ 100000
 d:r.run.length ≤ 100000
 e:r.load.length ≤ 100000
theorem QEd (r:Rcd) (h:Cpy r):ACalls Tryz.prog 45 [.agg (QAR r)] [] (.agg (QAR r)) []:=by
 have c1:=QRT r.props h.a
 have c2:=QHw r.tags h.b
 have c3:=QHw r.links h.c
 have c4:=QHw r.run h.d
 have c5:=QHw r.load h.e
 have k1:=fun k=>QAW k r.props
 have k2:=fun k=>QAF k r.tags
 have k3:=fun k=>QAF k r.links
 have k4:=fun k=>QAF k r.run
 have k5:=fun k=>QAF k r.load
 refine QAH cqq rfl ?_
 unfold QAR
 generalize r.props.map QBK = A at *
 generalize r.tags.map QAT = B at *
 generalize r.links.map QAT = C at *
 generalize r.run.map QAT = D at *
 generalize r.load.map QAT = E at *
 refine gs ?_
 refine QAK c1 (by simp [QAB,QAE,k1]) (by simp [QAE,k1]) ?_
 refine gs ?_
 refine QAK c2 (by simp [QAB,QAE,k2]) (by simp [QAE,k2]) ?_
 refine gs ?_
 refine QAK c3 (by simp [QAB,QAE,k3]) (by simp [QAE,k3]) ?_
 refine gs ?_
 refine QAK c4 (by simp [QAB,QAE,k4]) (by simp [QAE,k4]) ?_
 refine gs ?_
 refine QAK c5 (by simp [QAB,QAE,k5]) (by simp [QAE,k5]) ?_
 simp +decide -dsimp -implicitDefEqProofs [go_sem,k1,k2,k3,k4,k5]
theorem QHx:∀ l:List (List UInt8),l ≠ [] → 47 :: Lib.join l [47] = QBm l
 | [],h=>absurd rfl h
 | [x],_=>by simp [Lib.join,QBm,List.intercalate]
 | x :: y :: r,_=>by
  have ih:=QHx (y :: r) (by simp)
  show _ = 47 :: (x ++ QBm (y :: r))
  rw [← ih]
  simp [Lib.join,List.intercalate]
theorem QHT (l:List (List UInt8)) {B:Nat} (h:∀ x ∈ l,x.length ≤ B):(QBm l).length ≤ l.length * (B + 1):=by
 induction l with
 | nil=>simp [QBm]
 | cons x l ih=>
  have h1:=h x (by simp)
  have h2:=ih fun y hy=>h y (by simp [hy])
  simp only [QBm,List.length_cons,List.length_append,Nat.add_mul,Nat.one_mul]
  omega
theorem QT0 (l:List (List UInt8)) (hl:l ≠ []) (hn:l.length ≤ 1000000) (hB:∀ x ∈ l,x.length ≤ 1000000):ACalls Tryz.prog 133 [.imm (l.map QAT),.str [47]] [] (.str (Lib.join l [47])) []:=by
 refine ⟨by kernel_rfl,fun c vs hH hr hv=>?_⟩
 simp only [QA3,Val,List.length_map] at hv
 obtain ⟨v,vs',rfl,hv,v2,vs2,rfl,rfl,rfl⟩:=hv
 rcases hv with ⟨b,off,cap,sz,rfl,hF,hc,hR⟩ | ⟨h0,_⟩
 ·have hsz:sz = 1:=by
   cases l with
   | nil=>exact absurd rfl hl
   | cons x l=>simp only [List.map_cons,QAh] at hR; rw [← hR.1]; rfl
  subst hsz
  have e1:(l.map fun s:List UInt8=>(⟨s.toArray⟩:ByteArray)).map (·.data.toList) = l:=by
   rw [List.map_map]
   exact (List.map_congr_left fun x _=>rfl).trans (List.map_id l)
  have hj:(Lib.join l [47]).length ≤ 140737488355328:=by
   have h1:=congrArg List.length (QHx l hl)
   have h2:=QHT l hB
   have h3:l.length * (1000000 + 1) ≤ 1000000 * (1000000 + 1):=Nat.mul_le_mul_right _ hn
   simp only [List.length_cons] at h1
   omega
  have h:=Tryz.strings_Join b off cap (l.map fun s:List UInt8=>(⟨s.toArray⟩:ByteArray)) ⟨#[47]⟩ c.w (fun j x hx=>by
   rw [List.getElem?_map] at hx
   cases hy:l[j]? with
   | none=>rw [hy] at hx; cases hx
   | some s=>
    rw [hy] at hx
    cases hx
    have:=(QA9.1 hR j (QAT s) (by rw [List.getElem?_map,hy]; rfl)).2
    simp only [QAT,QBN,Val,and_true,Nat.mul_one] at this
    obtain ⟨v,h1,_,rfl⟩:=this
    exact h1) (hr.lt b hF) (by rw [List.length_map]; omega) (by rw [List.length_map]; exact hc) (by rw [e1]; exact hj)
  rw [List.length_map,e1] at h
  refine Calls.mono h fun e w' hq=>?_
  obtain ⟨rfl,h2⟩:=hq
  obtain ⟨g1,g2⟩:=QEf hr (F':=c.F) (w':=w') (fun _ h=>h) (fun _ h=>.inl h) (fun b hb=>h2.block b hb) h2.size h2.os h2.tape h2.output
  exact ⟨_,⟨c.F,c.μ,c.H,w'⟩,rfl,rfl,hH,g1,g2,by simp only [Val]⟩
 ·exact absurd (List.map_eq_nil_iff.1 h0) hl
theorem QT1 (l:List (List UInt8)) (hl:l ≠ []) (hn:l.length ≤ 1000000) (hv:∀ x ∈ l,QAe x = true):ACalls Tryz.prog 92 [.imm (l.map QAT)] [] (.tup [.str (QBm l),.int .i64 0]) []:=by
 have hs:=fun k=>QAF k l
 have c1:=QT0 l hl hn (fun x hx=>Nat.le_trans (QCv (hv x hx)) (by decide))
 have hall:l.all QAe = true:=List.all_eq_true.2 hv
 have c2:=QU4 l 41 [] [] QAe (by omega) (fun _ _=>rfl) (by simp [QI3,cvH]) (fun _=>by simp [cvH]) (fun cs h=>⟨⟨rfl,QFW h⟩,trivial⟩) (fun x _=>(QDb x).pure _ rfl rfl)
 rw [hall] at c2
 have hpos:¬ (l.length:Int) = 0:=by have:=List.length_pos_iff.2 hl; omega
 have hjl:=congrArg List.length (QHx l hl)
 have h2:=QHT l fun x hx=>QCv (hv x hx)
 have h3:l.length * (32 + 1) ≤ 1000000 * (32 + 1):=Nat.mul_le_mul_right _ hn
 simp only [List.length_cons] at hjl
 rw [← QHx l hl]
 refine QAH cqq rfl ?_
 simp +decide -dsimp -implicitDefEqProofs [go_sem,hl]
 refine QDO c2 ?_
 simp +decide -dsimp -implicitDefEqProofs [go_sem,hl]
 refine QAA c1 (by simp [QAB,QAE,hs]) rfl ?_
 refine gs ?_
 omega
def QCR (p:List UInt8):List UInt8:=QBm (QAZ p).dropLast
theorem QT2 (p:List UInt8) (hp:QAf p = true):ACalls Tryz.prog 47 [.str p] [] (.tup [.str (if (QAZ p).length < 2 then [] else QCR p),.bool (decide (2 ≤ (QAZ p).length))]) []:=by
 obtain ⟨h1,h2⟩:=QBW hp
 have hl:=QBV hp
 have c1:=QFX p (by omega)
 rw [h1] at c1
 simp only at c1
 have hv:∀ x ∈ QAZ p,QAe x = true:=by
  unfold QCm at h1
  split at h1
  ·cases h1
  ·split at h1
   ·rename_i hq
    rw [← Option.some.inj h1]
    exact List.all_eq_true.1 hq.2
   ·cases h1
 generalize hC:QAZ p = C at *
 have hs:=fun k=>QAF k C
 unfold QCR
 rw [hC]
 refine QAH cqq rfl ?_
 refine gs ?_
 refine QAA c1 rfl (by simp [QAE,QAB,hs]) ?_
 by_cases h:C.length < 2
 ·have h':(C.length:Int) < 2:=by omega
  have h3:¬ 2 ≤ C.length:=by omega
  simp +decide -dsimp -implicitDefEqProofs [go_sem,h,h',h3]
 ·have h':¬ (C.length:Int) < 2:=by omega
  have h3:2 ≤ C.length:=by omega
  have hd:C.dropLast ≠ []:=fun e=>by have:=congrArg List.length e; rw [List.length_dropLast] at this; simp at this; omega
  have c2:=QT1 C.dropLast hd (by rw [List.length_dropLast]; omega) (fun x hx=>hv x (List.dropLast_subset _ hx))
  have hs2:=fun k=>QAF k C.dropLast
  have w1:IntKind.i64.wrap ((C.length:Int) - 1) = C.length - 1:=w64 (by omega) (by omega)
  have e1:((C.length:Int) - 1).toNat = C.length - 1:=by omega
  have e2:(C.map QAT).take (C.length - 1) = C.dropLast.map QAT:=by rw [List.map_dropLast,List.dropLast_eq_take,List.length_map]
  have hr1:∀ r ∈ C.map QAT,r.length = 1:=fun r hr=>by obtain ⟨x,_,rfl⟩:=List.mem_map.1 hr; rfl
  simp +decide -dsimp -implicitDefEqProofs [go_sem,h',w1,e1,e2]
  refine ⟨by omega,?_⟩
  rw [← List.map_dropLast]
  refine QAA c2 (by simp only [QAB,QAE,hs2,Bool.and_true]) rfl ?_
  simp +decide -dsimp -implicitDefEqProofs [go_sem,h,h3]
end Go.Ab
