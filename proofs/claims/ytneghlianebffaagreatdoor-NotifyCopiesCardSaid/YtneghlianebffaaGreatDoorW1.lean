/- Rows of texts. -/
import Derived.Test.YtneghlianebffaaGreatDoorOX
import Derived.Test.YtneghlianebffaaGreatDoorC1
import Derived.Below
import Derived.Lib.SplitLaws
import Derived.Lib.ItoaNum
import Derived.Sort.Walk0
import Derived.Sort.LotA
set_option maxRecDepth 20000
namespace Go.Ab
open Go Go.Proofs
def QAT (s:List UInt8):List AV:=[.str s]
@[go_sem] theorem QAF (k:Nat) (s:List (List UInt8)):QAb k (s.map QAT) = true:=QAn fun x _=>by simp [QAT,QAB,QAE]
@[go_sem] theorem QCU (is:List Nat) (s:List (List UInt8)):QBL is (s.map QAT) = s.map QAT:=by
 induction s with
 | nil=>rfl
 | cons x r ih=>simp [QBL,ih,QAT,QBt,ren]
@[go_sem] theorem QAt (s:List UInt8):(QAT s).length = 1:=rfl
@[go_sem ↓] theorem QZX (s:List UInt8) (K:AV → Prop):ldK none (QAT s) K = K (.str s):=rfl
@[go_sem] theorem QZY (s:UInt8):(QF9 s).length = 1:=rfl
end Go.Ab
namespace Go.Ab
open Go Go.Proofs

theorem QU2 {f:Nat} {xs:List AV} {av:AV} (hb:QEH Tryz.prog f = true) (h:∀ (c:Cx) (vs:List Value),QA3 c xs vs → Glob.ok c.w → ∃ v,(Calls Tryz.prog f vs.toArray c.w fun e w'=>e = .returned v ∧ w' = c.w) ∧ ∀ c',Val c' av v):ACalls Tryz.prog f xs [] av []:=
 ACalls.of_below hb fun c vs hv hg=>by
  obtain ⟨v,h1,h2⟩:=h c vs hv hg
  refine h1.mono fun e w' hq=>?_
  obtain ⟨rfl,rfl⟩:=hq
  exact ⟨v,rfl,Go.RowKit.Below.refl _ _,h2⟩

end Go.Ab
namespace Go.Ab
open Go Go.Proofs
def QFg (v n:Int):Int:=if n ≤ 1 then 0 else if v.tmod n < 0 then v.tmod n + n else v.tmod n

theorem QQC (v n:Int) (h:1 < n):-n < v.tmod n ∧ v.tmod n < n:=by
 rw [tmod_eq_if]
 have h1:=Int.emod_nonneg v (b:=n) (by omega)
 have h2:=Int.emod_lt_of_pos v (b:=n) (by omega)
 have h3:=Int.emod_nonneg (-v) (b:=n) (by omega)
 have h4:=Int.emod_lt_of_pos (-v) (b:=n) (by omega)
 split <;> omega

theorem QTS (v n:Int) (hn:n ≤ 9223372036854775807):ACalls Tryz.prog 15 [.int .i64 v,.int .i64 n] [] (.int .i64 (QFg v n)) []:=by
 refine QAH cqq rfl ?_
 simp only [QFg]
 by_cases h1:n ≤ 1
 ·simp -dsimp -implicitDefEqProofs [go_sem,h1]
 have hb:=QQC v n (by omega)
 by_cases h2:v.tmod n < 0
 ·simp -dsimp -implicitDefEqProofs [go_sem,h1,h2,w64 (n:=v.tmod n + n) (by omega) (by omega)]; omega
 ·simp -dsimp -implicitDefEqProofs [go_sem,h1,h2]; omega

def QAO (l:List Int) (at_:Nat):AObj:=.box 48 [.imm (l.map fun v=>[.int .i64 v]),.int .i64 at_]
def QAx (l:List Int) (at_:Nat):Int:=if h:at_ < l.length then l[at_] else ((at_:Int) * 7).tmod 11

theorem QDW (l:List Int) (k:Nat) (n:Int) (hk:k < 1000000000) (hn:n ≤ 9223372036854775807):
  ACalls Tryz.prog 20 [.ptr 0 0,.int .i64 n] [QAO l k] (.int .i64 (QFg (QAx l k) n)) [QAO l (k + 1)]:=by
 refine QAH cqq rfl ?_
 unfold QAO QAx
 have w1:IntKind.i64.wrap (↑k * 7) = ↑k * 7:=w64 (by omega) (by omega)
 have w2:IntKind.i64.wrap (↑k + 1) = ↑k + 1:=w64 (by omega) (by omega)
 by_cases h:k < l.length
 ·simp +decide -dsimp -implicitDefEqProofs [go_sem,h,w1,w2]
  refine QAA (QTS _ _ hn) (by simp [QAB,QAE]) rfl ?_
  simp +decide -dsimp -implicitDefEqProofs [go_sem,QAn]
 ·simp +decide -dsimp -implicitDefEqProofs [go_sem,h,w1,w2]
  refine QAA (QTS _ _ hn) (by simp [QAB,QAE]) rfl ?_
  simp +decide -dsimp -implicitDefEqProofs [go_sem,QAn]
end Go.Ab
namespace Go.Ab
open Go Go.Proofs
def bB (bs:List Bool):List AV:=bs.map .bool
theorem QAq (bs:List Bool):(bB bs).length = bs.length:=by simp [bB]
theorem QSH:zB = bB (List.replicate 256 false):=by rw [zB,bB,List.map_replicate]
theorem QEh (bs:List Bool) (n:Nat) (h:bs.length ≤ n):(bB bs).take n = bB bs:=by rw [List.take_of_length_le (by rw [QAq]; exact h)]
theorem QU3 (bs:List Bool) (n:Nat) (h:n < bs.length):(bB bs).drop n = .bool bs[n] :: (bB bs).drop (n + 1):=by
 rw [List.drop_eq_getElem_cons (by rw [QAq]; exact h)]; simp [bB]
theorem QBD (k:Nat) (bs:List Bool):QAB k (bB bs) = true:=by
 induction bs with
 | nil=>rfl
 | cons b r ih=>simp only [bB,List.map_cons,QAB,QAE,Bool.true_and]; exact ih
theorem QAa (H:List AObj) (m:Nat) (bs:List Bool):cvT H m (bB bs) (bB bs):=by
 induction bs with
 | nil=>trivial
 | cons b r ih=>exact ⟨.inr (.inl ⟨rfl,rfl⟩),ih⟩
theorem QTT (bs:List Bool) (n:Nat) (b:Bool) (h:n < bs.length):(bB bs).take n ++ [.bool b] ++ (bB bs).drop (n + 1) = bB (bs.set n b):=by
 simp only [bB,← List.map_take,← List.map_drop]
 rw [List.set_eq_take_append_cons_drop,if_pos h]; simp
theorem QGX {bs:List Bool} {n:Nat} {K:AV → Prop} (h:n < bs.length):ldK none ((bB bs).drop n) K = K (.bool bs[n]):=by rw [QU3 bs n h]; rfl
def QCa (bs:List Bool) (s:List UInt8):List Bool:=s.foldl (fun b c=>b.set c.toNat true) bs
theorem QBO (s:List UInt8):∀ bs:List Bool,(QCa bs s).length = bs.length:=by
 induction s with
 | nil=>intro bs; rfl
 | cons c r ih=>intro bs; simp only [QCa,List.foldl_cons]; rw [← QCa,ih]; simp
theorem QOQ {bs:List Bool} {s:List UInt8} {i:Nat} (h:i < s.length):QCa bs (s.take (i + 1)) = (QCa bs (s.take i)).set s[i].toNat true:=by
 rw [List.take_succ_eq_append_getElem h]; simp only [QCa,List.foldl_append,List.foldl_cons,List.foldl_nil]
theorem QCq (s:List UInt8):∀ (bs:List Bool) (c:UInt8),bs.length = 256 → (QCa bs s)[c.toNat]? = some (bs[c.toNat]?.getD false || decide (c ∈ s)):=by
 induction s with
 | nil=>intro bs c h; have:=UInt8.toNat_lt c; simp [QCa,List.getElem?_eq_getElem (show c.toNat < bs.length by omega)]
 | cons d r ih=>
  intro bs c h
  simp only [QCa,List.foldl_cons]
  rw [← QCa,ih _ _ (by simpa using h)]
  have hl:=UInt8.toNat_lt c
  have hl:=UInt8.toNat_lt d
  by_cases hcd:d = c
  ·subst hcd; simp [show d.toNat < bs.length by omega]
  ·have:d.toNat ≠ c.toNat:=fun e=>hcd (UInt8.toNat_inj.1 e)
   have hcd':¬ c = d:=fun e=>hcd e.symm
   simp [List.getElem?_set_ne this,hcd']

theorem QFo (bs:List Bool) (s:List UInt8) (h256:bs.length = 256) (hl:s.length < 1000000000):
  ACalls Tryz.prog 80 [.agg (bB bs),.str s] [] (.agg (bB (QCa bs s))) []:=by
 refine QAH c80_ok rfl ?_
 unfold c80
 refine gs ?_
 refine QAQ (S:=Nat) (fun i=>⟨tmps 17 [(1,.str s),(2,.ptr 0 0),(4,.ptr 1 0),(7,.int .i64 s.length),(8,.int .i64 i)],[.box 123 (bB (QCa bs (s.take i))),.box 123 zB]⟩) (fun i=>s.length - i) (fun i=>i ≤ s.length) 0 (by simp) (QAC (by simp) ?_) ?_
 ·simp +decide -dsimp -implicitDefEqProofs [go_sem,QCa,QAa,QSH]
 intro i hi
 have hp:(QCa bs (s.take i)).length = 256:=by rw [QBO,h256]
 by_cases h:i < s.length
 ·have w:IntKind.i64.wrap ((i:Int) + 1) = i + 1:=w64 (by omega) (by omega)
  have hc:=UInt8.toNat_lt s[i]
  have e:=QTT (QCa bs (s.take i)) s[i].toNat true (by omega)
  rw [← QOQ h] at e
  simp only [List.append_assoc,List.cons_append,List.nil_append] at e
  simp +decide -dsimp -implicitDefEqProofs [go_sem,h,w,hp,QAq,hc,e]
  refine ⟨by omega,?_⟩
  refine QAG (i + 1) (by omega) (by omega) (QAC (by simp) ?_)
  simp +decide -dsimp -implicitDefEqProofs [go_sem,QAa,QSH]
 ·have e:i = s.length:=by omega
  subst e
  have t1:∀ bs:List Bool,bs.length = 256 → (bB bs).take 256 = bB bs:=fun bs h=>QEh bs 256 (by omega)
  have t2:∀ bs:List Bool,bs.length = 256 → (bB bs).drop 256 = []:=fun bs h=>List.drop_eq_nil_of_le (by rw [QAq]; omega)
  rw [List.take_length] at hp
  simp +decide -dsimp -implicitDefEqProofs [go_sem,hp,QAq,t1,t2,QSH,QAa]
theorem QTU (s:List UInt8):ACalls Tryz.prog 78 [.str s] [] (.bool (decide (s = [46] ∨ s = [46,46]))) []:=by
 refine QAH cqq rfl ?_
 by_cases h1:s = [46]
 ·simp +decide -dsimp -implicitDefEqProofs [go_sem,h1]
 ·by_cases h2:s = [46,46]
  ·simp +decide -dsimp -implicitDefEqProofs [go_sem,h2]
  ·simp +decide -dsimp -implicitDefEqProofs [go_sem,h1,h2]

theorem QSI (bs:List Bool) (s:List UInt8) (h256:bs.length = 256) (hl:s.length < 1000000000):
  ACalls Tryz.prog 81 [.agg (bB bs),.str s] [] (.bool (s.all fun c=>bs[c.toNat]?.getD false)) []:=by
 refine QAH cqq rfl ?_
 refine gs ?_
 refine QAQ (S:=Nat) (fun i=>⟨tmps 18 [(1,.str s),(2,.ptr 0 0),(7,.int .i64 s.length),(8,.int .i64 i)],[.box 123 (bB bs)]⟩) (fun i=>s.length - i) (fun i=>i ≤ s.length ∧ ∀ x ∈ s.take i,bs[x.toNat]?.getD false = true) 0 (by simp) (QAC (by simp) ?_) ?_
 ·simp +decide -dsimp -implicitDefEqProofs [go_sem,QAa]
 intro i hi
 by_cases h:i < s.length
 ·have w:IntKind.i64.wrap ((i:Int) + 1) = i + 1:=w64 (by omega) (by omega)
  have hc:=UInt8.toNat_lt s[i]
  have hc2:s[i].toNat < bs.length:=by omega
  by_cases hb:bs[s[i].toNat] = true
  ·simp +decide -dsimp -implicitDefEqProofs [go_sem,h,w,hc,hc2,QGX,hb]
   refine QAG (i + 1) ⟨by omega,fun x hx=>?_⟩ (by omega) (QAC (by simp) ?_)
   ·rw [List.take_succ_eq_append_getElem h] at hx
    rcases List.mem_append.1 hx with hx | hx
    ·exact hi.2 x hx
    ·simp at hx; subst hx; simp [hc2,hb]
   simp +decide -dsimp -implicitDefEqProofs [go_sem,QAa]
  ·simp +decide -dsimp -implicitDefEqProofs [go_sem,h,w,hc,hc2,QGX,hb]
   exact ⟨s[i],List.getElem_mem h,by simp [hc2,hb]⟩
 ·have e:i = s.length:=by omega
  have h2:=hi.2
  rw [e,List.take_length] at h2
  simp +decide -dsimp -implicitDefEqProofs [go_sem,h]
  intro x hx
  simpa using h2 x hx
theorem QQD (s:List UInt8) (hs:s.length ≤ 140737488355328) (ha:∀ b ∈ s,b.toNat < 128):ACalls Tryz.prog 115 [.str s] [] (.str (Lib.toLowerA s)) []:=by
 refine .of_below (by kernel_rfl) fun c vs hv _=>?_
 simp only [QA3,Val] at hv
 obtain ⟨v,vs',rfl,rfl,rfl⟩:=hv
 refine (Tryz.strings_ToLower_ascii ⟨s.toArray⟩ c.w (by simpa [ByteArray.size] using hs) (fun j b hj=>ha b (List.mem_of_getElem? (by simpa using hj)))).mono fun e w' h=>?_
 exact ⟨_,h.1,h.2,fun c'=>by simp only [Val]⟩

theorem QMQ (s:List UInt8) (b:UInt8):ACalls Tryz.prog 156 [.str s,.int .u8 b.toNat] [] (.int .i64 (Lib.indexByte s b)) []:=by
 refine .of_below (by kernel_rfl) fun c vs hv _=>?_
 simp only [QA3,Val] at hv
 obtain ⟨v,vs',rfl,rfl,v2,vs2,rfl,rfl,rfl⟩:=hv
 refine (Tryz.strings_IndexByte ⟨s.toArray⟩ b.toNat c.w).mono fun e w' h=>?_
 obtain ⟨h1,rfl⟩:=h
 refine ⟨_,h1,Go.RowKit.Below.refl _ _,fun c'=>?_⟩
 simp [Val]

theorem QGY (s:List UInt8) (b:UInt8):-1 ≤ Lib.indexByte s b ∧ (Lib.indexByte s b < 0 ↔ b ∉ s):=by
 induction s with
 | nil=>simp [Lib.indexByte]
 | cons x r ih=>
  simp only [Lib.indexByte,beq_iff_eq,List.mem_cons,not_or]
  by_cases h:x = b
  ·simp [h]
  ·have h':¬ b = x:=fun e=>h e.symm
   by_cases h2:Lib.indexByte r b = -1
   ·simp only [h,if_false,h2,if_true]; rw [h2] at ih; simp_all
   ·simp only [h,if_false,h2]
    refine ⟨by omega,?_⟩
    rw [← ih.2]; constructor
    ·intro h3; omega
    ·intro h3; omega

theorem QSJ (s t:List UInt8) (hl:s.length < 1000000000):ACalls Tryz.prog 110 [.str s,.str t] [] (.bool (s.all fun c=>decide (c ∈ t))) []:=by
 refine QAH cqq rfl ?_
 refine gs ?_
 refine QAQ (S:=Nat) (fun i=>⟨tmps 18 [(0,.str s),(1,.str t),(5,.int .i64 i)],[]⟩) (fun i=>s.length - i) (fun i=>i ≤ s.length ∧ ∀ x ∈ s.take i,x ∈ t) 0 (by simp) (QAC (by simp) ?_) ?_
 ·simp +decide -dsimp -implicitDefEqProofs [go_sem]
 intro i hi
 by_cases h:i < s.length
 ·have w:IntKind.i64.wrap ((i:Int) + 1) = i + 1:=w64 (by omega) (by omega)
  have hn:=QGY t s[i]
  simp +decide -dsimp -implicitDefEqProofs [go_sem,h]
  refine QAA (QMQ t s[i]) rfl rfl ?_
  by_cases hb:s[i] ∈ t
  ·have h2:¬ Lib.indexByte t s[i] < 0:=fun e=>hn.2.1 e hb
   simp +decide -dsimp -implicitDefEqProofs [go_sem,h2,w]
   refine QAG (i + 1) ⟨by omega,fun x hx=>?_⟩ (by omega) (QAC (by simp) ?_)
   ·rw [List.take_succ_eq_append_getElem h] at hx
    rcases List.mem_append.1 hx with hx | hx
    ·exact hi.2 x hx
    ·simp at hx; subst hx; exact hb
   simp +decide -dsimp -implicitDefEqProofs [go_sem]
  ·have h2:Lib.indexByte t s[i] < 0:=hn.2.2 hb
   simp +decide -dsimp -implicitDefEqProofs [go_sem,h2]
   exact ⟨s[i],List.getElem_mem h,hb⟩
 ·have h2:=hi.2
  rw [show i = s.length by omega,List.take_length] at h2
  simp +decide -dsimp -implicitDefEqProofs [go_sem,h]
  intro x hx; exact h2 x hx
def QCg:List UInt8:=[65,66,67,68,69,70,71,72,73,74,75,76,77,78,79,80,81,82,83,84,85,86,87,88,89,90]
def QEi:List UInt8:=[48,49,50,51,52,53,54,55,56,57]
def QWa:List UInt8:=[65,66,67,68,69,70,71,72,73,74,75,76,77,78,79,80,81,82,83,84,85,86,87,88,89,90,97,98,99,100,101,102,103,104,105,106,107,108,109,110,111,112,113,114,115,116,117,118,119,120,121,122,48,49,50,51,52,53,54,55,56,57,95,46,58,43,45,33]
def falses:List Bool:=List.replicate 256 false
def tblC:List Bool:=QCa (QCa (QCa (QCa falses QCg) (Lib.toLowerA QCg)) QEi) [95,46,58,43,45]
theorem QAl:falses.length = 256:=List.length_replicate
theorem QEj:tblC.length = 256:=by simp only [tblC,QBO,QAl]
theorem QZZ:zB = bB falses:=QSH

theorem QAw (k:Nat) (bs:List Bool):QAE k (.agg (bB bs)) = true:=by simp only [QAE]; exact QBD k bs
theorem QNU:ACalls Tryz.prog 79 [] [] (.agg (bB tblC)) []:=by
 refine QAH c79_ok rfl ?_
 unfold c79
 rw [QZZ]
 refine gs ?_
 refine QAA (QFo falses QCg QAl (by decide)) (by simp [QAB,QBD,QAE]) (QAw _ _) ?_
 refine gs ?_
 refine QAA (QQD QCg (by decide) (by decide)) rfl rfl ?_
 refine gs ?_
 refine QAA (QFo _ (Lib.toLowerA QCg) (by simp only [QBO,QAl]) (by decide)) (by simp [QAB,QBD,QAE]) (QAw _ _) ?_
 refine gs ?_
 refine QAA (QFo _ QEi (by simp only [QBO,QAl]) (by decide)) (by simp [QAB,QBD,QAE]) (QAw _ _) ?_
 refine gs ?_
 refine QAA (QFo _ [95,46,58,43,45] (by simp only [QBO,QAl]) (by decide)) (by simp [QAB,QBD,QAE]) (QAw _ _) ?_
 change cbv _ _ _
 have t1:∀ bs:List Bool,bs.length = 256 → (bB bs).take 256 = bB bs:=fun bs h=>QEh bs 256 (by omega)
 have t2:∀ bs:List Bool,bs.length = 256 → (bB bs).drop 256 = []:=fun bs h=>List.drop_eq_nil_of_le (by rw [QAq]; omega)
 have e:QCa (QCa (QCa (QCa falses QCg) (Lib.toLowerA QCg)) QEi) [95,46,58,43,45] = tblC:=rfl
 rw [e]
 simp +decide -dsimp -implicitDefEqProofs [go_sem,QAq,QEj,QAl,t1,t2,QAa]

def QAe (s:List UInt8):Bool:=decide (s ≠ []) && decide (s.length ≤ 32) && !decide (s = [46] ∨ s = [46,46]) && s.all fun c=>decide (c ∈ QWa)

theorem QYI (c:UInt8):(QCa tblC [33])[c.toNat]?.getD false = decide (c ∈ QWa):=by
 have h0:∀ n:Nat,n < 256 → falses[n]?.getD false = false:=fun n h=>by rw [falses,List.getElem?_replicate,if_pos h]; rfl
 have hl:=UInt8.toNat_lt c
 rw [QCq _ _ _ QEj,tblC,QCq _ _ _ (by simp only [QBO,QAl]),QCq _ _ _ (by simp only [QBO,QAl]),QCq _ _ _ (by simp only [QBO,QAl]),QCq _ _ _ QAl,h0 _ (by omega)]
 simp only [Option.getD_some,Bool.false_or]
 clear hl
 have key:∀ n:Fin 256,(decide (UInt8.ofNat n ∈ QCg) || decide (UInt8.ofNat n ∈ Lib.toLowerA QCg) || decide (UInt8.ofNat n ∈ QEi) || decide (UInt8.ofNat n ∈ [95,46,58,43,45]) || decide (UInt8.ofNat n ∈ ([33]:List UInt8))) = decide (UInt8.ofNat n ∈ QWa):=by decide +kernel
 have:=key ⟨c.toNat,UInt8.toNat_lt c⟩
 simpa only [UInt8.ofNat_toNat] using this

theorem QDb (s:List UInt8):ACalls Tryz.prog 41 [.str s] [] (.bool (QAe s)) []:=by
 refine QAH cqq rfl ?_
 unfold QAe
 by_cases h0:s = []
 ·subst h0; simp +decide -dsimp -implicitDefEqProofs [go_sem]
 by_cases h1:s.length ≤ 32
 ·have h1':(s.length:Int) ≤ 32:=by omega
  simp +decide -dsimp -implicitDefEqProofs [go_sem,h0,h1,h1']
  refine QAA (QTU s) rfl rfl ?_
  by_cases h2:s = [46] ∨ s = [46,46]
  ·simp +decide -dsimp -implicitDefEqProofs [go_sem,h2]
   intro a b; exact absurd h2 (by simp [a,b])
  ·simp +decide -dsimp -implicitDefEqProofs [go_sem,h2]
   refine QAA QNU rfl (QAw _ _) ?_
   refine gs ?_
   refine QAA (QFo tblC [33] QEj (by decide)) (by simp [QAB,QBD,QAE]) (QAw _ _) ?_
   refine gs ?_
   refine QAA (QSI _ s (by rw [QBO,QEj]) (by omega)) (by simp [QAB,QBD,QAE]) rfl ?_
   simp +decide -dsimp -implicitDefEqProofs [go_sem,QYI]
   intro _; exact ⟨fun e=>h2 (.inl e),fun e=>h2 (.inr e)⟩
 ·have h1':¬ (s.length:Int) ≤ 32:=by omega
  simp +decide -dsimp -implicitDefEqProofs [go_sem,h0,h1,h1']

theorem QEk (s:List UInt8):ACalls Tryz.prog 74 [.str s] [] (.bool (QAe s)) []:=by
 refine QAH cqq rfl ?_
 unfold QAe
 by_cases h0:s = []
 ·subst h0; simp +decide -dsimp -implicitDefEqProofs [go_sem]
 by_cases h1:s.length ≤ 32
 ·have h1':(s.length:Int) ≤ 32:=by omega
  simp +decide -dsimp -implicitDefEqProofs [go_sem,h0,h1,h1']
  refine QAA (QSJ s QWa (by omega)) rfl rfl ?_
  by_cases h2:(s.all fun c=>decide (c ∈ QWa)) = true
  ·by_cases h3:s = [46]
   ·subst h3; simp +decide -dsimp -implicitDefEqProofs [go_sem]
   ·by_cases h4:s = [46,46]
    ·subst h4; simp +decide -dsimp -implicitDefEqProofs [go_sem]
    ·simp +decide -dsimp -implicitDefEqProofs [go_sem,h2,h3,h4]
  ·simp +decide -dsimp -implicitDefEqProofs [go_sem,h2]
 ·have h1':¬ (s.length:Int) ≤ 32:=by omega
  simp +decide -dsimp -implicitDefEqProofs [go_sem,h0,h1,h1']
end Go.Ab
namespace Go.Ab
open Go Go.Proofs
def QEP (l:List (List UInt8)):AV:=.imm (l.map QAT)
theorem QCi (v:Int) (n:Int) (h:1 ≤ n):0 ≤ QFg v n ∧ QFg v n < n:=by
 unfold QFg
 by_cases h1:n ≤ 1
 ·rw [if_pos h1]; omega
 have:=QQC v n (by omega)
 rw [if_neg h1]; split <;> omega
def QHq (ss:List (List UInt8)) (v:Int):List UInt8:=(ss[(QFg v ss.length).toNat]?).getD []
theorem QBw {ss:List (List UInt8)} (v:Int) (h:ss ≠ []):QHq ss v ∈ ss:=by
 have hl:1 ≤ ss.length:=List.length_pos_iff.2 h
 have:=QCi v ss.length (by omega)
 have h2:(QFg v ss.length).toNat < ss.length:=by omega
 simp only [QHq,List.getElem?_eq_getElem h2,Option.getD_some]
 exact List.getElem_mem h2

theorem QNV (is:List Nat) (l:List Int):QBL is (l.map fun v=>[AV.int .i64 v]) = l.map fun v=>[AV.int .i64 v]:=by
 induction l with
 | nil=>rfl
 | cons x r ih=>simp [QBL,ih,QBt,ren]
theorem QAI (is:List Nat) (l:List Int) (k:Nat):QBP is (QAO l k) = QAO l k:=by simp [QAO,QBP,QBt,ren,QNV]

theorem QE8 (t:List Int) (k:Nat) (ss:List (List UInt8)) (hk:k < 1000000000) (h0:ss ≠ []) (hs:ss.length < 1000000000):
  ACalls Tryz.prog 24 [.ptr 0 0,QEP ss] [QAO t k] (.str (QHq ss (QAx t k))) [QAO t (k + 1)]:=by
 refine QAH cqq rfl ?_
 have hn:=QDW t k ss.length hk (by omega)
 have hl:1 ≤ ss.length:=List.length_pos_iff.2 h0
 have hb:=QCi (QAx t k) ss.length (by omega)
 have h2:(QFg (QAx t k) ss.length).toNat < ss.length:=by omega
 have e:QHq ss (QAx t k) = ss[(QFg (QAx t k) ss.length).toNat]:=by simp [QHq,h2]
 have hne:((ss.length:Int) == 0) = false:=by simp; exact h0
 unfold QEP QAT
 simp +decide -dsimp -implicitDefEqProofs [go_sem,hne]
 refine QAL [0] hn rfl rfl (by simp) (by simp [go_sem]) (by simp [QAI]) ?_
 simp +decide -dsimp -implicitDefEqProofs [go_sem,h2,hb.1,e,QAO,QNV]

end Go.Ab
namespace Go.Ab
open Go Go.Proofs

def QKp (o:Option Nat):Int:=match o with | some i=>i | none=>-1
theorem findIdx?_at {α:Type} {l:List α} {p:α → Bool} {i:Nat} (h:i < l.length) (hp:p l[i] = true) (hn:∀ x ∈ l.take i,p x = false):l.findIdx? p = some i:=by
 rw [List.findIdx?_eq_some_iff_getElem]
 refine ⟨h,by simpa using hp,fun j hj=>?_⟩
 have:=hn l[j] (by rw [List.mem_take_iff_getElem]; exact ⟨j,by omega,rfl⟩)
 simp [this]

def QI3 (H:List AObj):Prop:=cvH H H.length H H

theorem QMR (l:List (List UInt8)) (F:Nat) (caps:List AV) (H:List AObj) (p:List UInt8 → Bool) (hl:l.length < 1000000000) (hc:QAB H.length caps = true) (hH:QI3 H)
  (hf:∀ x ∈ l,ACalls Tryz.prog F (.str x :: caps) H (.bool (p x)) H):
  ACalls Tryz.prog 119 [.imm (l.map QAT),.fn (.func F) [] caps] H (.int .i64 (QKp (l.findIdx? p))) H:=by
 refine QAH cqq rfl ?_
 refine gs ?_
 refine QAQ (S:=Nat) (fun i=>⟨tmps 19 [(0,.imm (l.map QAT)),(1,.fn (.func F) [] caps),(7,.int .i64 l.length),(8,.int .i64 i)],H⟩) (fun i=>l.length - i) (fun i=>i ≤ l.length ∧ ∀ x ∈ l.take i,p x = false) 0 (by simp) (QAC (by simp) ?_) ?_
 ·simp +decide -dsimp -implicitDefEqProofs [go_sem,hc]; exact hH
 intro i hi
 by_cases h:i < l.length
 ·have w:IntKind.i64.wrap ((i:Int) + 1) = i + 1:=w64 (by omega) (by omega)
  simp +decide -dsimp -implicitDefEqProofs [go_sem,h]
  refine QDO (hf l[i] (List.getElem_mem h)) ?_
  by_cases hp:p l[i] = true
  ·simp +decide -dsimp -implicitDefEqProofs [go_sem,hp,findIdx?_at h hp hi.2,QKp]; exact hH
  ·simp +decide -dsimp -implicitDefEqProofs [go_sem,hp,w]
   refine QAG (i + 1) ⟨by omega,fun x hx=>?_⟩ (by omega) (QAC (by simp) ?_)
   ·rw [List.take_succ_eq_append_getElem h] at hx
    rcases List.mem_append.1 hx with hx | hx
    ·exact hi.2 x hx
    ·simp at hx; subst hx; simpa using hp
   simp +decide -dsimp -implicitDefEqProofs [go_sem,hc]; exact hH
 ·have e:i = l.length:=by omega
  have h2:=hi.2
  rw [e,List.take_length] at h2
  have h3:l.findIdx? p = none:=by rw [List.findIdx?_eq_none_iff]; exact fun x hx=>by simp [h2 x hx]
  simp +decide -dsimp -implicitDefEqProofs [go_sem,h,h3,QKp]; exact hH

theorem QMS {l:List (List UInt8)} {p:List UInt8 → Bool}:decide (0 ≤ QKp (l.findIdx? p)) = l.any p:=by
 cases h:l.findIdx? p with
 | none=>
  rw [List.findIdx?_eq_none_iff] at h
  have:l.any p = false:=by rw [List.any_eq_false]; exact fun x hx=>by simp [h x hx]
  simp [QKp,this]
 | some i=>
  obtain ⟨h1,h2,_⟩:=List.findIdx?_eq_some_iff_getElem.1 h
  have:l.any p = true:=List.any_eq_true.2 ⟨l[i],List.getElem_mem h1,h2⟩
  simp [QKp,this]

theorem QEB (l:List (List UInt8)) (F:Nat) (caps:List AV) (H:List AObj) (p:List UInt8 → Bool) (hl:l.length < 1000000000) (hc:QAB H.length caps = true) (hH:QI3 H)
  (hf:∀ x ∈ l,ACalls Tryz.prog F (.str x :: caps) H (.bool (p x)) H):
  ACalls Tryz.prog 86 [.imm (l.map QAT),.fn (.func F) [] caps] H (.bool (l.any p)) H:=by
 refine QAH c86_ok rfl ?_
 unfold c86
 refine gs ?_
 refine QDO (QMR l F caps H p hl hc hH hf) ?_
 simp +decide -dsimp -implicitDefEqProofs [go_sem,← QMS]; exact hH

theorem QU4 (l:List (List UInt8)) (F:Nat) (caps:List AV) (H:List AObj) (p:List UInt8 → Bool) (hl:l.length < 1000000000) (hc:∀ n,H.length ≤ n → QAB n caps = true) (_hH:QI3 H) (hH2:∀ x,cvH (H ++ [x]) H.length (H ++ [x]) H) (hH3:∀ cs,QAB (H.length + 1) cs = true → QI3 (H ++ [.box 85 cs]))
  (hf:∀ x ∈ l,ACalls Tryz.prog F (.str x :: caps) (H ++ [.box 85 [.fn (.func F) [] caps]]) (.bool (p x)) (H ++ [.box 85 [.fn (.func F) [] caps]])):
  ACalls Tryz.prog 132 [.imm (l.map QAT),.fn (.func F) [] caps] H (.bool (l.all p)) H:=by
 have h123:∀ x ∈ l,ACalls Tryz.prog 172 [.str x,.ptr H.length 0] (H ++ [.box 85 [.fn (.func F) [] caps]]) (.bool (!p x)) (H ++ [.box 85 [.fn (.func F) [] caps]]):=fun x hx=>by
  refine QAH c172_ok rfl ?_
  unfold c172
  refine gs ?_
  refine QDO (hf x hx) ?_
  refine gs ?_
  have:=hH3 [.fn (.func F) [] caps] (by simp [QAB,QAE,hc (H.length + 1) (by omega)])
  simpa [QI3] using this
 refine QAH cqq rfl ?_
 refine gs ?_
 refine QDO (QEB l 172 [.ptr H.length 0] (H ++ [.box 85 [.fn (.func F) [] caps]]) (fun x=>!p x) hl (by simp [QAB,QAE]) (hH3 _ (by simp [QAB,QAE,hc (H.length + 1) (by omega)])) h123) ?_
 have e:(!l.any fun x=>!p x) = l.all p:=by rw [List.not_any_eq_all_not]; simp
 simp +decide -dsimp -implicitDefEqProofs [go_sem,e]; exact hH2 _
end Go.Ab
namespace Go.Ab
open Go Go.Proofs
def c122:AFn:=⟨(sq [(ox 1 (.box 97 (.t 0))),(ox 2 (.mov (.v (.str []))))] (sq [(ox 3 (fa 0 1)),(ox 4 (ld 3)),(mv 2 4)] .ret)),5,[(.tmp 2)]⟩
theorem c122_ok:QAg Tryz.prog [] 122 = some c122:=by kernel_rfl
def c126:AFn:=⟨(sq [(ox 2 (.mov (.v (.str []))))] (sq [(mv 3 0),(mv 2 3)] .ret)),4,[(.tmp 2)]⟩
theorem c126_ok:QAg Tryz.prog [] 126 = some c126:=by kernel_rfl
def c129:AFn:=⟨(sq [(ox 2 (mb false))] (sq [(mv 3 0),(ox 4 (fc 128 [(.t 3)])),(ox 5 (.un .not (.t 4))),(mv 2 5)] .ret)),6,[(.tmp 2)]⟩
theorem c129_ok:QAg Tryz.prog [] 129 = some c129:=by kernel_rfl
def c124:AFn:=⟨(sq [(ox 2 (mb false))] (.seq (.draw [(mv 3 0),(ox 4 (.bin .neq (.t 3) (.v (.str [])))),(mv 5 4),(ot 6 (.mov (.t 0)) 5),(ot 7 (.len .str (.t 6)) 5),(ot 8 (b1 .leq 7 32) 5),(ox 9 (.pick (.t 5) (.t 8) (.v (.bool false)))),(mv 10 9),(ot 11 (.build zB []) 10),(ot 12 (fc 80 [(.t 11),(.v (.str [65,66,67,68,69,70,71,72,73,74,75,76,77,78,79,80,81,82,83,84,85,86,87,88,89,90]))]) 10),(ot 13 (.mov (.t 0)) 10),(ot 14 (.slice .str 0 (.t 13) none (some (iv 1))) 10),(ot 15 (fc 81 [(.t 12),(.t 14)]) 10),(ox 16 (.pick (.t 10) (.t 15) (.v (.bool false)))),(mv 17 16),(ot 18 (.build zB []) 17),(ot 19 (fc 80 [(.t 18),(.v (.str [65,66,67,68,69,70,71,72,73,74,75,76,77,78,79,80,81,82,83,84,85,86,87,88,89,90]))]) 17),(ot 20 (fc 80 [(.t 19),(.v (.str [48,49,50,51,52,53,54,55,56,57]))]) 17),(ot 21 (fc 80 [(.t 20),(.v (.str [95]))]) 17),(ot 22 (.mov (.t 0)) 17),(ot 23 (fc 81 [(.t 21),(.t 22)]) 17),(ox 24 (.pick (.t 17) (.t 23) (.v (.bool false)))),(mv 2 24)] [0,1,3,7,15,31,63,127,255,511,255,1279,4095,8191,16383,32767,65535,131071,262143,32767,1048575,2097151,4194303]) .ret)),25,[(.tmp 2)]⟩
theorem c124_ok:QAg Tryz.prog [] 124 = some c124:=by kernel_rfl
end Go.Ab
namespace Go.Ab
open Go Go.Proofs

def QBJ (s:List UInt8):Bool:=s.all fun c=>decide (32 ≤ c.toNat) && decide (c.toNat ≤ 126)
def QCb (s:List UInt8):Bool:=QBJ s && decide (s.length ≤ 256)

theorem QLX (s:List UInt8) (hl:s.length < 9223372036854775807):ACalls Tryz.prog 177 [.str s] [] (.bool (QBJ s)) []:=by
 refine QAH cqq rfl ?_
 refine gs ?_
 refine QAQ (S:=Nat) (fun i=>⟨tmps 20 [(0,.str s),(3,.int .i64 i)],[]⟩) (fun i=>s.length - i) (fun i=>i ≤ s.length ∧ ∀ x ∈ s.take i,32 ≤ x.toNat ∧ x.toNat ≤ 126) 0 (by simp) (QAC (by simp) ?_) ?_
 ·simp +decide -dsimp -implicitDefEqProofs [go_sem]
 intro i hi
 by_cases h:i < s.length
 ·have w:IntKind.i64.wrap ((i:Int) + 1) = i + 1:=w64 (by omega) (by omega)
  by_cases h1:s[i].toNat < 32
  ·have h1':(s[i].toNat:Int) < 32:=by omega
   simp +decide -dsimp -implicitDefEqProofs [go_sem,h,h1']
   simp only [QBJ,List.all_eq_false]
   exact ⟨s[i],List.getElem_mem h,by simp; omega⟩
  ·have h1':¬ (s[i].toNat:Int) < 32:=by omega
   by_cases h2:126 < s[i].toNat
   ·have h2':(126:Int) < s[i].toNat:=by omega
    simp +decide -dsimp -implicitDefEqProofs [go_sem,h,h1',h2']
    simp only [QBJ,List.all_eq_false]
    exact ⟨s[i],List.getElem_mem h,by simp; omega⟩
   ·have h2':¬ (126:Int) < s[i].toNat:=by omega
    simp +decide -dsimp -implicitDefEqProofs [go_sem,h,h1',h2',w]
    refine QAG (i + 1) ⟨by omega,fun x hx=>?_⟩ (by omega) (QAC (by simp) ?_)
    ·rw [List.take_succ_eq_append_getElem h] at hx
     rcases List.mem_append.1 hx with hx | hx
     ·exact hi.2 x hx
     ·simp at hx; subst hx; omega
    simp +decide -dsimp -implicitDefEqProofs [go_sem]
 ·have e:i = s.length:=by omega
  have h2:=hi.2
  rw [e,List.take_length] at h2
  have h3:QBJ s = true:=by simp only [QBJ,List.all_eq_true]; intro x hx; have:=h2 x hx; simp; omega
  simp +decide -dsimp -implicitDefEqProofs [go_sem,h,h3]

theorem QMT (s:List UInt8) (hl:s.length < 9223372036854775807):ACalls Tryz.prog 141 [.str s] [] (.bool (QCb s)) []:=by
 refine QAH cqq rfl ?_
 unfold QCb
 refine gs ?_
 refine QAA (QLX s hl) rfl rfl ?_
 have e:(decide ((s.length:Int) ≤ 256)) = decide (s.length ≤ 256):=by rw [decide_eq_decide]; omega
 cases h:QBJ s <;> simp +decide -dsimp -implicitDefEqProofs [go_sem,e]

theorem QQE (s:List UInt8) (hl:s.length < 9223372036854775807):ACalls Tryz.prog 116 [.str s] [] (.bool (QCb s)) []:=by
 refine QAH cqq rfl ?_
 refine gs ?_
 refine QAQ (S:=Nat) (fun i=>⟨tmps 23 [(0,.str s),(5,.int .i64 s.length),(6,.int .i64 i)],[]⟩) (fun i=>s.length - i) (fun i=>i ≤ s.length ∧ ∀ x ∈ s.take i,32 ≤ x.toNat ∧ x.toNat ≤ 126) 0 (by simp) (QAC (by simp) ?_) ?_
 ·simp +decide -dsimp -implicitDefEqProofs [go_sem]
 intro i hi
 by_cases h:i < s.length
 ·have w:IntKind.i64.wrap ((i:Int) + 1) = i + 1:=w64 (by omega) (by omega)
  by_cases h1:s[i].toNat < 32
  ·have h1':(s[i].toNat:Int) < 32:=by omega
   have h3:QBJ s = false:=by simp only [QBJ,List.all_eq_false]; exact ⟨s[i],List.getElem_mem h,by simp; omega⟩
   simp +decide -dsimp -implicitDefEqProofs [go_sem,h,h1',QCb,h3]
  ·have h1':¬ (s[i].toNat:Int) < 32:=by omega
   by_cases h2:126 < s[i].toNat
   ·have h2':(126:Int) < s[i].toNat:=by omega
    have h3:QBJ s = false:=by simp only [QBJ,List.all_eq_false]; exact ⟨s[i],List.getElem_mem h,by simp; omega⟩
    simp +decide -dsimp -implicitDefEqProofs [go_sem,h,h1',h2',QCb,h3]
   ·have h2':¬ (126:Int) < s[i].toNat:=by omega
    simp +decide -dsimp -implicitDefEqProofs [go_sem,h,h1',h2',w]
    refine QAG (i + 1) ⟨by omega,fun x hx=>?_⟩ (by omega) (QAC (by simp) ?_)
    ·rw [List.take_succ_eq_append_getElem h] at hx
     rcases List.mem_append.1 hx with hx | hx
     ·exact hi.2 x hx
     ·simp at hx; subst hx; omega
    simp +decide -dsimp -implicitDefEqProofs [go_sem]
 ·have e:i = s.length:=by omega
  have h2:=hi.2
  rw [e,List.take_length] at h2
  have h3:QBJ s = true:=by simp only [QBJ,List.all_eq_true]; intro x hx; have:=h2 x hx; simp; omega
  have e:(decide ((s.length:Int) ≤ 256)) = decide (s.length ≤ 256):=by rw [decide_eq_decide]; omega
  simp +decide -dsimp -implicitDefEqProofs [go_sem,h,h3,QCb,e]
end Go.Ab
namespace Go.Ab
open Go Go.Proofs
def QYJ:List UInt8:=[65,66,67,68,69,70,71,72,73,74,75,76,77,78,79,80,81,82,83,84,85,86,87,88,89,90,48,49,50,51,52,53,54,55,56,57,95]
def QG6 (s:List UInt8):Bool:=decide (s ≠ []) && decide (s.length ≤ 32) && ((s.take 1).all fun c=>decide (c ∈ QCg)) && s.all fun c=>decide (c ∈ QYJ)

theorem QQF (c:UInt8):falses[c.toNat]?.getD false = false:=by
 have:=UInt8.toNat_lt c
 rw [falses,List.getElem?_replicate,if_pos (by omega)]; rfl
theorem QMU (c:UInt8):(QCa falses QCg)[c.toNat]?.getD false = decide (c ∈ QCg):=by
 rw [QCq _ _ _ QAl,QQF]; simp
theorem QU5 (c:UInt8):(QCa (QCa (QCa falses QCg) QEi) [95])[c.toNat]?.getD false = decide (c ∈ QYJ):=by
 rw [QCq _ _ _ (by simp only [QBO,QAl]),QCq _ _ _ (by simp only [QBO,QAl]),QMU]
 simp only [Option.getD_some]
 have key:∀ n:Fin 256,(decide (UInt8.ofNat n ∈ QCg) || decide (UInt8.ofNat n ∈ QEi) || decide (UInt8.ofNat n ∈ ([95]:List UInt8))) = decide (UInt8.ofNat n ∈ QYJ):=by decide +kernel
 have:=key ⟨c.toNat,UInt8.toNat_lt c⟩
 simpa only [UInt8.ofNat_toNat] using this

theorem QYK (s:List UInt8):ACalls Tryz.prog 140 [.str s] [] (.bool (QG6 s)) []:=by
 refine QAH cqq rfl ?_
 unfold QG6
 by_cases h0:s = []
 ·subst h0; simp +decide -dsimp -implicitDefEqProofs [go_sem]
 have hpos:0 < s.length:=List.length_pos_iff.2 h0
 by_cases h1:s.length ≤ 32
 ·have h1':(s.length:Int) ≤ 32:=by omega
  simp +decide -dsimp -implicitDefEqProofs [go_sem,h0,h1,h1']
  refine QAA (QSJ s QYJ (by omega)) rfl rfl ?_
  by_cases h2:(s.all fun c=>decide (c ∈ QYJ)) = true
  ·simp +decide -dsimp -implicitDefEqProofs [go_sem,h2]
   refine ⟨by omega,?_⟩
   refine QAA (QSJ (s.take 1) QCg (by simp; omega)) rfl rfl ?_
   simp +decide -dsimp -implicitDefEqProofs [go_sem,h2]
  ·simp +decide -dsimp -implicitDefEqProofs [go_sem,h2]
 ·have h1':¬ (s.length:Int) ≤ 32:=by omega
  simp +decide -dsimp -implicitDefEqProofs [go_sem,h0,h1,h1']

theorem QaJ (s:List UInt8):ACalls Tryz.prog 124 [.str s] [] (.bool (QG6 s)) []:=by
 refine QAH c124_ok rfl ?_
 unfold c124 QG6
 rw [QZZ]
 by_cases h0:s = []
 ·subst h0; simp +decide -dsimp -implicitDefEqProofs [go_sem]
 have hpos:0 < s.length:=List.length_pos_iff.2 h0
 by_cases h1:s.length ≤ 32
 ·have h1':(s.length:Int) ≤ 32:=by omega
  have cl:∀ bs,QAB 0 [.agg (bB bs)] = true:=fun bs=>by simp [QAB,QAw]
  simp +decide -dsimp -implicitDefEqProofs [go_sem,h0,h1,h1']
  refine QAK (QFo falses QCg QAl (by decide)) (by simp [QAB,QAE,QBD]) (QAw _ _) ?_
  refine gs ?_
  refine ⟨by omega,?_⟩
  have hU:=QSI (QCa falses QCg) (s.take 1) (by rw [QBO,QAl]) (by simp; omega)
  simp only [QMU] at hU
  refine QAK hU (by simp [QAB,QAE,QBD]) rfl ?_
  by_cases h2:((s.take 1).all fun c=>decide (c ∈ QCg)) = true
  ·simp +decide -dsimp -implicitDefEqProofs [go_sem,h2]
   refine QAK (QFo falses QCg QAl (by decide)) (by simp [QAB,QAE,QBD]) (QAw _ _) ?_
   refine gs ?_
   refine QAK (QFo _ QEi (by simp only [QBO,QAl]) (by decide)) (by simp [QAB,QAE,QBD]) (QAw _ _) ?_
   refine gs ?_
   refine QAK (QFo _ [95] (by simp only [QBO,QAl]) (by decide)) (by simp [QAB,QAE,QBD]) (QAw _ _) ?_
   refine gs ?_
   have hK:=QSI (QCa (QCa (QCa falses QCg) QEi) [95]) s (by simp only [QBO,QAl]) (by omega)
   simp only [QU5] at hK
   refine QAK hK (by simp [QAB,QAE,QBD]) rfl ?_
   simp +decide -dsimp -implicitDefEqProofs [go_sem,h2]
  ·simp +decide -dsimp -implicitDefEqProofs [go_sem,h2]
 ·have h1':¬ (s.length:Int) ≤ 32:=by omega
  simp +decide -dsimp -implicitDefEqProofs [go_sem,h0,h1,h1']
end Go.Ab
namespace Go.Ab
open Go Go.Proofs

def QCl (s:List UInt8) (c:UInt8):List (List UInt8):=(Lib.splitB ⟨#[c]⟩ 0 (Lib.countB ⟨s.toArray⟩ ⟨#[c]⟩) ⟨s.toArray⟩).map fun b=>b.data.toList

theorem QG7 (s:List UInt8) (c:UInt8) (hs:s.length < 4294967281):
  ACalls Tryz.prog 96 [.str s,.str [c]] [] (.imm ((QCl s c).map QAT)) []:=by
 refine ⟨by kernel_rfl,fun cx vs hH hr hv=>?_⟩
 simp only [QA3,Val] at hv
 obtain ⟨v,vs',rfl,rfl,v2,vs2,rfl,rfl,rfl⟩:=hv
 obtain ⟨⟨m,hm⟩,_⟩:=hr.gl
 refine (Tryz.strings_Split ⟨s.toArray⟩ ⟨#[c]⟩ m cx.w hs hm (Nat.le_refl 1)).mono fun e w' hq=>?_
 obtain ⟨rfl,rfl⟩:=hq
 have hlen:=Lib.splitB_all ⟨#[c]⟩ (Nat.le_refl 1) 0 _ ⟨s.toArray⟩ rfl
 generalize hL:Lib.splitB ⟨#[c]⟩ 0 (Lib.countB ⟨s.toArray⟩ ⟨#[c]⟩) ⟨s.toArray⟩ = L at hlen
 generalize Lib.countB ⟨s.toArray⟩ ⟨#[c]⟩ = n at hlen
 have hN:=QEf hr (F':=fun b=>cx.F b ∨ b = cx.w.heap.size) (w':=cx.w.alloc (.cells (L.map Value.string).toArray 9)) (fun b h=>.inl h) (fun b h=>h.imp id fun h=>⟨by omega,by simp; omega⟩) (fun b hb=>QDS cx.w _ b hb) (by simp) rfl rfl rfl
 refine ⟨_,⟨fun b=>cx.F b ∨ b = cx.w.heap.size,cx.μ,cx.H,_⟩,rfl,rfl,hH,hN.1,hN.2,?_⟩
 have e:(QCl s c).map QAT = L.map fun b=>QAT b.data.toList:=by rw [QCl,hL,List.map_map]; rfl
 rw [e]
 simp only [Val,List.length_map]
 refine .inl ⟨cx.w.heap.size,0,n + 1,1,by rw [hlen],.inr rfl,by omega,?_⟩
 rw [QA9]
 intro j r hj
 rw [List.getElem?_map] at hj
 cases h:L[j]? with
 | none=>simp [h] at hj
 | some y=>
  simp [h] at hj
  subst hj
  refine ⟨rfl,?_⟩
  simp only [QAT,QBN,Val,and_true]
  refine ⟨_,?_,rfl,rfl⟩
  rw [Nat.mul_one,Nat.zero_add]
  show (cx.w.alloc _).cell? _ = _
  rw [World.cell?_alloc_new]
  simp [h]

theorem QCr (s:List UInt8) (c:UInt8):(QCl s c).length ≤ s.length + 1:=by
 have hlen:=Lib.splitB_all ⟨#[c]⟩ (Nat.le_refl 1) 0 _ ⟨s.toArray⟩ rfl
 have h2:=Lib.countB_le ⟨#[c]⟩ (Nat.le_refl 1) _ ⟨s.toArray⟩ (Nat.le_refl _)
 have h3:(ByteArray.mk s.toArray).size = s.length:=rfl
 rw [QCl,List.length_map,hlen]; omega

theorem QHZ (sep:ByteArray) (n:Nat):∀ (k:Nat) (s:ByteArray),s.size ≤ n → ∀ x ∈ Lib.splitB sep 0 k s,x.size ≤ n
 | 0,s,h,x,hx=>by simp [Lib.splitB] at hx; subst hx; exact h
 | k + 1,s,h,x,hx=>by
  unfold Lib.splitB at hx
  split at hx
  ·simp at hx; subst hx; exact h
  ·rcases List.mem_cons.1 hx with rfl | hx
   ·rw [ByteArray.size_extract]; omega
   ·exact QHZ sep n k _ (by rw [ByteArray.size_extract]; omega) x hx
theorem QHa {s:List UInt8} {c:UInt8} {x:List UInt8} (h:x ∈ QCl s c):x.length ≤ s.length:=by
 obtain ⟨y,hy,rfl⟩:=List.mem_map.1 h
 exact QHZ _ s.length _ ⟨s.toArray⟩ (Nat.le_refl _) y hy

theorem QHb (s p:List UInt8) (_hl:p.length < 9223372036854775807):ACalls Tryz.prog 97 [.str s,.str p] [] (.bool (p.isPrefixOf s)) []:=by
 refine QAH cqq rfl ?_
 by_cases h:p.length ≤ s.length
 ·have h':(p.length:Int) ≤ s.length:=by omega
  have e:(s.take p.length == p) = p.isPrefixOf s:=by
   rw [Bool.eq_iff_iff,beq_iff_eq,List.isPrefixOf_iff_prefix,List.prefix_iff_eq_take]
   exact eq_comm
  simp +decide -dsimp -implicitDefEqProofs [go_sem,h,h',e]
 ·have h':¬ (p.length:Int) ≤ s.length:=by omega
  have e:p.isPrefixOf s = false:=by
   rw [Bool.eq_false_iff]; intro hp; rw [List.isPrefixOf_iff_prefix] at hp
   exact h hp.length_le
  simp +decide -dsimp -implicitDefEqProofs [go_sem,h',e]

theorem QF3 (s p:List UInt8) (hl:p.length < 9223372036854775807):ACalls Tryz.prog 56 [.str s,.str p] [] (.bool (p.isPrefixOf s)) []:=by
 refine QAH c56_ok rfl ?_
 unfold c56
 refine gs ?_
 refine QAA (QHb s p hl) rfl rfl ?_
 simp +decide -dsimp -implicitDefEqProofs [go_sem]

def QKN (s p:List UInt8):List UInt8:=if p.isPrefixOf s then s.drop p.length else s
theorem QMV (s p:List UInt8) (hl:p.length < 9223372036854775807):ACalls Tryz.prog 131 [.str s,.str p] [] (.tup [.str (QKN s p),.bool (p.isPrefixOf s)]) []:=by
 have h108:ACalls Tryz.prog 171 [.str s,.str p] [] (.tup [.str (QKN s p),.bool (p.isPrefixOf s)]) []:=by
  refine QAH cqq rfl ?_
  unfold QKN
  refine gs ?_
  refine QAA (QHb s p hl) rfl rfl ?_
  by_cases h:p.isPrefixOf s = true
  ·have h2:p.length ≤ s.length:=(List.isPrefixOf_iff_prefix.1 h).length_le
   simp +decide -dsimp -implicitDefEqProofs [go_sem,h,h2]
   intro hn; exact absurd (List.isPrefixOf_iff_prefix.1 h) hn
  ·simp +decide -dsimp -implicitDefEqProofs [go_sem,h]
   intro hn; exact absurd (List.isPrefixOf_iff_prefix.2 hn) h
 refine QAH cqq rfl ?_
 refine gs ?_
 refine QAA h108 rfl rfl ?_
 simp +decide -dsimp -implicitDefEqProofs [go_sem]

theorem QFW {H:List AObj} {m:Nat}:∀ {l:List AV},QAB m l = true → cvT H m l l
 | [],_=>trivial
 | x :: xs,h=>by
  simp only [QAB,Bool.and_eq_true] at h
  exact ⟨.inr (.inl ⟨rfl,h.1⟩),QFW h.2⟩

def QCm (s:List UInt8):Option (List (List UInt8)):=
 match s with
 | []=>none
 | c :: r=>if c = 47 ∧ ((QCl r 47).all QAe) = true then some (QCl r 47) else none

theorem QFX (s:List UInt8) (hs:s.length < 100000000):ACalls Tryz.prog 91 [.str s] [] (match QCm s with | some l=>.tup [.imm (l.map QAT),.int .i64 0] | none=>.tup [.imm [],.int .i64 10]) []:=by
 refine QAH cqq rfl ?_
 refine gs ?_
 refine QAA (QMV s [47] (by decide)) rfl rfl ?_
 have hlt:(QKN s [47]).length ≤ s.length:=by unfold QKN; split <;> simp
 refine gs ?_
 have hl2:=QCr (QKN s [47]) 47
 refine QAA (QG7 (QKN s [47]) 47 (by omega)) rfl (by simp [QAE,QAF]) ?_
 by_cases hp:([47]:List UInt8).isPrefixOf s = true
 ·obtain ⟨r,rfl⟩:∃ r,s = 47 :: r:=by
   cases s with
   | nil=>simp at hp
   | cons c r=>simp at hp; exact ⟨r,by rw [hp]⟩
  have e:QKN (47 :: r) [47] = r:=by simp [QKN]
  rw [e]
  refine gs ?_
  refine QDO (QU4 (QCl r 47) 41 [] [] QAe (by rw [e] at hl2; simp only [List.length_cons] at hs; omega) (fun _ _=>rfl) (by simp [QI3,cvH]) (fun _=>by simp [cvH]) (fun cs h=>⟨⟨rfl,QFW h⟩,trivial⟩) (fun x _=>(QDb x).pure _ rfl rfl)) ?_
  by_cases hv:((QCl r 47).all QAe) = true
  ·simp +decide -dsimp -implicitDefEqProofs [go_sem,hv,QCm]
  ·simp +decide -dsimp -implicitDefEqProofs [go_sem,hv,QCm]
 ·have e:QCm s = none:=by
   cases s with
   | nil=>rfl
   | cons c r=>simp at hp; simp [QCm]; intro h; exact absurd h.symm hp
  simp +decide -dsimp -implicitDefEqProofs [go_sem,hp,e]
end Go.Ab
namespace Go.Ab
open Go Go.Proofs

def QAf (s:List UInt8):Bool:=match QCm s with | some l=>decide (l.length ≤ 7) | none=>false

theorem QSK (s:List UInt8) (hs:s.length < 100000000):ACalls Tryz.prog 120 [.str s] [] (.bool (QAf s)) []:=by
 refine QAH cqq rfl ?_
 have h:=QFX s hs
 refine gs ?_
 refine QAA h rfl (by cases QCm s <;> simp [QAE,QAB,QAb,QAF]) ?_
 cases e:QCm s with
 | none=>simp +decide -dsimp -implicitDefEqProofs [go_sem,QAf,e]
 | some l=>
  have e2:(decide ((l.length:Int) ≤ 7)) = decide (l.length ≤ 7):=by rw [decide_eq_decide]; omega
  simp +decide -dsimp -implicitDefEqProofs [go_sem,QAf,e,e2]

theorem QKO (s:List UInt8) (hs:s.length < 100000000):ACalls Tryz.prog 55 [.str s] [] (match QCm s with | some l=>.tup [.imm (l.map QAT),.bool true] | none=>.tup [.imm [],.bool false]) []:=by
 refine QAH cqq rfl ?_
 cases s with
 | nil=>simp +decide -dsimp -implicitDefEqProofs [go_sem,QCm]
 | cons c r=>
  by_cases hc:c = 47
  ·subst hc
   have hl2:=QCr r 47
   simp only [List.length_cons] at hs
   refine gs ?_
   refine QAA (QG7 r 47 (by omega)) rfl (by simp [QAE,QAF]) ?_
   refine gs ?_
   generalize hL:QCl r 47 = L at hl2
   refine QAQ (S:=Nat) (fun i=>⟨tmps 29 [(4,.imm (L.map QAT)),(5,.int .i64 i)],[]⟩) (fun i=>L.length - i) (fun i=>i ≤ L.length ∧ ∀ x ∈ L.take i,QAe x = true) 0 (by simp) (QAC (by simp) ?_) ?_
   ·simp +decide -dsimp -implicitDefEqProofs [go_sem]
   intro i hi
   by_cases h:i < L.length
   ·have w:IntKind.i64.wrap ((i:Int) + 1) = i + 1:=w64 (by omega) (by omega)
    simp +decide -dsimp -implicitDefEqProofs [go_sem,h]
    refine QAA (QEk L[i]) rfl rfl ?_
    by_cases hv:QAe L[i] = true
    ·simp +decide -dsimp -implicitDefEqProofs [go_sem,hv,w]
     refine QAG (i + 1) ⟨by omega,fun x hx=>?_⟩ (by omega) (QAC (by simp) ?_)
     ·rw [List.take_succ_eq_append_getElem h] at hx
      rcases List.mem_append.1 hx with hx | hx
      ·exact hi.2 x hx
      ·simp at hx; subst hx; exact hv
     simp +decide -dsimp -implicitDefEqProofs [go_sem]
    ·have e:QCm (47 :: r) = none:=by
      simp only [QCm,hL]
      rw [if_neg]
      rintro ⟨_,h3⟩
      exact hv (List.all_eq_true.1 h3 _ (List.getElem_mem h))
     simp +decide -dsimp -implicitDefEqProofs [go_sem,hv,e]
   ·have e:i = L.length:=by omega
    have h2:=hi.2
    rw [e,List.take_length] at h2
    have e2:QCm (47 :: r) = some L:=by
     simp only [QCm,hL]
     rw [if_pos ⟨trivial,List.all_eq_true.2 h2⟩]
    simp +decide -dsimp -implicitDefEqProofs [go_sem,h,e2]
  ·have e:QCm (c :: r) = none:=by simp [QCm,hc]
   have hc':¬ ((c.toNat:Int) = 47):=fun h=>hc (UInt8.toNat_inj.1 (by simpa using (by omega:c.toNat = 47)))
   simp +decide -dsimp -implicitDefEqProofs [go_sem,e,hc']

theorem QSL (s:List UInt8) (hs:s.length < 100000000):ACalls Tryz.prog 100 [.str s] [] (.bool (QAf s)) []:=by
 refine QAH cqq rfl ?_
 have h:=QKO s hs
 refine gs ?_
 refine QAA h rfl (by cases QCm s <;> simp [QAE,QAB,QAb,QAF]) ?_
 cases e:QCm s with
 | none=>simp +decide -dsimp -implicitDefEqProofs [go_sem,QAf,e]
 | some l=>
  have e2:(decide ((l.length:Int) ≤ 7)) = decide (l.length ≤ 7):=by rw [decide_eq_decide]; omega
  simp +decide -dsimp -implicitDefEqProofs [go_sem,QAf,e,e2]
end Go.Ab
namespace Go.Ab
open Go Go.Proofs
def tblP:List Bool:=QCa tblC [64,35,61,37]
theorem QGZ:tblP.length = 256:=by simp only [tblP,QBO,QEj]
def QMW:List UInt8:=[65,66,67,68,69,70,71,72,73,74,75,76,77,78,79,80,81,82,83,84,85,86,87,88,89,90,97,98,99,100,101,102,103,104,105,106,107,108,109,110,111,112,113,114,115,116,117,118,119,120,121,122,48,49,50,51,52,53,54,55,56,57,95,46,58,43,45,64,35,61,37]

theorem QU6 (c:UInt8):tblP[c.toNat]?.getD false = decide (c ∈ QMW):=by
 rw [tblP,QCq _ _ _ QEj,tblC,QCq _ _ _ (by simp only [QBO,QAl]),QCq _ _ _ (by simp only [QBO,QAl]),QCq _ _ _ (by simp only [QBO,QAl]),QMU]
 simp only [Option.getD_some]
 have key:∀ n:Fin 256,(decide (UInt8.ofNat n ∈ QCg) || decide (UInt8.ofNat n ∈ Lib.toLowerA QCg) || decide (UInt8.ofNat n ∈ QEi) || decide (UInt8.ofNat n ∈ [95,46,58,43,45]) || decide (UInt8.ofNat n ∈ ([64,35,61,37]:List UInt8))) = decide (UInt8.ofNat n ∈ QMW):=by decide +kernel
 have:=key ⟨c.toNat,UInt8.toNat_lt c⟩
 simpa only [UInt8.ofNat_toNat] using this

theorem QU7:ACalls Tryz.prog 168 [] [] (.agg (bB tblP)) []:=by
 refine QAH c168_ok rfl ?_
 unfold c168
 rw [QZZ]
 refine gs ?_
 refine QAA QNU rfl (QAw _ _) ?_
 refine gs ?_
 refine QAA (QFo tblC [64,35,61,37] QEj (by decide)) (by simp [QAB,QBD,QAE]) (QAw _ _) ?_
 change cbv _ _ _
 have t1:∀ bs:List Bool,bs.length = 256 → (bB bs).take 256 = bB bs:=fun bs h=>QEh bs 256 (by omega)
 have t2:∀ bs:List Bool,bs.length = 256 → (bB bs).drop 256 = []:=fun bs h=>List.drop_eq_nil_of_le (by rw [QAq]; omega)
 have e:QCa tblC [64,35,61,37] = tblP:=rfl
 rw [e]
 simp +decide -dsimp -implicitDefEqProofs [go_sem,QAq,QGZ,QAl,t1,t2,QAa]

def QG8 (s:List UInt8):Bool:=decide (s ≠ []) && !decide (s = [46] ∨ s = [46,46]) && s.all fun c=>decide (c ∈ QMW)
def QDs (s:List UInt8):Bool:=decide (s.length ≤ 256) && (QCl s 47).all QG8

theorem QYL (s:List UInt8) (hl:s.length < 1000000000):ACalls Tryz.prog 81 [.agg (bB tblP),.str s] [] (.bool (s.all fun c=>decide (c ∈ QMW))) []:=by
 have:=QSI tblP s QGZ hl
 simp only [QU6] at this
 exact this

theorem QU8 (s:List UInt8) (hl:s.length < 1000000000) (H:List AObj) (H2:List AObj) (hH:H = .box 123 (bB tblP) :: H2) (hs:QI3 H):ACalls Tryz.prog 169 [.str s,.ptr 0 0] H (.bool (QG8 s)) H:=by
 refine QAH cqq rfl ?_
 unfold QG8
 have h0:H[0]? = some (.box 123 (bB tblP)):=by rw [hH]; rfl
 have t1:∀ bs:List Bool,bs.length = 256 → (bB bs).take 256 = bB bs:=fun bs h=>QEh bs 256 (by omega)
 by_cases he:s = []
 ·subst he; simp +decide -dsimp -implicitDefEqProofs [go_sem]; exact hs
 simp +decide -dsimp -implicitDefEqProofs [go_sem,he]
 refine QAA (QTU s) rfl rfl ?_
 by_cases h3:s = [46]
 ·subst h3; simp +decide -dsimp -implicitDefEqProofs [go_sem]; exact hs
 by_cases h4:s = [46,46]
 ·subst h4; simp +decide -dsimp -implicitDefEqProofs [go_sem]; exact hs
 simp +decide -dsimp -implicitDefEqProofs [go_sem,he,h3,h4,h0,QGZ,t1]
 refine QAA (QYL s hl) (by simp [QAB,QAE,QBD]) rfl ?_
 simp +decide -dsimp -implicitDefEqProofs [go_sem,h3,h4]
 exact hs

theorem QYM (s:List UInt8) (hl:s.length < 1000000000):ACalls Tryz.prog 127 [.str s] [] (.bool (QDs s)) []:=by
 refine QAH c127_ok rfl ?_
 unfold c127 QDs
 rw [QZZ]
 have t1:∀ bs:List Bool,bs.length = 256 → (bB bs).take 256 = bB bs:=fun bs h=>QEh bs 256 (by omega)
 have t2:∀ bs:List Bool,bs.length = 256 → (bB bs).drop 256 = []:=fun bs h=>List.drop_eq_nil_of_le (by rw [QAq]; omega)
 refine gs ?_
 refine QAA QU7 rfl (QAw _ _) ?_
 by_cases h:s.length ≤ 256
 ·have h':(s.length:Int) ≤ 256:=by omega
  simp +decide -dsimp -implicitDefEqProofs [go_sem,QAq,QGZ,QAl,t2,h']
  refine QAA (QG7 s 47 (by omega)) rfl (by simp [QAE,QAF]) ?_
  refine gs ?_
  have hl2:=QCr s 47
  refine QDO (QU4 (QCl s 47) 169 [.ptr 0 0] [.box 123 (bB tblP)] QG8 (by omega) (fun n hn=>by simp [QAB,QAE]; exact hn) ⟨⟨rfl,QAa _ _ _⟩,trivial⟩ (fun _=>⟨⟨rfl,QAa _ _ _⟩,trivial⟩) (fun cs hcs=>⟨⟨rfl,QAa _ _ _⟩,⟨rfl,QFW hcs⟩,trivial⟩)
   (fun x hx=>QU8 x (by have:=QHa hx; omega) _ _ rfl ⟨⟨rfl,QAa _ _ _⟩,⟨rfl,QFW (by simp [QAB,QAE])⟩,trivial⟩)) ?_
  simp +decide -dsimp -implicitDefEqProofs [go_sem,h]
 ·have h':¬ (s.length:Int) ≤ 256:=by omega
  simp +decide -dsimp -implicitDefEqProofs [go_sem,QAq,QGZ,QAl,t2,h,h']

theorem QU9 (s:List UInt8) (hl:s.length < 1000000000):ACalls Tryz.prog 142 [.str s] [] (.bool (QDs s)) []:=by
 refine QAH cqq rfl ?_
 refine gs ?_
 refine QAA (QG7 s 47 (by omega)) rfl (by simp [QAE,QAF]) ?_
 refine gs ?_
 have hl2:=QCr s 47
 have hsm:∀ x ∈ QCl s 47,x.length ≤ s.length:=fun x hx=>QHa hx
 have hlb:QDs s = (decide (s.length ≤ 256) && (QCl s 47).all QG8):=rfl
 generalize hL:QCl s 47 = L at hl2 hsm hlb
 refine QAQ (S:=Nat) (fun i=>⟨tmps 43 [(0,.str s),(3,.imm (L.map QAT)),(4,.int .i64 i)],[]⟩) (fun i=>L.length - i) (fun i=>i ≤ L.length ∧ ∀ x ∈ L.take i,QG8 x = true) 0 (by simp) (QAC (by simp) ?_) ?_
 ·simp +decide -dsimp -implicitDefEqProofs [go_sem]
 intro i hi
 by_cases h:i < L.length
 ·have w:IntKind.i64.wrap ((i:Int) + 1) = i + 1:=w64 (by omega) (by omega)
  have hxl:=hsm L[i] (List.getElem_mem h)
  have hbad:QG8 L[i] = false → QDs s = false:=fun e=>by
   rw [hlb,Bool.and_eq_false_iff]; right; rw [List.all_eq_false]; exact ⟨L[i],List.getElem_mem h,by simp [e]⟩
  have key:∀ x:List UInt8,x = L[i] → QG8 x = QG8 L[i]:=fun x e=>by rw [e]
  by_cases h1:L[i] = []
  ·have e:=hbad (by rw [h1]; rfl)
   simp +decide -dsimp -implicitDefEqProofs [go_sem,h,h1,e]
  by_cases h2:L[i] = [46]
  ·have e:=hbad (by rw [h2]; rfl)
   simp +decide -dsimp -implicitDefEqProofs [go_sem,h,h2,e]
  by_cases h3:L[i] = [46,46]
  ·have e:=hbad (by rw [h3]; rfl)
   simp +decide -dsimp -implicitDefEqProofs [go_sem,h,h3,e]
  simp +decide -dsimp -implicitDefEqProofs [go_sem,h,h1,h2,h3]
  refine QAA (QSJ L[i] QMW (by omega)) rfl rfl ?_
  have ec:QG8 L[i] = (L[i].all fun c=>decide (c ∈ QMW)):=by simp [QG8,h1,h2,h3]
  by_cases h4:(L[i].all fun c=>decide (c ∈ QMW)) = true
  ·simp +decide -dsimp -implicitDefEqProofs [go_sem,h3,h4,w]
   refine QAG (i + 1) ⟨by omega,fun x hx=>?_⟩ (by omega) (QAC (by simp) ?_)
   ·rw [List.take_succ_eq_append_getElem h] at hx
    rcases List.mem_append.1 hx with hx | hx
    ·exact hi.2 x hx
    ·simp at hx; subst hx; rw [ec,h4]
   simp +decide -dsimp -implicitDefEqProofs [go_sem]
  ·have e:=hbad (by rw [ec]; simpa using h4)
   simp +decide -dsimp -implicitDefEqProofs [go_sem,h3,h4,e]
 ·have e:i = L.length:=by omega
  have h2:=hi.2
  rw [e,List.take_length] at h2
  have h3:L.all QG8 = true:=List.all_eq_true.2 h2
  have e2:(decide ((s.length:Int) ≤ 256)) = decide (s.length ≤ 256):=by rw [decide_eq_decide]; omega
  simp +decide -dsimp -implicitDefEqProofs [go_sem,h,hlb,h3,e2]
end Go.Ab
namespace Go.Ab
open Go

def QZa (c:UInt8):List UInt8 → Option (List UInt8 × List UInt8)
 | []=>none
 | x :: r=>if x = c then some ([],r) else (QZa c r).map fun p=>(x :: p.1,p.2)
theorem QSM {c:UInt8} {t:List UInt8}:∀ {s:List UInt8},c ∉ s → QZa c (s ++ c :: t) = some (s,t)
 | [],_=>by simp [QZa]
 | x :: r,h=>by
  simp only [List.mem_cons,not_or] at h
  simp [QZa,QSM h.2,show ¬ x = c from fun e=>h.1 e.symm]
def QCF (c:UInt8):List UInt8 → List (List UInt8)
 | []=>[[]]
 | x :: r=>if x = c then [] :: QCF c r else (match QCF c r with | a :: l=>(x :: a) :: l | []=>[[x]])
theorem QE9 (c:UInt8):∀ s,QCF c s ≠ []
 | []=>by simp [QCF]
 | x :: r=>by
  unfold QCF; split
  ·simp
  ·split <;> simp
theorem QG9 {c:UInt8} {t:List UInt8}:∀ {s:List UInt8},c ∉ s → QCF c (s ++ c :: t) = s :: QCF c t
 | [],_=>by simp [QCF]
 | x :: r,h=>by
  simp only [List.mem_cons,not_or] at h
  simp [QCF,QG9 h.2,show ¬ x = c from fun e=>h.1 e.symm]
theorem QF4 {c:UInt8}:∀ {s:List UInt8},c ∉ s → QCF c s = [s]
 | [],_=>rfl
 | x :: r,h=>by
  simp only [List.mem_cons,not_or] at h
  simp [QCF,QF4 h.2,show ¬ x = c from fun e=>h.1 e.symm]
theorem QId (c:UInt8):∀ s:List UInt8,Lib.index s [c] = Lib.indexByte s c
 | []=>rfl
 | b :: l=>by
  unfold Lib.index Lib.indexByte
  rw [QId c l]
  by_cases h:b = c
  ·subst h; simp [List.isPrefixOf]
  ·have:¬ c = b:=fun e=>h e.symm
   simp [List.isPrefixOf,h,this]
theorem QGa (c:UInt8):∀ s:List UInt8,(Lib.indexByte s c = -1 ∧ c ∉ s) ∨ ∃ a b,s = a ++ c :: b ∧ c ∉ a ∧ Lib.indexByte s c = a.length
 | []=>.inl ⟨rfl,by simp⟩
 | x :: r=>by
  unfold Lib.indexByte
  by_cases h:x = c
  ·subst h; exact .inr ⟨[],r,rfl,by simp,by simp⟩
  ·have h':¬ c = x:=fun e=>h e.symm
   rcases QGa c r with ⟨h1,h2⟩ | ⟨a,b,h1,h2,h3⟩
   ·exact .inl ⟨by simp [h,h1],by simp [h2,h']⟩
   ·refine .inr ⟨x :: a,b,by rw [h1]; rfl,by simp [h2,h'],?_⟩
    have h4:¬ (a.length:Int) = -1:=by omega
    simp [h,h3,h4]
theorem QLY (c:UInt8):∀ (n:Nat) (s:List UInt8),s.length ≤ n → Lib.splitK [c] 0 (Lib.count s [c]) s = QCF c s
 | n,s,hn=>by
  rcases QGa c s with ⟨h1,h2⟩ | ⟨a,b,h1,h2,h3⟩
  ·have hi:Lib.index s [c] = -1:=by rw [QId,h1]
   rw [Lib.count_miss hi,QF4 h2]; rfl
  ·have hi:Lib.index s [c] = (a.length:Nat):=by rw [QId,h3]
   have hm:¬ (Lib.index s [c] == -1) = true:=fun e=>by have:=beq_iff_eq.1 e; omega
   rw [Lib.count_hit (by simp) hi,Nat.add_comm]
   unfold Lib.splitK
   rw [if_neg hm,hi]
   have e1:s.drop (a.length + [c].length) = b:=by rw [h1]; simp
   have e2:s.take a.length = a:=by rw [h1]; simp
   have e3:((a.length:Nat):Int).toNat = a.length:=by omega
   rw [e1,e3,Nat.add_zero,e2,e1]
   have hb:b.length < s.length:=by rw [h1]; simp; omega
   cases n with
   | zero=>omega
   | succ n=>
    rw [QLY c n b (by omega)]
    conv=>rhs; rw [h1]
    rw [QG9 h2]

/-! ### Numerals -/
end Go.Ab
namespace Go.Ab
open Go Go.Proofs Go.Sort
theorem QDt (s:List UInt8) (c:UInt8):QCl s c = QCF c s:=by
 have h:=Lib.splitB_data ⟨#[c]⟩ 0 (Lib.countB ⟨s.toArray⟩ ⟨#[c]⟩) ⟨s.toArray⟩
 have e:Lib.countB ⟨s.toArray⟩ ⟨#[c]⟩ = Lib.count s [c]:=by simp [Lib.countB]
 rw [QCl,h,e]
 exact QLY c _ s (Nat.le_refl _)
theorem QJV {c:UInt8} {B:Nat}:∀ {s:List UInt8},(∀ x ∈ QCF c s,x.length ≤ B) → s.length + 1 ≤ (QCF c s).length * (B + 1)
 | [],_=>by simp [QCF]
 | x :: r,h=>by
  unfold QCF at h ⊢
  split at h
  ·rename_i e
   rw [if_pos e]
   have:=QJV (c:=c) (s:=r) fun y hy=>h y (by simp [hy])
   simp only [List.length_cons,Nat.add_mul]; omega
  ·rename_i e
   rw [if_neg e]
   split at h
   ·rename_i a l hl
    have h1:=h (x :: a) (by simp)
    have key:∀ (s:List UInt8) (a:List UInt8) (l:List (List UInt8)),QCF c s = a :: l → (∀ y ∈ l,y.length ≤ B) → s.length ≤ a.length + l.length * (B + 1):=by
     intro s
     induction s with
     | nil=>intro a l hs _; simp
     | cons y s ih=>
      intro a l hs hall
      unfold QCF at hs
      split at hs
      ·simp only [List.cons.injEq] at hs
       obtain ⟨rfl,rfl⟩:=hs
       obtain ⟨a',l',hs'⟩:=List.exists_cons_of_ne_nil (QE9 c s)
       rw [hs'] at hall
       have:=ih a' l' hs' fun y hy=>hall y (by simp [hy])
       have h2:=hall a' (by simp)
       rw [hs']
       simp only [List.length_cons,List.length_nil,Nat.add_mul]; omega
      ·split at hs
       ·rename_i a' l' hs'
        simp only [List.cons.injEq] at hs
        obtain ⟨rfl,rfl⟩:=hs
        have:=ih a' l' hs' hall
        simp only [List.length_cons]; omega
       ·rename_i hs'; exact absurd hs' (QE9 c s)
    have:=key r a l hl fun y hy=>h y (by simp [hy])
    simp only [List.length_cons,Nat.add_mul] at h1 ⊢; omega
   ·rename_i hl; exact absurd hl (QE9 c r)
theorem QCv {s:List UInt8} (h:QAe s = true):s.length ≤ 32:=by
 unfold QAe at h
 simp only [Bool.and_eq_true,decide_eq_true_eq] at h
 exact h.1.1.2
theorem QBV {s:List UInt8} (h:QAf s = true):s.length ≤ 240:=by
 unfold QAf at h
 split at h
 ·rename_i l hl
  simp only [decide_eq_true_eq] at h
  unfold QCm at hl
  split at hl
  ·cases hl
  ·rename_i c r
   split at hl
   ·rename_i hc
    simp only [Option.some.injEq] at hl
    have h2:=List.all_eq_true.1 hc.2
    rw [hl] at h2
    rw [QDt] at hl
    have:=QJV (c:=47) (B:=32) (s:=r) fun x hx=>QCv (h2 x (hl ▸ hx))
    rw [hl] at this
    have h3:l.length * 33 ≤ 7 * 33:=Nat.mul_le_mul_right _ h
    simp only [List.length_cons]; omega
   ·cases hl
 ·cases h
end Go.Ab
namespace Go.Ab
open Go Go.Proofs
def QKP (a b:List UInt8):Int:=if a < b then -1 else if a = b then 0 else 1
def QGq:List (List UInt8) → List (List UInt8) → Int
 | [],[]=>0
 | [],_ :: _=>-1
 | _ :: _,[]=>1
 | x :: r,y :: s=>if QKP x y = 0 then QGq r s else QKP x y
theorem QQG (a:List UInt8):ACalls Tryz.prog 194 [.str a] [] (.bool false) []:=by
 refine QAH c194_ok rfl ?_
 unfold c194
 simp +decide -dsimp -implicitDefEqProofs [go_sem]
theorem QYN (a b:List UInt8):ACalls Tryz.prog 173 [.str a,.str b] [] (.int .i64 (QKP a b)) []:=by
 have e:Op.bytesLess a b = decide (a < b):=bytesLess_eq a b
 refine QAH cqq rfl ?_
 refine gs ?_
 refine QAA (QQG a) rfl rfl ?_
 refine gs ?_
 refine QAA (QQG b) rfl rfl ?_
 by_cases h:a < b
 ·simp +decide -dsimp -implicitDefEqProofs [go_sem,e,h,QKP]
 ·by_cases h2:a = b
  ·subst h2
   simp +decide -dsimp -implicitDefEqProofs [go_sem,e,h,QKP]
  ·simp +decide -dsimp -implicitDefEqProofs [go_sem,e,h,h2,QKP]
theorem QVA (l m:List (List UInt8)) (hl:l.length < 1000000) (_hm:m.length < 1000000):ACalls Tryz.prog 135 [.imm (l.map QAT),.imm (m.map QAT)] [] (.int .i64 (QGq l m)) []:=by
 refine QAH cqq rfl ?_
 refine gs ?_
 refine QAQ (S:=Nat) (fun i=>⟨tmps 36 [(0,.imm (l.map QAT)),(1,.imm (m.map QAT)),(9,.imm (l.map QAT)),(10,.int .i64 l.length),(11,.int .i64 i)],[]⟩) (fun i=>l.length - i)
  (fun i=>i ≤ l.length ∧ i ≤ m.length ∧ QGq l m = QGq (l.drop i) (m.drop i)) 0 (by simp) (QAC (by simp) ?_) ?_
 ·simp +decide -dsimp -implicitDefEqProofs [go_sem]
 rintro i ⟨hi,hj,hc⟩
 by_cases h:i < l.length
 ·have hdl:l.drop i = l[i] :: l.drop (i + 1):=List.drop_eq_getElem_cons h
  have w:IntKind.i64.wrap ((i:Int) + 1) = i + 1:=w64 (by omega) (by omega)
  by_cases h2:i < m.length
  ·have hdm:m.drop i = m[i] :: m.drop (i + 1):=List.drop_eq_getElem_cons h2
   have h3:¬ m.length ≤ i:=by omega
   rw [hdl,hdm,QGq] at hc
   have cs:=QYN l[i] m[i]
   simp +decide -dsimp -implicitDefEqProofs [go_sem,h,h2,h3]
   refine QAA cs rfl rfl ?_
   by_cases h0:QKP l[i] m[i] = 0
   ·rw [if_pos h0] at hc
    simp +decide -dsimp -implicitDefEqProofs [go_sem,h0,w]
    refine QAG (i + 1) ⟨by omega,by omega,hc⟩ (by show l.length - (i + 1) < l.length - i; omega) (QAC (by simp) ?_)
    simp +decide -dsimp -implicitDefEqProofs [go_sem]
   ·rw [if_neg h0] at hc
    simp +decide -dsimp -implicitDefEqProofs [go_sem,h0,hc]
  ·have h3:m.length ≤ i:=by omega
   have hdm:m.drop i = []:=List.drop_eq_nil_of_le h3
   rw [hdl,hdm,QGq] at hc
   simp +decide -dsimp -implicitDefEqProofs [go_sem,h,h3,hc]
 ·have e:i = l.length:=by omega
  subst e
  rw [List.drop_length] at hc
  by_cases h2:l.length < m.length
  ·have hdm:m.drop l.length = m[l.length] :: m.drop (l.length + 1):=List.drop_eq_getElem_cons h2
   rw [hdm,QGq] at hc
   simp +decide -dsimp -implicitDefEqProofs [go_sem,h2,hc]
  ·have hdm:m.drop l.length = []:=List.drop_eq_nil_of_le (by omega)
   rw [hdm,QGq] at hc
   simp +decide -dsimp -implicitDefEqProofs [go_sem,h2,hc]
def QAZ (p:List UInt8):List (List UInt8):=(QCm p).getD []
def QFA (a b:List UInt8):Int:=QGq (QAZ a) (QAZ b)
theorem QBW {p:List UInt8} (h:QAf p = true):QCm p = some (QAZ p) ∧ (QAZ p).length ≤ 7:=by
 unfold QAf at h
 unfold QAZ
 cases e:QCm p with
 | none=>rw [e] at h; cases h
 | some l=>rw [e] at h; exact ⟨rfl,by simpa using h⟩
theorem QOR (a b:List UInt8) (ha:QAf a = true) (hb:QAf b = true):ACalls Tryz.prog 95 [.str a,.str b] [] (.tup [.int .i64 (QFA a b),.int .i64 0]) []:=by
 obtain ⟨ea,la⟩:=QBW ha
 obtain ⟨eb,lb⟩:=QBW hb
 have ca:=QFX a (by have:=QBV ha; omega)
 have cb:=QFX b (by have:=QBV hb; omega)
 rw [ea] at ca
 rw [eb] at cb
 have cc:=QVA (QAZ a) (QAZ b) (by omega) (by omega)
 refine QAH cqq rfl ?_
 refine gs ?_
 refine QAA ca rfl (by simp +decide -dsimp -implicitDefEqProofs [go_sem]) ?_
 refine gs ?_
 refine QAA cb rfl (by simp +decide -dsimp -implicitDefEqProofs [go_sem]) ?_
 refine gs ?_
 refine QAA cc (by simp +decide -dsimp -implicitDefEqProofs [go_sem]) rfl ?_
 simp +decide -dsimp -implicitDefEqProofs [go_sem,QFA]
end Go.Ab
namespace Go.Ab
open Go Go.Proofs Go.Sort
def QBm:List (List UInt8) → List UInt8
 | []=>[]
 | x :: r=>47 :: (x ++ QBm r)
theorem QJW:∀ s:List UInt8,QBm (QCF 47 s) = 47 :: s
 | []=>rfl
 | x :: r=>by
  have ih:=QJW r
  unfold QCF
  by_cases h:x = 47
  ·subst h; rw [if_pos rfl,QBm,ih]; rfl
  ·rw [if_neg h]
   have hne:=QE9 47 r
   cases e:QCF 47 r with
   | nil=>exact absurd e hne
   | cons a l=>
    rw [e] at ih
    simp only [QBm,List.cons.injEq,true_and] at ih ⊢
    rw [← ih]; rfl
theorem QHA {p:List UInt8} {l:List (List UInt8)} (h:QCm p = some l):p = QBm l:=by
 cases p with
 | nil=>cases h
 | cons c r=>
  simp only [QCm] at h
  split at h
  ·rename_i h2
   obtain ⟨rfl,_⟩:=h2
   cases h
   rw [QDt,QJW]
  ·cases h
theorem QVB (a b:List UInt8):QKP a b < 0 ↔ a < b:=by
 unfold QKP
 by_cases h:a < b
 ·simp [h]
 ·by_cases h2:a = b
  ·subst h2; simp [h]
  ·simp [h,h2]
theorem QF5 (a b:List UInt8):QKP a b = 0 ↔ a = b:=by
 unfold QKP
 by_cases h:a < b
 ·have:a ≠ b:=fun e=>by subst e; exact List.lt_irrefl _ h
  simp [h,this]
 ·by_cases h2:a = b
  ·subst h2; simp [h]
  ·simp [h,h2]
theorem QVC:∀ (l m:List (List UInt8)),QGq l m = 0 ↔ l = m
 | [],[]=>by simp [QGq]
 | [],_ :: _=>by simp [QGq]
 | _ :: _,[]=>by simp [QGq]
 | x :: r,y :: s=>by
  rw [QGq]
  by_cases h:QKP x y = 0
  ·rw [if_pos h,QVC r s]
   rw [QF5] at h
   simp [h]
  ·rw [if_neg h]
   have h2:x ≠ y:=fun e=>h ((QF5 x y).2 e)
   simp [h,h2]
theorem QHB:∀ (l m:List (List UInt8)),QGq l m < 0 ↔ l < m
 | [],[]=>by simp [QGq]
 | [],_ :: _=>by simp [QGq]
 | _ :: _,[]=>by simp [QGq]
 | x :: r,y :: s=>by
  rw [QGq,List.cons_lt_cons_iff]
  by_cases h:QKP x y = 0
  ·rw [if_pos h,QHB r s]
   rw [QF5] at h
   subst h
   simp [List.lt_irrefl]
  ·rw [if_neg h,QVB]
   have h2:x ≠ y:=fun e=>h ((QF5 x y).2 e)
   simp [h2]
theorem QLZ {p q:List UInt8} (hp:QAf p = true) (hq:QAf q = true) (h:QAZ p = QAZ q):p = q:=by
 have h1:=QHA (QBW hp).1
 have h2:=QHA (QBW hq).1
 rw [h1,h2,h]
def ltP (p q:List UInt8):Bool:=decide (QFA p q < 0)
theorem swo_ltP:SWO ltP where
 irrefl x:=by simp [ltP,QFA,QHB,List.lt_irrefl]
 trans x y z h1 h2:=by simp only [ltP,QFA,QHB,decide_eq_true_eq] at *; exact List.lt_trans h1 h2
 ntrans x y z h1 h2:=by
  simp only [ltP,QFA,QHB,decide_eq_false_iff_not,List.not_lt] at *
  exact List.le_trans h2 h1
theorem QLa {p q:List UInt8} (hp:QAf p = true) (hq:QAf q = true) (h1:¬ QFA p q < 0) (h2:¬ QFA q p < 0):p = q:=by
 simp only [QFA,QHB,List.not_lt] at h1 h2
 exact QLZ hp hq (List.le_antisymm h2 h1)
theorem QMX {α:Type} {R:α → α → Prop} (ha:∀ a b,R a b → ¬ R b a):∀ {l l':List α},l.Pairwise R → l'.Pairwise R → (∀ x,x ∈ l ↔ x ∈ l') → l = l'
 | [],[],_,_,_=>rfl
 | [],b :: l',_,_,h=>absurd ((h b).2 (List.mem_cons_self ..)) (by simp)
 | a :: l,[],_,_,h=>absurd ((h a).1 (List.mem_cons_self ..)) (by simp)
 | a :: l,b :: l',h1,h2,h=>by
  rw [List.pairwise_cons] at h1 h2
  have e:a = b:=by
   rcases List.mem_cons.1 ((h a).1 (List.mem_cons_self ..)) with e | e
   ·exact e
   ·rcases List.mem_cons.1 ((h b).2 (List.mem_cons_self ..)) with e2 | e2
    ·exact e2.symm
    ·exact absurd (h1.1 b e2) (ha _ _ (h2.1 a e))
  subst e
  have na:∀ {m:List α},(∀ x ∈ m,R a x) → a ∉ m:=fun hm hx=>ha _ _ (hm a hx) (hm a hx)
  have n1:=na h1.1
  have n2:=na h2.1
  rw [QMX ha h1.2 h2.2 fun x=>⟨fun hx=>?_,fun hx=>?_⟩]
  ·rcases List.mem_cons.1 ((h x).1 (List.mem_cons_of_mem _ hx)) with rfl | h3
   ·exact absurd hx n1
   ·exact h3
  ·rcases List.mem_cons.1 ((h x).2 (List.mem_cons_of_mem _ hx)) with rfl | h3
   ·exact absurd hx n2
   ·exact h3
end Go.Ab
