/- strings.Split, CutPrefix, HasPrefix, TrimPrefix, Contains. -/
import Derived.Test.YtpknaffdaemlbaaGreatDoorW1
import Derived.Lib.SplitLaws
import Derived.Lib.ItoaNum
set_option maxRecDepth 20000
namespace Go.Ab
open Go Go.Proofs

def QB9 (s:List UInt8) (c:UInt8):List (List UInt8):=(Lib.splitB ⟨#[c]⟩ 0 (Lib.countB ⟨s.toArray⟩ ⟨#[c]⟩) ⟨s.toArray⟩).map fun b=>b.data.toList

theorem QE8 (s:List UInt8) (c:UInt8) (hs:s.length < 4294967281):
  ACalls Tryz.prog 140 [.str s,.str [c]] [] (.imm ((QB9 s c).map QAf)) []:=by
 refine ⟨by kernel_rfl,fun cx vs hH hr hv=>?_⟩
 simp only [QAo,Val] at hv
 obtain ⟨v,vs',rfl,rfl,v2,vs2,rfl,rfl,rfl⟩:=hv
 obtain ⟨⟨m,hm⟩,_⟩:=hr.gl
 refine (Tryz.strings_Split ⟨s.toArray⟩ ⟨#[c]⟩ m cx.w hs hm (Nat.le_refl 1)).mono fun e w' hq=>?_
 obtain ⟨rfl,rfl⟩:=hq
 have hlen:=Lib.splitB_all ⟨#[c]⟩ (Nat.le_refl 1) 0 _ ⟨s.toArray⟩ rfl
 generalize hL:Lib.splitB ⟨#[c]⟩ 0 (Lib.countB ⟨s.toArray⟩ ⟨#[c]⟩) ⟨s.toArray⟩ = L at hlen
 generalize Lib.countB ⟨s.toArray⟩ ⟨#[c]⟩ = n at hlen
 have hN:=QEm hr (F':=fun b=>cx.F b ∨ b = cx.w.heap.size) (w':=cx.w.alloc (.cells (L.map Value.string).toArray 9)) (fun b h=>.inl h) (fun b h=>h.imp id fun h=>⟨by omega,by simp; omega⟩) (fun b hb=>QCm cx.w _ b hb) (by simp) rfl rfl rfl
 refine ⟨_,⟨fun b=>cx.F b ∨ b = cx.w.heap.size,cx.μ,cx.H,_⟩,rfl,rfl,hH,hN.1,hN.2,?_⟩
 have e:(QB9 s c).map QAf = L.map fun b=>QAf b.data.toList:=by rw [QB9,hL,List.map_map]; rfl
 rw [e]
 simp only [Val,List.length_map]
 refine .inl ⟨cx.w.heap.size,0,n + 1,1,by rw [hlen],.inr rfl,by omega,?_⟩
 rw [QA7]
 intro j r hj
 rw [List.getElem?_map] at hj
 cases h:L[j]? with
 | none=>simp [h] at hj
 | some y=>
  simp [h] at hj
  subst hj
  refine ⟨rfl,?_⟩
  simp only [QAf,QA6,Val,and_true]
  refine ⟨_,?_,rfl,rfl⟩
  rw [Nat.mul_one,Nat.zero_add]
  show (cx.w.alloc _).cell? _ = _
  rw [World.cell?_alloc_new]
  simp [h]

theorem QBk (s:List UInt8) (c:UInt8):(QB9 s c).length ≤ s.length + 1:=by
 have hlen:=Lib.splitB_all ⟨#[c]⟩ (Nat.le_refl 1) 0 _ ⟨s.toArray⟩ rfl
 have h2:=Lib.countB_le ⟨#[c]⟩ (Nat.le_refl 1) _ ⟨s.toArray⟩ (Nat.le_refl _)
 have h3:(ByteArray.mk s.toArray).size = s.length:=rfl
 rw [QB9,List.length_map,hlen]; omega

theorem QGb (sep:ByteArray) (n:Nat):∀ (k:Nat) (s:ByteArray),s.size ≤ n → ∀ x ∈ Lib.splitB sep 0 k s,x.size ≤ n
 | 0,s,h,x,hx=>by simp [Lib.splitB] at hx; subst hx; exact h
 | k + 1,s,h,x,hx=>by
  unfold Lib.splitB at hx
  split at hx
  ·simp at hx; subst hx; exact h
  ·rcases List.mem_cons.1 hx with rfl | hx
   ·rw [ByteArray.size_extract]; omega
   ·exact QGb sep n k _ (by rw [ByteArray.size_extract]; omega) x hx
theorem QEa {s:List UInt8} {c:UInt8} {x:List UInt8} (h:x ∈ QB9 s c):x.length ≤ s.length:=by
 obtain ⟨y,hy,rfl⟩:=List.mem_map.1 h
 exact QGb _ s.length _ ⟨s.toArray⟩ (Nat.le_refl _) y hy

theorem QKD (s p:List UInt8) (_hl:p.length < 9223372036854775807):ACalls Tryz.prog 91 [.str s,.str p] [] (.bool (p.isPrefixOf s)) []:=by
 refine QAF c91_ok rfl ?_
 unfold c91
 by_cases h:p.length ≤ s.length
 ·have h':(p.length:Int) ≤ s.length:=by omega
  have e:(s.take p.length == p) = p.isPrefixOf s:=by
   rw [Bool.eq_iff_iff,beq_iff_eq,List.isPrefixOf_iff_prefix,List.prefix_iff_eq_take]
   exact eq_comm
  simp +decide -dsimp -implicitDefEqProofs [go_sem,h,h',e]
 ·have h':¬ (p.length:Int) ≤ s.length:=by omega
  have e:p.isPrefixOf s = false:=by
   rw [Bool.eq_false_iff]; intro hp; rw [List.isPrefixOf_iff_prefix] at hp
   exact h hp.length_le
  simp +decide -dsimp -implicitDefEqProofs [go_sem,h',e]

def QHR (s p:List UInt8):List UInt8:=if p.isPrefixOf s then s.drop p.length else s
theorem QE9 (s p:List UInt8) (hl:p.length < 9223372036854775807):ACalls Tryz.prog 139 [.str s,.str p] [] (.tup [.str (QHR s p),.bool (p.isPrefixOf s)]) []:=by
 have h108:ACalls Tryz.prog 175 [.str s,.str p] [] (.tup [.str (QHR s p),.bool (p.isPrefixOf s)]) []:=by
  refine QAF c175_ok rfl ?_
  unfold c175 QHR
  simp +decide -dsimp -implicitDefEqProofs [go_sem]
  refine QAA (QKD s p hl) rfl rfl ?_
  by_cases h:p.isPrefixOf s = true
  ·have h2:p.length ≤ s.length:=(List.isPrefixOf_iff_prefix.1 h).length_le
   simp +decide -dsimp -implicitDefEqProofs [go_sem,h,h2]
   intro hn; exact absurd (List.isPrefixOf_iff_prefix.1 h) hn
  ·simp +decide -dsimp -implicitDefEqProofs [go_sem,h]
   intro hn; exact absurd (List.isPrefixOf_iff_prefix.2 hn) h
 refine QAF c139_ok rfl ?_
 unfold c139
 simp +decide -dsimp -implicitDefEqProofs [go_sem]
 refine QAA h108 rfl rfl ?_
 simp +decide -dsimp -implicitDefEqProofs [go_sem]

theorem QFh {H:List AObj} {m:Nat}:∀ {l:List AV},QAS m l = true → cvT H m l l
 | [],_=>trivial
 | x :: xs,h=>by
  simp only [QAS,Bool.and_eq_true] at h
  exact ⟨.inr (.inl ⟨rfl,h.1⟩),QFh h.2⟩

def QCf (s:List UInt8):Option (List (List UInt8)):=
 match s with
 | []=>none
 | c :: r=>if c = 47 ∧ ((QB9 r 47).all QAi) = true then some (QB9 r 47) else none

theorem QI2 (s:List UInt8) (hs:s.length < 100000000):ACalls Tryz.prog 96 [.str s] [] (match QCf s with | some l=>.tup [.imm (l.map QAf),.int .i64 0] | none=>.tup [.imm [],.int .i64 10]) []:=by
 refine QAF c96_ok rfl ?_
 unfold c96
 simp +decide -dsimp -implicitDefEqProofs [go_sem]
 refine QAA (QE9 s [47] (by decide)) rfl rfl ?_
 have hlt:(QHR s [47]).length ≤ s.length:=by unfold QHR; split <;> simp
 simp +decide -dsimp -implicitDefEqProofs [go_sem]
 have hl2:=QBk (QHR s [47]) 47
 refine QAA (QE8 (QHR s [47]) 47 (by omega)) rfl (by simp [QAM,QBp]) ?_
 by_cases hp:([47]:List UInt8).isPrefixOf s = true
 ·obtain ⟨r,rfl⟩:∃ r,s = 47 :: r:=by
   cases s with
   | nil=>simp at hp
   | cons c r=>simp at hp; exact ⟨r,by rw [hp]⟩
  have e:QHR (47 :: r) [47] = r:=by simp [QHR]
  rw [e]
  simp +decide -dsimp -implicitDefEqProofs [go_sem]
  refine QBi (all_c (QB9 r 47) 105 [] [] QAi (by rw [e] at hl2; simp only [List.length_cons] at hs; omega) (fun _ _=>rfl) (by simp [QJo,cvH]) (fun _=>by simp [cvH]) (fun cs h=>⟨⟨rfl,QFh h⟩,trivial⟩) (fun x _=>(QDy x).pure _ rfl rfl)) ?_
  by_cases hv:((QB9 r 47).all QAi) = true
  ·simp +decide -dsimp -implicitDefEqProofs [go_sem,hv,QCf]
  ·simp +decide -dsimp -implicitDefEqProofs [go_sem,hv,QCf]
 ·have e:QCf s = none:=by
   cases s with
   | nil=>rfl
   | cons c r=>simp at hp; simp [QCf]; intro h; exact absurd h.symm hp
  simp +decide -dsimp -implicitDefEqProofs [go_sem,hp,e]
end Go.Ab
namespace Go.Ab
open Go Go.Proofs

def QAd (s:List UInt8):Bool:=match QCf s with | some l=>decide (l.length ≤ 7) | none=>false

theorem QL6 (s:List UInt8) (hs:s.length < 100000000):ACalls Tryz.prog 67 [.str s] [] (.bool (QAd s)) []:=by
 refine QAF c67_ok rfl ?_
 unfold c67
 have h:=QI2 s hs
 simp +decide -dsimp -implicitDefEqProofs [go_sem]
 refine QAA h rfl (by cases QCf s <;> simp [QAM,QAS,QAV,QBp]) ?_
 cases e:QCf s with
 | none=>simp +decide -dsimp -implicitDefEqProofs [go_sem,QAd,e]
 | some l=>
  have e2:(decide ((l.length:Int) ≤ 7)) = decide (l.length ≤ 7):=by rw [decide_eq_decide]; omega
  simp +decide -dsimp -implicitDefEqProofs [go_sem,QAd,e,e2]

theorem QPl (s:List UInt8) (hs:s.length < 100000000):ACalls Tryz.prog 155 [.str s] [] (match QCf s with | some l=>.tup [.imm (l.map QAf),.bool true] | none=>.tup [.imm [],.bool false]) []:=by
 refine QAF c155_ok rfl ?_
 unfold c155
 cases s with
 | nil=>simp +decide -dsimp -implicitDefEqProofs [go_sem,QCf]
 | cons c r=>
  by_cases hc:c = 47
  ·subst hc
   have hl2:=QBk r 47
   simp only [List.length_cons] at hs
   simp +decide -dsimp -implicitDefEqProofs [go_sem]
   refine QAA (QE8 r 47 (by omega)) rfl (by simp [QAM,QBp]) ?_
   simp +decide -dsimp -implicitDefEqProofs [go_sem]
   generalize hL:QB9 r 47 = L at hl2
   refine QAR (S:=Nat) (fun i=>⟨tmps 29 [(4,.imm (L.map QAf)),(5,.int .i64 i)],[]⟩) (fun i=>L.length - i) (fun i=>i ≤ L.length ∧ ∀ x ∈ L.take i,QAi x = true) 0 (by simp) (QAD (by simp) ?_) ?_
   ·simp +decide -dsimp -implicitDefEqProofs [go_sem]
   intro i hi
   by_cases h:i < L.length
   ·have w:IntKind.i64.wrap ((i:Int) + 1) = i + 1:=w64 (by omega) (by omega)
    simp +decide -dsimp -implicitDefEqProofs [go_sem,h]
    refine QAA (QFP L[i]) rfl rfl ?_
    by_cases hv:QAi L[i] = true
    ·simp +decide -dsimp -implicitDefEqProofs [go_sem,hv,w]
     refine QAI (i + 1) ⟨by omega,fun x hx=>?_⟩ (by omega) (QAD (by simp) ?_)
     ·rw [List.take_succ_eq_append_getElem h] at hx
      rcases List.mem_append.1 hx with hx | hx
      ·exact hi.2 x hx
      ·simp at hx; subst hx; exact hv
     simp +decide -dsimp -implicitDefEqProofs [go_sem]
    ·have e:QCf (47 :: r) = none:=by
      simp only [QCf,hL]
      rw [if_neg]
      rintro ⟨_,h3⟩
      exact hv (List.all_eq_true.1 h3 _ (List.getElem_mem h))
     simp +decide -dsimp -implicitDefEqProofs [go_sem,hv,e]
   ·have e:i = L.length:=by omega
    have h2:=hi.2
    rw [e,List.take_length] at h2
    have e2:QCf (47 :: r) = some L:=by
     simp only [QCf,hL]
     rw [if_pos ⟨trivial,List.all_eq_true.2 h2⟩]
    simp +decide -dsimp -implicitDefEqProofs [go_sem,h,e2]
  ·have e:QCf (c :: r) = none:=by simp [QCf,hc]
   have hc':¬ ((c.toNat:Int) = 47):=fun h=>hc (UInt8.toNat_inj.1 (by simpa using (by omega:c.toNat = 47)))
   simp +decide -dsimp -implicitDefEqProofs [go_sem,e,hc']

theorem QL7 (s:List UInt8) (hs:s.length < 100000000):ACalls Tryz.prog 116 [.str s] [] (.bool (QAd s)) []:=by
 refine QAF c116_ok rfl ?_
 unfold c116
 have h:=QPl s hs
 simp +decide -dsimp -implicitDefEqProofs [go_sem]
 refine QAA h rfl (by cases QCf s <;> simp [QAM,QAS,QAV,QBp]) ?_
 cases e:QCf s with
 | none=>simp +decide -dsimp -implicitDefEqProofs [go_sem,QAd,e]
 | some l=>
  have e2:(decide ((l.length:Int) ≤ 7)) = decide (l.length ≤ 7):=by rw [decide_eq_decide]; omega
  simp +decide -dsimp -implicitDefEqProofs [go_sem,QAd,e,e2]
end Go.Ab
namespace Go.Ab
open Go Go.Proofs
def tblP:List Bool:=QB3 tblC [64,35,61,37]
theorem QFi:tblP.length = 256:=by simp only [tblP,QA0,QDx]
def QKE:List UInt8:=[65,66,67,68,69,70,71,72,73,74,75,76,77,78,79,80,81,82,83,84,85,86,87,88,89,90,97,98,99,100,101,102,103,104,105,106,107,108,109,110,111,112,113,114,115,116,117,118,119,120,121,122,48,49,50,51,52,53,54,55,56,57,95,46,58,43,45,64,35,61,37]

theorem QSB (c:UInt8):tblP[c.toNat]?.getD false = decide (c ∈ QKE):=by
 rw [tblP,QCF _ _ _ QDx,tblC,QCF _ _ _ (by simp only [QA0,QAe]),QCF _ _ _ (by simp only [QA0,QAe]),QCF _ _ _ (by simp only [QA0,QAe]),QK5]
 simp only [Option.getD_some]
 have key:∀ n:Fin 256,(decide (UInt8.ofNat n ∈ QB8) || decide (UInt8.ofNat n ∈ Lib.toLowerA QB8) || decide (UInt8.ofNat n ∈ QDw) || decide (UInt8.ofNat n ∈ [95,46,58,43,45]) || decide (UInt8.ofNat n ∈ ([64,35,61,37]:List UInt8))) = decide (UInt8.ofNat n ∈ QKE):=by decide +kernel
 have:=key ⟨c.toNat,UInt8.toNat_lt c⟩
 simpa only [UInt8.ofNat_toNat] using this

theorem QSC:ACalls Tryz.prog 147 [] [] (.agg (bB tblP)) []:=by
 refine QAF c147_ok rfl ?_
 unfold c147
 rw [QWH]
 simp +decide -dsimp -implicitDefEqProofs [go_sem]
 refine QAA QLq rfl (QA1 _ _) ?_
 simp +decide -dsimp -implicitDefEqProofs [go_sem]
 refine QAA (QEx tblC [64,35,61,37] QDx (by decide)) (by simp [QAS,QBN,QAM]) (QA1 _ _) ?_
 change cbv _ _ _
 have t1:∀ bs:List Bool,bs.length = 256 → (bB bs).take 256 = bB bs:=fun bs h=>QHB bs 256 (by omega)
 have t2:∀ bs:List Bool,bs.length = 256 → (bB bs).drop 256 = []:=fun bs h=>List.drop_eq_nil_of_le (by rw [QEF]; omega)
 have e:QB3 tblC [64,35,61,37] = tblP:=rfl
 rw [e]
 simp +decide -dsimp -implicitDefEqProofs [go_sem,QEF,QFi,QAe,t1,t2,QEM]

def QFj (s:List UInt8):Bool:=decide (s ≠ []) && !decide (s = [46] ∨ s = [46,46]) && s.all fun c=>decide (c ∈ QKE)
def QCw (s:List UInt8):Bool:=decide (s.length ≤ 256) && (QB9 s 47).all QFj

theorem QUS (s:List UInt8) (hl:s.length < 1000000000):ACalls Tryz.prog 144 [.agg (bB tblP),.str s] [] (.bool (s.all fun c=>decide (c ∈ QKE))) []:=by
 have:=QPQ tblP s QFi hl
 simp only [QSB] at this
 exact this

theorem QSD (s:List UInt8) (hl:s.length < 1000000000) (H:List AObj) (H2:List AObj) (hH:H = .box 194 (bB tblP) :: H2) (hs:QJo H):ACalls Tryz.prog 148 [.str s,.ptr 0 0] H (.bool (QFj s)) H:=by
 refine QAF c148_ok rfl ?_
 unfold c148 QFj
 have h0:H[0]? = some (.box 194 (bB tblP)):=by rw [hH]; rfl
 have t1:∀ bs:List Bool,bs.length = 256 → (bB bs).take 256 = bB bs:=fun bs h=>QHB bs 256 (by omega)
 by_cases he:s = []
 ·subst he; simp +decide -dsimp -implicitDefEqProofs [go_sem]; exact hs
 simp +decide -dsimp -implicitDefEqProofs [go_sem,he]
 refine QAA (QQw s) rfl rfl ?_
 by_cases h3:s = [46]
 ·subst h3; simp +decide -dsimp -implicitDefEqProofs [go_sem]; exact hs
 by_cases h4:s = [46,46]
 ·subst h4; simp +decide -dsimp -implicitDefEqProofs [go_sem]; exact hs
 simp +decide -dsimp -implicitDefEqProofs [go_sem,he,h3,h4,h0,QFi,t1]
 refine QAA (QUS s hl) (by simp [QAS,QAM,QBN]) rfl ?_
 simp +decide -dsimp -implicitDefEqProofs [go_sem,h3,h4]
 exact hs

theorem QUT (s:List UInt8) (hl:s.length < 1000000000):ACalls Tryz.prog 106 [.str s] [] (.bool (QCw s)) []:=by
 refine QAF c106_ok rfl ?_
 unfold c106 QCw
 rw [QWH]
 have t1:∀ bs:List Bool,bs.length = 256 → (bB bs).take 256 = bB bs:=fun bs h=>QHB bs 256 (by omega)
 have t2:∀ bs:List Bool,bs.length = 256 → (bB bs).drop 256 = []:=fun bs h=>List.drop_eq_nil_of_le (by rw [QEF]; omega)
 simp +decide -dsimp -implicitDefEqProofs [go_sem]
 refine QAA QSC rfl (QA1 _ _) ?_
 by_cases h:s.length ≤ 256
 ·have h':(s.length:Int) ≤ 256:=by omega
  simp +decide -dsimp -implicitDefEqProofs [go_sem,QEF,QFi,QAe,t2,h']
  refine QAA (QE8 s 47 (by omega)) rfl (by simp [QAM,QBp]) ?_
  simp +decide -dsimp -implicitDefEqProofs [go_sem]
  have hl2:=QBk s 47
  refine QBi (all_c (QB9 s 47) 148 [.ptr 0 0] [.box 194 (bB tblP)] QFj (by omega) (fun n hn=>by simp [QAS,QAM]; exact hn) ⟨⟨rfl,QEM _ _ _⟩,trivial⟩ (fun _=>⟨⟨rfl,QEM _ _ _⟩,trivial⟩) (fun cs hcs=>⟨⟨rfl,QEM _ _ _⟩,⟨rfl,QFh hcs⟩,trivial⟩)
   (fun x hx=>QSD x (by have:=QEa hx; omega) _ _ rfl ⟨⟨rfl,QEM _ _ _⟩,⟨rfl,QFh (by simp [QAS,QAM])⟩,trivial⟩)) ?_
  simp +decide -dsimp -implicitDefEqProofs [go_sem,h]
 ·have h':¬ (s.length:Int) ≤ 256:=by omega
  simp +decide -dsimp -implicitDefEqProofs [go_sem,QEF,QFi,QAe,t2,h,h']

theorem QSE (s:List UInt8) (hl:s.length < 1000000000):ACalls Tryz.prog 189 [.str s] [] (.bool (QCw s)) []:=by
 refine QAF c189_ok rfl ?_
 unfold c189
 simp +decide -dsimp -implicitDefEqProofs [go_sem]
 refine QAA (QE8 s 47 (by omega)) rfl (by simp [QAM,QBp]) ?_
 simp +decide -dsimp -implicitDefEqProofs [go_sem]
 have hl2:=QBk s 47
 have hsm:∀ x ∈ QB9 s 47,x.length ≤ s.length:=fun x hx=>QEa hx
 have hlb:QCw s = (decide (s.length ≤ 256) && (QB9 s 47).all QFj):=rfl
 generalize hL:QB9 s 47 = L at hl2 hsm hlb
 refine QAR (S:=Nat) (fun i=>⟨tmps 43 [(0,.str s),(3,.imm (L.map QAf)),(4,.int .i64 i)],[]⟩) (fun i=>L.length - i) (fun i=>i ≤ L.length ∧ ∀ x ∈ L.take i,QFj x = true) 0 (by simp) (QAD (by simp) ?_) ?_
 ·simp +decide -dsimp -implicitDefEqProofs [go_sem]
 intro i hi
 by_cases h:i < L.length
 ·have w:IntKind.i64.wrap ((i:Int) + 1) = i + 1:=w64 (by omega) (by omega)
  have hxl:=hsm L[i] (List.getElem_mem h)
  have hbad:QFj L[i] = false → QCw s = false:=fun e=>by
   rw [hlb,Bool.and_eq_false_iff]; right; rw [List.all_eq_false]; exact ⟨L[i],List.getElem_mem h,by simp [e]⟩
  have key:∀ x:List UInt8,x = L[i] → QFj x = QFj L[i]:=fun x e=>by rw [e]
  by_cases h1:L[i] = []
  ·have e:=hbad (by rw [h1]; rfl)
   simp +decide -dsimp -implicitDefEqProofs [go_sem,h,h1,e]
  by_cases h2:L[i] = [46]
  ·have e:=hbad (by rw [h2]; rfl)
   simp +decide -dsimp -implicitDefEqProofs [go_sem,h,h2,e]
  by_cases h3:L[i] = [46,46]
  ·have e:=hbad (by rw [h3]; rfl)
   simp +decide -dsimp -implicitDefEqProofs [go_sem,h,h3,e]
  simp +decide -dsimp -implicitDefEqProofs [go_sem,h,h1,h2,h3]
  refine QAA (QPR L[i] QKE (by omega)) rfl rfl ?_
  have ec:QFj L[i] = (L[i].all fun c=>decide (c ∈ QKE)):=by simp [QFj,h1,h2,h3]
  by_cases h4:(L[i].all fun c=>decide (c ∈ QKE)) = true
  ·simp +decide -dsimp -implicitDefEqProofs [go_sem,h3,h4,w]
   refine QAI (i + 1) ⟨by omega,fun x hx=>?_⟩ (by omega) (QAD (by simp) ?_)
   ·rw [List.take_succ_eq_append_getElem h] at hx
    rcases List.mem_append.1 hx with hx | hx
    ·exact hi.2 x hx
    ·simp at hx; subst hx; rw [ec,h4]
   simp +decide -dsimp -implicitDefEqProofs [go_sem]
  ·have e:=hbad (by rw [ec]; simpa using h4)
   simp +decide -dsimp -implicitDefEqProofs [go_sem,h3,h4,e]
 ·have e:i = L.length:=by omega
  have h2:=hi.2
  rw [e,List.take_length] at h2
  have h3:L.all QFj = true:=List.all_eq_true.2 h2
  have e2:(decide ((s.length:Int) ≤ 256)) = decide (s.length ≤ 256):=by rw [decide_eq_decide]; omega
  simp +decide -dsimp -implicitDefEqProofs [go_sem,h,hlb,h3,e2]
end Go.Ab
namespace Go.Ab
open Go Go.Proofs
def QCb (s:List UInt8):Bool:=QAi s && decide (s.length ≤ 15) && !(decide (58 ∈ s)) && !(decide (33 ∈ s))

theorem QEb (cs:List UInt8):∀ s:List UInt8,0 ≤ Lib.indexAny s cs ↔ ∃ x ∈ s,x ∈ cs
 | []=>by simp [Lib.indexAny]
 | b :: r=>by
  have ih:=QEb cs r
  have hge:=Lib.indexAny_ge cs r
  by_cases h:b ∈ cs
  ·simp [Lib.indexAny,h]
  ·by_cases h2:Lib.indexAny r cs = -1
   ·have:¬ ∃ x ∈ r,x ∈ cs:=fun e=>by have:=ih.2 e; omega
    simp only [not_exists,not_and] at this
    simp [Lib.indexAny,h,h2]
    exact this
   ·have h3:0 ≤ Lib.indexAny r cs:=by omega
    obtain ⟨x,hx,hc⟩:=ih.1 h3
    have h4:0 ≤ Lib.indexAny r cs + 1:=by omega
    simp [Lib.indexAny,h,h2,h4]
    exact ⟨x,hx,hc⟩
theorem QH8 (s cs:List UInt8):Lib.containsAny s cs = s.any fun c=>cs.contains c:=by
 unfold Lib.containsAny
 rw [Bool.eq_iff_iff,decide_eq_true_iff,QEb,List.any_eq_true]
 simp only [List.contains_iff_mem]

theorem QI3 (s cs:List UInt8) (hs:s.length < 1000000) (hc:cs.length < 1000000) (ha:∀ b ∈ s,b.toNat < 128) (hb:∀ b ∈ cs,b.toNat < 128):ACalls Tryz.prog 150 [.str s,.str cs] [] (.bool (s.any fun c=>cs.contains c)) []:=by
 refine .of_below (by kernel_rfl) fun c vs hv _=>?_
 simp only [QAo,Val] at hv
 obtain ⟨v,vs',rfl,rfl,v2,vs2,rfl,rfl,rfl⟩:=hv
 refine (Tryz.strings_ContainsAny_laid ⟨s.toArray⟩ ⟨cs.toArray⟩ c.w (by show s.length < _; omega) (by show cs.length < _; omega) (fun j b hj=>ha b (List.mem_of_getElem? (by simpa using hj))) (fun j b hj=>hb b (List.mem_of_getElem? (by simpa using hj)))).mono fun e w' h=>?_
 exact ⟨_,h.1,h.2,fun c'=>by simp [Val,QH8]⟩

theorem QHS (s:List UInt8) (b:UInt8):ACalls Tryz.prog 190 [.str s,.str [b]] [] (.bool (decide (b ∈ s))) []:=by
 refine QNV (by kernel_rfl) fun c vs hv _=>?_
 simp only [QAo,Val] at hv
 obtain ⟨v,vs',rfl,rfl,v2,vs2,rfl,rfl,rfl⟩:=hv
 have h:=Tryz.strings_Contains_one ⟨s.toArray⟩ b c.w
 refine ⟨_,h,fun c'=>?_⟩
 have hn:=(QFO s b).2
 simp only [Val,Value.bool.injEq]
 rw [decide_eq_decide]
 constructor
 ·intro h1
  by_cases h2:b ∈ s
  ·exact h2
  ·have:=hn.2 h2; omega
 ·intro h1
  have:¬ Lib.indexByte s b < 0:=fun h2=>hn.1 h2 h1
  simp; omega

theorem QLL {s:List UInt8} (h:QAi s = true):∀ b ∈ s,b.toNat < 128:=by
 unfold QAi at h
 simp only [Bool.and_eq_true,List.all_eq_true,decide_eq_true_eq] at h
 intro b hb
 have h2:=h.2 b hb
 have key:∀ x ∈ QRm,x.toNat < 128:=by decide
 exact key b h2
theorem QDD {s:List UInt8} (h:QAi s = true):s.length ≤ 32:=by
 unfold QAi at h
 simp only [Bool.and_eq_true,decide_eq_true_eq] at h
 exact h.1.1.2

theorem any2 (s:List UInt8):(s.any fun c=>([58,33]:List UInt8).contains c) = (decide (58 ∈ s) || decide (33 ∈ s)):=by
 rw [Bool.eq_iff_iff]
 simp only [List.any_eq_true,Bool.or_eq_true,decide_eq_true_eq,List.contains_iff_mem,List.mem_cons,List.not_mem_nil,or_false]
 constructor
 ·rintro ⟨x,hx,rfl | rfl⟩
  ·exact .inl hx
  ·exact .inr hx
 ·rintro (h | h)
  ·exact ⟨_,h,.inl rfl⟩
  ·exact ⟨_,h,.inr rfl⟩

theorem QLM (s:List UInt8):ACalls Tryz.prog 110 [.str s] [] (.bool (QCb s)) []:=by
 refine QAF c110_ok rfl ?_
 unfold c110 QCb
 simp +decide -dsimp -implicitDefEqProofs [go_sem]
 refine QAA (QDy s) rfl rfl ?_
 by_cases hv:QAi s = true
 ·by_cases h:s.length ≤ 15
  ·have h':(s.length:Int) ≤ 15:=by omega
   simp +decide -dsimp -implicitDefEqProofs [go_sem,hv,h']
   have hc:=QI3 s [58,33] (by omega) (by decide) (QLL hv) (by decide)
   rw [any2] at hc
   refine QAA hc rfl rfl ?_
   simp +decide -dsimp -implicitDefEqProofs [go_sem,hv,h]
  ·have h':¬ (s.length:Int) ≤ 15:=by omega
   simp +decide -dsimp -implicitDefEqProofs [go_sem,hv,h,h']
 ·simp +decide -dsimp -implicitDefEqProofs [go_sem,hv]

theorem QKF (s:List UInt8):ACalls Tryz.prog 154 [.str s] [] (.bool (QCb s)) []:=by
 refine QAF c154_ok rfl ?_
 unfold c154 QCb
 simp +decide -dsimp -implicitDefEqProofs [go_sem]
 refine QAA (QFP s) rfl rfl ?_
 by_cases hv:QAi s = true
 ·by_cases h:s.length ≤ 15
  ·have h':(s.length:Int) ≤ 15:=by omega
   simp +decide -dsimp -implicitDefEqProofs [go_sem,hv,h']
   refine QAA (QHS s 58) rfl rfl ?_
   by_cases h1:(58:UInt8) ∈ s
   ·simp +decide -dsimp -implicitDefEqProofs [go_sem,hv,h,h1]
   ·simp +decide -dsimp -implicitDefEqProofs [go_sem,h1]
    refine QAA (QHS s 33) rfl rfl ?_
    simp +decide -dsimp -implicitDefEqProofs [go_sem,hv,h,h1]
  ·have h':¬ (s.length:Int) ≤ 15:=by omega
   simp +decide -dsimp -implicitDefEqProofs [go_sem,hv,h,h']
 ·simp +decide -dsimp -implicitDefEqProofs [go_sem,hv]
end Go.Ab
namespace Go.Ab
open Go Go.Proofs
def QAj (b:UInt8) (s:List UInt8):List UInt8:=if s = [] then [] else QBT b s
theorem QKG (l:List UInt8) (b:UInt8) (s:List UInt8) (hs:l.length + s.length + 3 ≤ 1000000000):
  ACalls Tryz.prog 65 [.ptr 0 0,.int .u8 b.toNat,.str s] (bld l) (.tup []) (bld (l ++ QAj b s)):=by
 refine QAF c65_ok rfl ?_
 unfold c65 QAj
 by_cases h:s = []
 ·subst h
  simp +decide -dsimp -implicitDefEqProofs [go_sem,bld]
 ·simp +decide -dsimp -implicitDefEqProofs [go_sem,h]
  have hl:=QK0 (.inl rfl:QJm (bld l) l) b [s] (.inl (by simp)) (by simp) (by simp [QAQ,QBT]; omega)
  have e:QAQ b [s] = QBT b s:=by simp [QAQ]
  rw [e] at hl
  refine QBi (hl) ?_
  simp +decide -dsimp -implicitDefEqProofs [go_sem,bld]

theorem QL8 (s:List UInt8) (hl:s.length < 9223372036854775807):ACalls Tryz.prog 107 [.str s] [] (.bool (decide (s ≠ []) && QCv s)) []:=by
 refine QAF c107_ok rfl ?_
 unfold c107
 by_cases h:s = []
 ·subst h; simp +decide -dsimp -implicitDefEqProofs [go_sem]
 ·simp +decide -dsimp -implicitDefEqProofs [go_sem,h]
  refine QAA (QQx s hl) rfl rfl ?_
  simp +decide -dsimp -implicitDefEqProofs [go_sem,h]

theorem QQ2 (s:List UInt8):ACalls Tryz.prog 104 [.str s] [] (.str s) []:=by
 refine QAF c104_ok rfl ?_
 unfold c104
 simp +decide -dsimp -implicitDefEqProofs [go_sem]

theorem QLN (s:List UInt8) (hl:s.length < 9223372036854775807):ACalls Tryz.prog 109 [.str s] [] (.bool (!(decide (s ≠ []) && QCv s))) []:=by
 refine QAF c109_ok rfl ?_
 unfold c109
 simp +decide -dsimp -implicitDefEqProofs [go_sem]
 refine QAA (QL8 s hl) rfl rfl ?_
 simp +decide -dsimp -implicitDefEqProofs [go_sem]

def QBF (p:List UInt8 × List UInt8):List AV:=[.str p.1,.str p.2]
theorem QKH (p:List UInt8 × List UInt8):ACalls Tryz.prog 99 [.agg (QBF p)] [] (.str p.1) []:=by
 refine QAF c99_ok rfl ?_
 unfold c99 QBF
 simp +decide -dsimp -implicitDefEqProofs [go_sem]
theorem QMx (p:List UInt8 × List UInt8) (hl:p.2.length < 9223372036854775807):ACalls Tryz.prog 100 [.agg (QBF p)] [] (.bool (QEu p.1 && QCv p.2)) []:=by
 refine QAF c100_ok rfl ?_
 unfold c100 QBF
 simp +decide -dsimp -implicitDefEqProofs [go_sem]
 refine QAA (QW0 p.1) rfl rfl ?_
 by_cases h:QEu p.1 = true
 ·simp +decide -dsimp -implicitDefEqProofs [go_sem,h]
  refine QAA (QQx p.2 hl) rfl rfl ?_
  simp +decide -dsimp -implicitDefEqProofs [go_sem,h]
 ·simp +decide -dsimp -implicitDefEqProofs [go_sem,h]
end Go.Ab
namespace Go.Ab
open Go Go.Proofs
def QGE:List (List UInt8) → Bool
 | a :: b :: r=>Op.bytesLess a b && QGE (b :: r)
 | _=>true
theorem QD3:∀ {l:List (List UInt8)},QGE l = true ↔ ∀ i (h:i + 1 < l.length),Op.bytesLess l[i] l[i + 1] = true
 | []=>by simp [QGE]
 | [a]=>by simp [QGE]
 | a :: b :: r=>by
  simp only [QGE,Bool.and_eq_true]
  rw [QD3 (l:=b :: r)]
  constructor
  ·rintro ⟨h1,h2⟩ i hi
   cases i with
   | zero=>exact h1
   | succ i=>exact h2 i (by simpa using hi)
  ·intro h
   exact ⟨h 0 (by simp),fun i hi=>h (i + 1) (by simpa using hi)⟩
def QF1 (l:List (List UInt8)) (g:List UInt8 → Bool) (n:Nat):Bool:=l.all g && QGE l && decide (l.length ≤ n)

theorem QHT (l:List (List UInt8)) (g:List UInt8 → Bool) (G:Nat) (n:Nat) (hl:l.length < 1000000000) (hg:∀ x ∈ l,ACalls Tryz.prog G [.str x] [] (.bool (g x)) []):
  ACalls Tryz.prog 103 [.imm (l.map QAf),.int .i64 n,.fn (.func 104) [] [],.fn (.func G) [] []] [] (.bool (QF1 l g n)) []:=by
 refine QAF c103_ok rfl ?_
 unfold c103
 simp +decide -dsimp -implicitDefEqProofs [go_sem]
 refine QAR (S:=Nat) (fun i=>⟨tmps 44 [(0,.imm (l.map QAf)),(1,.int .i64 n),(2,.fn (.func 104) [] []),(3,.fn (.func G) [] []),(11,.imm (l.map QAf)),(12,.int .i64 l.length),(13,.int .i64 i)],[]⟩) (fun i=>l.length - i)
  (fun i=>i ≤ l.length ∧ (∀ x ∈ l.take i,g x = true) ∧ ∀ j (h:j + 1 < l.length),j + 1 < i → Op.bytesLess l[j] l[j + 1] = true) 0 (by simp) (QAD (by simp) ?_) ?_
 ·simp +decide -dsimp -implicitDefEqProofs [go_sem]
 intro i hi
 obtain ⟨hi0,hi1,hi2⟩:=hi
 by_cases h:i < l.length
 ·have w:IntKind.i64.wrap ((i:Int) + 1) = i + 1:=w64 (by omega) (by omega)
  simp +decide -dsimp -implicitDefEqProofs [go_sem,h]
  refine QAA (hg l[i] (List.getElem_mem h)) rfl rfl ?_
  by_cases h1:g l[i] = true
  ·have hnext:∀ x ∈ l.take (i + 1),g x = true:=fun x hx=>by
    rw [List.take_succ_eq_append_getElem h] at hx
    rcases List.mem_append.1 hx with hx | hx
    ·exact hi1 x hx
    ·simp at hx; subst hx; exact h1
   by_cases h0:i = 0
   ·subst h0
    simp +decide -dsimp -implicitDefEqProofs [go_sem,h1]
    refine QAI 1 ⟨by omega,hnext,fun j hj hj2=>by omega⟩ (by omega) (QAD (by simp) ?_)
    simp +decide -dsimp -implicitDefEqProofs [go_sem]
   ·obtain ⟨k,rfl⟩:∃ k,i = k + 1:=⟨i - 1,by omega⟩
    have hk:k < l.length:=by omega
    have wk:IntKind.i64.wrap (k:Int) = k:=w64 (by omega) (by omega)
    have e1:(0:Int) < (k:Int) + 1:=by omega
    simp +decide -dsimp -implicitDefEqProofs [go_sem,h1,wk,hk,e1]
    refine QAA (QQ2 l[k]) rfl rfl ?_
    simp +decide -dsimp -implicitDefEqProofs [go_sem]
    refine QAA (QQ2 l[k + 1]) rfl rfl ?_
    by_cases h2:Op.bytesLess l[k] l[k + 1] = true
    ·have w':IntKind.i64.wrap ((k:Int) + 1 + 1) = k + 1 + 1:=w64 (by omega) (by omega)
     simp +decide -dsimp -implicitDefEqProofs [go_sem,h2,w']
     refine QAI (k + 1 + 1) ⟨by omega,hnext,fun j hj hj2=>?_⟩ (by omega) (QAD (by simp) ?_)
     ·by_cases hjk:j = k
      ·subst hjk; exact h2
      ·exact hi2 j hj (by omega)
     simp +decide -dsimp -implicitDefEqProofs [go_sem]
    ·have e:QF1 l g n = false:=by
      have:QGE l = false:=by
       rw [Bool.eq_false_iff]; intro ha; exact h2 (QD3.1 ha k h)
      simp [QF1,this]
     simp +decide -dsimp -implicitDefEqProofs [go_sem,h2,e]
  ·have e:QF1 l g n = false:=by
    have:l.all g = false:=by rw [List.all_eq_false]; exact ⟨l[i],List.getElem_mem h,h1⟩
    simp [QF1,this]
   simp +decide -dsimp -implicitDefEqProofs [go_sem,h1,e]
 ·have e:i = l.length:=by omega
  subst e
  rw [List.take_length] at hi1
  have e1:l.all g = true:=List.all_eq_true.2 hi1
  have e2:QGE l = true:=QD3.2 fun j hj=>hi2 j hj hj
  have e3:(decide ((l.length:Int) ≤ n)) = decide (l.length ≤ n):=by rw [decide_eq_decide]; omega
  simp +decide -dsimp -implicitDefEqProofs [go_sem,QF1,e1,e2]
end Go.Ab
namespace Go.Ab
open Go Go.Proofs
@[go_sem] theorem QPC (k:Nat) (s:List (List UInt8 × List UInt8)):QAV k (s.map QBF) = true:=QAa fun x _=>by simp [QBF,QAS,QAM]
@[go_sem] theorem QD4 (is:List Nat) (s:List (List UInt8 × List UInt8)):QA4 is (s.map QBF) = s.map QBF:=by
 induction s with
 | nil=>rfl
 | cons x r ih=>simp [QA4,ih,QBF,QDB,ren]
@[go_sem] theorem QWK (x:List UInt8 × List UInt8):(QBF x).length = 2:=rfl
@[go_sem ↓] theorem QWL (x:List UInt8 × List UInt8) (K:AV → Prop):ldK (some 2) (QBF x) K = K (.agg (QBF x)):=by simp [ldK,QBF]
@[go_sem ↓] theorem QUU (x:List UInt8 × List UInt8) (K:AV → Prop):ldK none (QBF x) K = K (.str x.1):=rfl
@[go_sem] theorem QUV (x:List UInt8 × List UInt8):(QBF x).tail = [.str x.2]:=rfl
@[go_sem ↓] theorem QUW (x:List UInt8 × List UInt8) (K:AV → Prop):ldK none (QBF x).tail K = K (.str x.2):=rfl
@[go_sem ↓] theorem QUX (x:List UInt8 × List UInt8) (K:AV → Prop):ldK none ((QBF x).drop 1) K = K (.str x.2):=rfl
@[go_sem] theorem QTU (x:List UInt8 × List UInt8):(QBF x).drop 0 = QBF x:=rfl
def QDJ (p:List UInt8 × List UInt8):Bool:=QEu p.1 && QCv p.2
def QEc (l:List (List UInt8 × List UInt8)) (n:Nat):Bool:=l.all QDJ && QGE (l.map (·.1)) && decide (l.length ≤ n)

theorem QN8 (l:List (List UInt8 × List UInt8)) (n:Nat) (hl:l.length < 1000000000) (hv:∀ x ∈ l,x.2.length < 9223372036854775807):
  ACalls Tryz.prog 98 [.imm (l.map QBF),.int .i64 n,.fn (.func 99) [] [],.fn (.func 100) [] []] [] (.bool (QEc l n)) []:=by
 refine QAF c98_ok rfl ?_
 unfold c98
 simp +decide -dsimp -implicitDefEqProofs [go_sem]
 refine QAR (S:=Nat) (fun i=>⟨tmps 44 [(0,.imm (l.map QBF)),(1,.int .i64 n),(2,.fn (.func 99) [] []),(3,.fn (.func 100) [] []),(11,.imm (l.map QBF)),(12,.int .i64 l.length),(13,.int .i64 i)],[]⟩) (fun i=>l.length - i)
  (fun i=>i ≤ l.length ∧ (∀ x ∈ l.take i,QDJ x = true) ∧ ∀ j (h:j + 1 < l.length),j + 1 < i → Op.bytesLess l[j].1 l[j + 1].1 = true) 0 (by simp) (QAD (by simp) ?_) ?_
 ·simp +decide -dsimp -implicitDefEqProofs [go_sem]
 intro i hi
 obtain ⟨hi0,hi1,hi2⟩:=hi
 by_cases h:i < l.length
 ·have w:IntKind.i64.wrap ((i:Int) + 1) = i + 1:=w64 (by omega) (by omega)
  simp +decide -dsimp -implicitDefEqProofs [go_sem,h]
  refine QAO (show ACalls Tryz.prog 100 [.agg (QBF l[i])] [] (.bool (QDJ l[i])) [] from QMx l[i] (hv _ (List.getElem_mem h))) rfl rfl ?_
  by_cases h1:QDJ l[i] = true
  ·have hnext:∀ x ∈ l.take (i + 1),QDJ x = true:=fun x hx=>by
    rw [List.take_succ_eq_append_getElem h] at hx
    rcases List.mem_append.1 hx with hx | hx
    ·exact hi1 x hx
    ·simp at hx; subst hx; exact h1
   by_cases h0:i = 0
   ·subst h0
    simp +decide -dsimp -implicitDefEqProofs [go_sem,h1]
    refine QAI 1 ⟨by omega,hnext,fun j hj hj2=>by omega⟩ (by omega) (QAD (by simp) ?_)
    simp +decide -dsimp -implicitDefEqProofs [go_sem]
   ·obtain ⟨k,rfl⟩:∃ k,i = k + 1:=⟨i - 1,by omega⟩
    have hk:k < l.length:=by omega
    have wk:IntKind.i64.wrap (k:Int) = k:=w64 (by omega) (by omega)
    have e1:(0:Int) < (k:Int) + 1:=by omega
    simp +decide -dsimp -implicitDefEqProofs [go_sem,h1,wk,hk,e1]
    refine QAO (QKH l[k]) rfl rfl ?_
    simp +decide -dsimp -implicitDefEqProofs [go_sem]
    refine QAO (QKH l[k + 1]) rfl rfl ?_
    by_cases h2:Op.bytesLess l[k].1 l[k + 1].1 = true
    ·have w':IntKind.i64.wrap ((k:Int) + 1 + 1) = k + 1 + 1:=w64 (by omega) (by omega)
     simp +decide -dsimp -implicitDefEqProofs [go_sem,h2,w']
     refine QAI (k + 1 + 1) ⟨by omega,hnext,fun j hj hj2=>?_⟩ (by omega) (QAD (by simp) ?_)
     ·by_cases hjk:j = k
      ·subst hjk; exact h2
      ·exact hi2 j hj (by omega)
     simp +decide -dsimp -implicitDefEqProofs [go_sem]
    ·have e:QEc l n = false:=by
      have:QGE (l.map (·.1)) = false:=by
       rw [Bool.eq_false_iff]; intro ha; exact h2 (by have:=QD3.1 ha k (by simpa using h); simpa using this)
      simp [QEc,this]
     simp +decide -dsimp -implicitDefEqProofs [go_sem,h2,e]
  ·have e:QEc l n = false:=by
    have:l.all QDJ = false:=by rw [List.all_eq_false]; exact ⟨l[i],List.getElem_mem h,h1⟩
    simp [QEc,this]
   simp +decide -dsimp -implicitDefEqProofs [go_sem,h1,e]
 ·have e:i = l.length:=by omega
  subst e
  rw [List.take_length] at hi1
  have e1:l.all QDJ = true:=List.all_eq_true.2 hi1
  have e2:QGE (l.map (·.1)) = true:=QD3.2 fun j hj=>(by simpa using hi2 j (by simpa using hj) (by simpa using hj))
  have e3:(decide ((l.length:Int) ≤ n)) = decide (l.length ≤ n):=by rw [decide_eq_decide]; omega
  simp +decide -dsimp -implicitDefEqProofs [go_sem,QEc,e1,e2]
end Go.Ab
namespace Go.Ab
open Go Go.Proofs
theorem QDg (l:List (List UInt8)) (n:Nat) (hl:l.length < 1000000000):
  ACalls Tryz.prog 186 [.imm (l.map QAf),.int .i64 n] [] (.bool (QGE l && decide (l.length ≤ n))) []:=by
 refine QAF c186_ok rfl ?_
 unfold c186
 simp +decide -dsimp -implicitDefEqProofs [go_sem]
 refine QAR (S:=Nat) (fun k=>⟨tmps 26 [(0,.imm (l.map QAf)),(1,.int .i64 n),(5,.int .i64 ((k:Int) + 1))],[]⟩) (fun k=>l.length + 1 - k)
  (fun k=>k ≤ l.length ∧ ∀ j (h:j + 1 < l.length),j < k → Op.bytesLess l[j] l[j + 1] = true) 0 (by simp) (QAD (by simp) ?_) ?_
 ·simp +decide -dsimp -implicitDefEqProofs [go_sem]
 intro k hk
 obtain ⟨hk0,hk1⟩:=hk
 by_cases h:k + 1 < l.length
 ·have h':(k:Int) + 1 < l.length:=by omega
  have hk2:k < l.length:=by omega
  have w:IntKind.i64.wrap ((k:Int) + 1 + 1) = k + 1 + 1:=w64 (by omega) (by omega)
  have wk:IntKind.i64.wrap (k:Int) = k:=w64 (by omega) (by omega)
  have t1:((k:Int) + 1).toNat = k + 1:=by omega
  have p1:(0:Int) ≤ (k:Int) + 1:=by omega
  by_cases h2:Op.bytesLess l[k] l[k + 1] = true
  ·simp +decide -dsimp -implicitDefEqProofs [go_sem,h',wk,hk2,h,t1,p1,h2,w]
   refine QAI (k + 1) ⟨by omega,fun j hj hj2=>?_⟩ (by omega) (QAD (by simp) ?_)
   ·by_cases hjk:j = k
    ·subst hjk; exact h2
    ·exact hk1 j hj (by omega)
   simp +decide -dsimp -implicitDefEqProofs [go_sem]
  ·have e:QGE l = false:=by rw [Bool.eq_false_iff]; intro ha; exact h2 (QD3.1 ha k h)
   simp +decide -dsimp -implicitDefEqProofs [go_sem,h',wk,hk2,h,t1,p1,h2,e]
 ·have h':¬ (k:Int) + 1 < l.length:=by omega
  have e2:QGE l = true:=QD3.2 fun j hj=>hk1 j hj (by omega)
  have e3:(decide ((l.length:Int) ≤ n)) = decide (l.length ≤ n):=by rw [decide_eq_decide]; omega
  simp +decide -dsimp -implicitDefEqProofs [go_sem,h',e2]
end Go.Ab
namespace Go.Ab
open Go Go.Proofs
structure Rcd where
 path:List UInt8
 index:Int
 props:List (List UInt8 × List UInt8)
 tags:List (List UInt8)
 links:List (List UInt8)
 run:List (List UInt8)
 load:List (List UInt8)
 name:List UInt8
 prio:Int
 owner:List UInt8
 group:List UInt8
 mode:Int
 deriving DecidableEq
def QAU (r:Rcd):List AV:=[.str r.path,.int .i64 r.index,.imm (r.props.map QBF),.imm (r.tags.map QAf),.imm (r.links.map QAf),.imm (r.run.map QAf),.imm (r.load.map QAf),.str r.name,.int .i64 r.prio,.str r.owner,.str r.group,.int .i64 r.mode]
def QBl (s:List UInt8):Bool:=decide (s ≠ []) && QCv s
def QAb (r:Rcd):Bool:=
 QAd r.path && decide (1 ≤ r.index ∧ r.index ≤ 1073741824) && QEc r.props 64 && QF1 r.tags QAi 16 && QF1 r.links QCw 16 && QF1 r.load QBl 16 && decide (r.run.length ≤ 16) && r.run.all QBl &&
  (decide (r.name = []) || QCb r.name) && decide (-1000 ≤ r.prio ∧ r.prio ≤ 1000) && decide (0 ≤ r.mode ∧ r.mode ≤ 4095) &&
  (decide (r.owner = [] ∧ r.group = [] ∧ r.mode = 0 ∧ r.links = []) || QAi r.owner && QAi r.group)
structure Few (r:Rcd):Prop where
 path:r.path.length < 100000000
 tags:r.tags.length < 1000000000
 props:r.props.length < 1000000000
 vals:∀ x ∈ r.props,x.2.length < 1000000000
 links:r.links.length < 1000000000
 link:∀ x ∈ r.links,x.length < 1000000000
 runs:r.run.length < 1000000000
 rn:∀ x ∈ r.run,x.length < 1000000000
 loads:r.load.length < 1000000000
 ld:∀ x ∈ r.load,x.length < 1000000000

end Go.Ab
namespace Go.Ab
open Go

def QKI (c:UInt8):List UInt8 → Option (List UInt8 × List UInt8)
 | []=>none
 | x :: r=>if x = c then some ([],r) else (QKI c r).map fun p=>(x :: p.1,p.2)
theorem QG0 {c:UInt8} {t:List UInt8}:∀ {s:List UInt8},c ∉ s → QKI c (s ++ c :: t) = some (s,t)
 | [],_=>by simp [QKI]
 | x :: r,h=>by
  simp only [List.mem_cons,not_or] at h
  simp [QKI,QG0 h.2,show ¬ x = c from fun e=>h.1 e.symm]
theorem QKJ {c:UInt8}:∀ {s:List UInt8},c ∉ s → QKI c s = none
 | [],_=>rfl
 | x :: r,h=>by
  simp only [List.mem_cons,not_or] at h
  simp [QKI,QKJ h.2,show ¬ x = c from fun e=>h.1 e.symm]
theorem QDh {c:UInt8}:∀ {s a b:List UInt8},QKI c s = some (a,b) → s = a ++ c :: b ∧ c ∉ a
 | [],_,_,h=>by simp [QKI] at h
 | x :: r,a,b,h=>by
  unfold QKI at h
  split at h
  ·rename_i e
   simp at h; obtain ⟨rfl,rfl⟩:=h; subst e; simp
  ·rename_i e
   cases hr:QKI c r with
   | none=>simp [hr] at h
   | some p=>
    simp [hr] at h
    obtain ⟨rfl,rfl⟩:=h
    obtain ⟨h1,h2⟩:=QDh (a:=p.1) (b:=p.2) (by rw [hr])
    exact ⟨by rw [List.cons_append,← h1],by simp [h2]; exact fun e'=>e e'.symm⟩

def QBY (c:UInt8):List UInt8 → List (List UInt8)
 | []=>[[]]
 | x :: r=>if x = c then [] :: QBY c r else (match QBY c r with | a :: l=>(x :: a) :: l | []=>[[x]])
theorem QEd (c:UInt8):∀ s,QBY c s ≠ []
 | []=>by simp [QBY]
 | x :: r=>by
  unfold QBY; split
  ·simp
  ·split <;> simp
theorem QEq {c:UInt8} {t:List UInt8}:∀ {s:List UInt8},c ∉ s → QBY c (s ++ c :: t) = s :: QBY c t
 | [],_=>by simp [QBY]
 | x :: r,h=>by
  simp only [List.mem_cons,not_or] at h
  simp [QBY,QEq h.2,show ¬ x = c from fun e=>h.1 e.symm]
theorem QFA {c:UInt8}:∀ {s:List UInt8},c ∉ s → QBY c s = [s]
 | [],_=>rfl
 | x :: r,h=>by
  simp only [List.mem_cons,not_or] at h
  simp [QBY,QFA h.2,show ¬ x = c from fun e=>h.1 e.symm]
theorem QEe (c:UInt8):∀ s:List UInt8,Lib.index s [c] = Lib.indexByte s c
 | []=>rfl
 | b :: l=>by
  unfold Lib.index Lib.indexByte
  rw [QEe c l]
  by_cases h:b = c
  ·subst h; simp [List.isPrefixOf]
  ·have:¬ c = b:=fun e=>h e.symm
   simp [List.isPrefixOf,h,this]
theorem QD5 (c:UInt8):∀ s:List UInt8,(Lib.indexByte s c = -1 ∧ c ∉ s) ∨ ∃ a b,s = a ++ c :: b ∧ c ∉ a ∧ Lib.indexByte s c = a.length
 | []=>.inl ⟨rfl,by simp⟩
 | x :: r=>by
  unfold Lib.indexByte
  by_cases h:x = c
  ·subst h; exact .inr ⟨[],r,rfl,by simp,by simp⟩
  ·have h':¬ c = x:=fun e=>h e.symm
   rcases QD5 c r with ⟨h1,h2⟩ | ⟨a,b,h1,h2,h3⟩
   ·exact .inl ⟨by simp [h,h1],by simp [h2,h']⟩
   ·refine .inr ⟨x :: a,b,by rw [h1]; rfl,by simp [h2,h'],?_⟩
    have h4:¬ (a.length:Int) = -1:=by omega
    simp [h,h3,h4]
theorem QKK (c:UInt8):∀ (n:Nat) (s:List UInt8),s.length ≤ n → Lib.splitK [c] 0 (Lib.count s [c]) s = QBY c s
 | n,s,hn=>by
  rcases QD5 c s with ⟨h1,h2⟩ | ⟨a,b,h1,h2,h3⟩
  ·have hi:Lib.index s [c] = -1:=by rw [QEe,h1]
   rw [Lib.count_miss hi,QFA h2]; rfl
  ·have hi:Lib.index s [c] = (a.length:Nat):=by rw [QEe,h3]
   have hm:¬ (Lib.index s [c] == -1) = true:=fun e=>by have:=beq_iff_eq.1 e; omega
   rw [Lib.count_hit (by simp) hi,Nat.add_comm]
   unfold Lib.splitK
   rw [if_neg hm,hi]
   have e1:s.drop (a.length + [c].length) = b:=by rw [h1]; simp
   have e2:s.take a.length = a:=by rw [h1]; simp
   have e3:((a.length:Nat):Int).toNat = a.length:=by omega
   rw [e1,e3,Nat.add_zero,e2,e1]
   have hb:b.length < s.length:=by rw [h1]; simp; omega
   cases n with
   | zero=>omega
   | succ n=>
    rw [QKK c n b (by omega)]
    conv=>rhs; rw [h1]
    rw [QEq h2]

/-! ### Numerals -/
def QKs (d:Nat):UInt8:=UInt8.ofNat (48 + d)
def QCn (b:Nat) (u:Nat):List UInt8:=if _h:u < b ∨ b < 2 then [QKs u] else QCn b (u / b) ++ [QKs (u % b)]
 termination_by u
 decreasing_by
 simp only [not_or,Nat.not_lt] at _h
 exact Nat.div_lt_self (by omega) (by omega)
def QBA (b:Nat) (n:Int):List UInt8:=if n < 0 then 45 :: QCn b n.natAbs else QCn b n.toNat
def QDE (b:Nat) (n:Int):List UInt8:=if n = 0 then [] else QBA b n
theorem QFB {b u:Nat} (h:u < b):QCn b u = [QKs u]:=by rw [QCn,dif_pos (.inl h)]
theorem QHU {b u:Nat} (hb:2 ≤ b) (h:b ≤ u):QCn b u = QCn b (u / b) ++ [QKs (u % b)]:=by rw [QCn,dif_neg (by omega)]
theorem QKL:∀ u:Nat,QCn 10 u = Lib.decDigits u:=by
 intro u
 induction u using Nat.strongRecOn with
 | _ u ih=>
  by_cases h:u < 10
  ·rw [QFB h,Lib.decDigits,dif_pos h]; rfl
  ·rw [QHU (by omega) (by omega),Lib.decDigits,dif_neg h,ih _ (by omega)]; rfl
theorem QIY (n:Int):QBA 10 n = Lib.itoa n:=by
 unfold QBA Lib.itoa; rw [QKL,QKL]

def QDi (b:Nat) (l:List UInt8):Int:=l.foldl (fun n c=>n * b + ((c.toNat:Int) - 48)) 0
theorem QDF (b:Nat) (l:List UInt8) (c:UInt8):QDi b (l ++ [c]) = QDi b l * b + ((c.toNat:Int) - 48):=by simp [QDi]
theorem QIZ {d:Nat} (h:d < 10):(QKs d).toNat = 48 + d:=by
 rw [QKs,UInt8.toNat_ofNat']; omega
theorem QCO {b:Nat} (hb:2 ≤ b) (hb2:b ≤ 10):∀ u:Nat,QDi b (QCn b u) = u ∧ (∀ c ∈ QCn b u,48 ≤ c.toNat ∧ c.toNat < 48 + b) ∧ QCn b u ≠ [] ∧ (∀ k:Nat,1 ≤ k → u < b ^ k → (QCn b u).length ≤ k):=by
 intro u
 induction u using Nat.strongRecOn with
 | _ u ih=>
  by_cases h:u < b
  ·have hd:=QIZ (d:=u) (by omega)
   rw [QFB h]
   refine ⟨by simp [QDi,hd]; omega,by simp [hd]; omega,by simp,fun k hk _=>by simp; omega⟩
  ·have hlt:u / b < u:=Nat.div_lt_self (by omega) (by omega)
   have hm:u % b < b:=Nat.mod_lt _ (by omega)
   have hd:=QIZ (d:=u % b) (by omega)
   obtain ⟨h1,h2,h3,h4⟩:=ih _ hlt
   rw [QHU hb (by omega)]
   refine ⟨?_,?_,by simp,fun k hk hlt2=>?_⟩
   ·rw [QDF,h1,hd]
    have:=Nat.div_add_mod u b
    have e:((u / b:Nat):Int) * b = ((b * (u / b):Nat):Int):=by rw [Int.natCast_mul,Int.mul_comm]
    rw [e]; omega
   ·intro c hc
    rcases List.mem_append.1 hc with hc | hc
    ·exact h2 c hc
    ·simp at hc; subst hc; omega
   ·have hk1:k ≠ 1:=fun e=>by subst e; simp at hlt2; omega
    have:=h4 (k - 1) (by omega) (by
     rw [Nat.div_lt_iff_lt_mul (by omega)]
     have:b ^ (k - 1) * b = b ^ k:=by rw [← Nat.pow_succ]; congr 1; omega
     omega)
    simp; omega
theorem QFC {b:Nat} (hb:2 ≤ b) (hb2:b ≤ 10) (n:Int):∀ c ∈ QBA b n,c = 45 ∨ (48 ≤ c.toNat ∧ c.toNat < 58):=by
 intro c hc
 unfold QBA at hc
 split at hc
 ·rcases List.mem_cons.1 hc with rfl | hc
  ·exact .inl rfl
  ·have:=(QCO hb hb2 _).2.1 c hc; right; omega
 ·have:=(QCO hb hb2 _).2.1 c hc; right; omega
theorem QEr {b:Nat} (hb:2 ≤ b) (hb2:b ≤ 10) (n:Int):QBA b n ≠ []:=by
 unfold QBA; split
 ·simp
 ·exact (QCO hb hb2 _).2.2.1
end Go.Ab
namespace Go.Ab
open Go Go.Proofs

def QCo (p:List UInt8 × List UInt8):List UInt8:=p.1 ++ 61 :: p.2
def QBJ (r:Rcd):List UInt8:=
 QBT 80 r.path ++ (QBT 73 (QBA 10 r.index) ++ (QAQ 69 (r.props.map QCo) ++ (QAQ 71 r.tags ++ (QAQ 76 r.links ++ (QAQ 82 r.run ++ (QAQ 77 r.load ++ (QAj 78 r.name ++ (QAj 79 r.owner ++ (QAj 81 r.group ++
  (QAj 89 (QDE 10 r.prio) ++ (QAj 88 (QDE 8 r.mode) ++ [46,10])))))))))))

/-! ### The first reader: line by line -/
def QDX (b:UInt8) (s:List UInt8):Option (List UInt8 × List UInt8):=
 match QKI 10 s with
 | some p=>if [b,58].isPrefixOf p.1 then some (p.1.drop 2,p.2) else none
 | none=>none
def QBL (b:UInt8) (s:List UInt8):List UInt8 × List UInt8:=match QDX b s with | some p=>p | none=>([],s)
theorem QN9 {b:UInt8} {s:List UInt8} {p:List UInt8 × List UInt8} (h:QDX b s = some p):p.2.length < s.length ∧ p.1.length ≤ s.length:=by
 unfold QDX at h
 split at h
 ·rename_i q hq
  obtain ⟨h1,_⟩:=QDh (a:=q.1) (b:=q.2) hq
  split at h
  ·cases h; rw [h1]; simp; omega
  ·cases h
 ·cases h
def QB5 (b:UInt8) (s:List UInt8):List (List UInt8) × List UInt8:=
 match _h:QDX b s with
 | some p=>(p.1 :: (QB5 b p.2).1,(QB5 b p.2).2)
 | none=>([],s)
 termination_by s.length
 decreasing_by all_goals exact (QN9 _h).1
theorem QGF {b:UInt8} {s:List UInt8} {p:List UInt8 × List UInt8} (h:QDX b s = some p):QB5 b s = (p.1 :: (QB5 b p.2).1,(QB5 b p.2).2):=by
 rw [QB5]; split
 ·rename_i q hq; rw [h] at hq; cases hq; rfl
 ·rename_i hq; rw [h] at hq; cases hq
theorem QGG {b:UInt8} {s:List UInt8} (h:QDX b s = none):QB5 b s = ([],s):=by
 rw [QB5]; split
 ·rename_i q hq; rw [h] at hq; cases hq
 ·rfl

theorem QIa {b:UInt8} {s t:List UInt8} (hb:b ≠ 10) (h:10 ∉ s):QDX b (QBT b s ++ t) = some (s,t):=by
 have e:QBT b s ++ t = (b :: 58 :: s) ++ 10 :: t:=by simp [QBT]
 have hn:(10:UInt8) ∉ b :: 58 :: s:=by simp [h,hb.symm]
 rw [QDX,e,QG0 hn]
 simp
def Hd (S:List UInt8) (s:List UInt8):Prop:=∃ c r,s = c :: r ∧ c ∈ S
theorem Hd.mono {S S':List UInt8} {s:List UInt8} (h:Hd S s) (hs:∀ c ∈ S,c ∈ S'):Hd S' s:=by
 obtain ⟨c,r,rfl,hc⟩:=h; exact ⟨c,r,rfl,hs c hc⟩
theorem Hd.lines {S:List UInt8} {b:UInt8} {l:List (List UInt8)} {s:List UInt8} (h:Hd S s):Hd (b :: S) (QAQ b l ++ s):=by
 cases l with
 | nil=>exact h.mono fun c hc=>by simp [hc]
 | cons x l=>exact ⟨b,_,rfl,by simp⟩
theorem Hd.filled {S:List UInt8} {b:UInt8} {x:List UInt8} {s:List UInt8} (h:Hd S s):Hd (b :: S) (QAj b x ++ s):=by
 unfold QAj; split
 ·exact h.mono fun c hc=>by simp [hc]
 ·exact ⟨b,_,rfl,by simp⟩
theorem QKM {b:UInt8} {S:List UInt8} {s:List UInt8} (h:Hd S s) (hb:b ∉ S):QDX b s = none:=by
 obtain ⟨c,r,rfl,hc⟩:=h
 have hbc:b ≠ c:=fun e=>hb (e ▸ hc)
 unfold QDX
 split
 ·rename_i p hp
  obtain ⟨h1,_⟩:=QDh (a:=p.1) (b:=p.2) hp
  rw [if_neg]
  intro hpre
  cases hq:p.1 with
  | nil=>rw [hq] at hpre; simp at hpre
  | cons x y=>
   rw [hq] at h1 hpre
   simp at h1 hpre
   exact hbc (hpre.1.trans h1.1.symm)
 ·rfl
theorem QGH {b:UInt8} {s t:List UInt8} (hb:b ≠ 10) (h:10 ∉ s):QBL b (QBT b s ++ t) = (s,t):=by rw [QBL,QIa hb h]
theorem QCp {b:UInt8} {x s:List UInt8} {S:List UInt8} (h:Hd S s) (hb:b ∉ S) (h10:b ≠ 10) (hx:10 ∉ x):QBL b (QAj b x ++ s) = (x,s):=by
 unfold QAj; split
 ·rename_i e; subst e; rw [QBL,List.nil_append,QKM h hb]
 ·exact QGH h10 hx
theorem QCg {b:UInt8} {s:List UInt8} {S:List UInt8} (h:Hd S s) (hb:b ∉ S) (h10:b ≠ 10):∀ {l:List (List UInt8)},(∀ x ∈ l,10 ∉ x) → QB5 b (QAQ b l ++ s) = (l,s)
 | [],_=>QGG (by simpa [QAQ] using QKM h hb)
 | x :: l,hl=>by
  have e:QAQ b (x :: l) ++ s = QBT b x ++ (QAQ b l ++ s):=by simp [QAQ]
  rw [e,QGF (QIa h10 (hl x (by simp))),QCg h hb h10 fun y hy=>hl y (by simp [hy])]

/-! ### No newline in what is sound -/
theorem QSF:∀ c ∈ QRm,c ≠ 10:=by decide
theorem QPm:∀ c ∈ QKE,c ≠ 10:=by decide
theorem QOA:∀ c ∈ QTR,c ≠ 10 ∧ c ≠ 61:=by decide
theorem QFk {s:List UInt8} (h:QAi s = true):10 ∉ s:=by
 unfold QAi at h
 simp only [Bool.and_eq_true,List.all_eq_true,decide_eq_true_eq] at h
 exact fun hc=>QSF _ (h.2 _ hc) rfl
theorem QOB {s:List UInt8} (h:QCv s = true):10 ∉ s:=by
 unfold QCv QDM at h
 simp only [Bool.and_eq_true,List.all_eq_true,decide_eq_true_eq] at h
 intro hc
 have:=(h.1 _ hc).1
 have e:(10:UInt8).toNat = 10:=rfl
 omega
theorem QOC {s:List UInt8} (h:QBl s = true):10 ∉ s:=by
 unfold QBl at h
 simp only [Bool.and_eq_true] at h
 exact QOB h.2
theorem QUY {s:List UInt8} (h:QEu s = true):10 ∉ s ∧ 61 ∉ s:=by
 unfold QEu at h
 simp only [Bool.and_eq_true,List.all_eq_true,decide_eq_true_eq] at h
 exact ⟨fun hc=>(QOA _ (h.2 _ hc)).1 rfl,fun hc=>(QOA _ (h.2 _ hc)).2 rfl⟩
theorem QPn {s:List UInt8} (h:QCb s = true):10 ∉ s:=by
 unfold QCb at h
 simp only [Bool.and_eq_true] at h
 exact QFk h.1.1.1
theorem QCq (s:List UInt8) (c:UInt8):QB9 s c = QBY c s:=by
 have h:=Lib.splitB_data ⟨#[c]⟩ 0 (Lib.countB ⟨s.toArray⟩ ⟨#[c]⟩) ⟨s.toArray⟩
 have e:Lib.countB ⟨s.toArray⟩ ⟨#[c]⟩ = Lib.count s [c]:=by simp [Lib.countB]
 rw [QB9,h,e]
 exact QKK c _ s (Nat.le_refl _)
theorem QFl {c d:UInt8} (hd:d ≠ c):∀ {s:List UInt8},(∀ x ∈ QBY c s,d ∉ x) → d ∉ s
 | [],_=>by simp
 | x :: r,h=>by
  unfold QBY at h
  split at h
  ·rename_i e
   subst e
   have:=QFl hd (s:=r) fun y hy=>h y (by simp [hy])
   simp [this,hd]
  ·rename_i e
   split at h
   ·rename_i a l hl
    have h1:=h (x :: a) (by simp)
    simp only [List.mem_cons,not_or] at h1
    have:=QFl hd (s:=r) fun y hy=>by
     rw [hl] at hy
     rcases List.mem_cons.1 hy with rfl | hy
     ·exact h1.2
     ·exact h y (by simp [hy])
    simp [this,h1.1]
   ·rename_i hl; exact absurd hl (QEd c r)
theorem QSG {s:List UInt8} (h:QAd s = true):10 ∉ s:=by
 unfold QAd at h
 split at h
 ·rename_i l hl
  unfold QCf at hl
  split at hl
  ·cases hl
  ·rename_i c r
   split at hl
   ·rename_i hc
    have h2:=List.all_eq_true.1 hc.2
    rw [QCq] at h2
    have:=QFl (c:=47) (d:=10) (by decide) (s:=r) fun x hx=>QFk (h2 x hx)
    rw [hc.1]
    simp [this]
   ·cases hl
 ·cases h
theorem QSH {s:List UInt8} (h:QCw s = true):10 ∉ s:=by
 unfold QCw at h
 simp only [Bool.and_eq_true,List.all_eq_true] at h
 rw [QCq] at h
 refine QFl (c:=47) (by decide) fun x hx=>?_
 have:=h.2 x hx
 unfold QFj at this
 simp only [Bool.and_eq_true,List.all_eq_true,decide_eq_true_eq] at this
 exact fun hc=>QPm _ (this.2 _ hc) rfl
theorem QLO {b:Nat} (hb:2 ≤ b) (hb2:b ≤ 10) (n:Int):10 ∉ QBA b n:=fun hc=>by
 rcases QFC hb hb2 n _ hc with h | h
 ·cases h
 ·have e:(10:UInt8).toNat = 10:=rfl
  omega
theorem QL9 {b:Nat} (hb:2 ≤ b) (hb2:b ≤ 10) (n:Int):10 ∉ QDE b n:=by
 unfold QDE; split
 ·simp
 ·exact QLO hb hb2 n

structure QTV (r:Rcd):Prop where
 path:10 ∉ r.path
 key:∀ p ∈ r.props,10 ∉ p.1 ∧ 61 ∉ p.1
 val:∀ p ∈ r.props,10 ∉ p.2
 tag:∀ x ∈ r.tags,10 ∉ x
 link:∀ x ∈ r.links,10 ∉ x
 run:∀ x ∈ r.run,10 ∉ x
 load:∀ x ∈ r.load,10 ∉ x
 name:10 ∉ r.name
 owner:10 ∉ r.owner
 group:10 ∉ r.group
 index:1 ≤ r.index ∧ r.index ≤ 1073741824
 prio:-1000 ≤ r.prio ∧ r.prio ≤ 1000
 mode:0 ≤ r.mode ∧ r.mode ≤ 4095
theorem QFD {r:Rcd} (h:QAb r = true):QTV r:=by
 unfold QAb at h
 simp only [Bool.and_eq_true,Bool.or_eq_true,decide_eq_true_eq,QEc,QF1,List.all_eq_true] at h
 obtain ⟨⟨⟨⟨⟨⟨⟨⟨⟨⟨⟨h1,h2⟩,h3⟩,h4⟩,h5⟩,h6⟩,h7⟩,h8⟩,h9⟩,h10⟩,h11⟩,h12⟩:=h
 have hg:∀ p ∈ r.props,QEu p.1 = true ∧ QCv p.2 = true:=fun p hp=>by simpa [QDJ] using h3.1.1 p hp
 refine ⟨QSG h1,fun p hp=>QUY (hg p hp).1,fun p hp=>QOB (hg p hp).2,fun x hx=>QFk (h4.1.1 x hx),fun x hx=>QSH (h5.1.1 x hx),fun x hx=>QOC (h8 x hx),fun x hx=>QOC (h6.1.1 x hx),?_,?_,?_,h2,h10,h11⟩
 ·rcases h9 with h | h
  ·rw [h]; simp
  ·exact QPn h
 ·rcases h12 with h | h
  ·rw [h.1]; simp
  ·exact QFk h.1
 ·rcases h12 with h | h
  ·rw [h.2.1]; simp
  ·exact QFk h.2

theorem QOD {r:Rcd} (h:QTV r):∀ x ∈ r.props.map QCo,10 ∉ x:=fun x hx=>by
 obtain ⟨p,hp,rfl⟩:=List.mem_map.1 hx
 simp [QCo,(h.key p hp).1,h.val p hp]

def QUZ:List UInt8:=[46,10]
def QPo (r:Rcd):=QAj 88 (QDE 8 r.mode) ++ QUZ
def QPp (r:Rcd):=QAj 89 (QDE 10 r.prio) ++ QPo r
def tl9 (r:Rcd):=QAj 81 r.group ++ QPp r
def tl8 (r:Rcd):=QAj 79 r.owner ++ tl9 r
def tl7 (r:Rcd):=QAj 78 r.name ++ tl8 r
def tl6 (r:Rcd):=QAQ 77 r.load ++ tl7 r
def tl5 (r:Rcd):=QAQ 82 r.run ++ tl6 r
def tl4 (r:Rcd):=QAQ 76 r.links ++ tl5 r
def tl3 (r:Rcd):=QAQ 71 r.tags ++ tl4 r
def tl2 (r:Rcd):=QAQ 69 (r.props.map QCo) ++ tl3 r
def tl1 (r:Rcd):=QBT 73 (QBA 10 r.index) ++ tl2 r
theorem QQ3 (r:Rcd):QBJ r = QBT 80 r.path ++ tl1 r:=rfl
theorem hd12:Hd [46] QUZ:=⟨46,[10],rfl,by simp⟩
theorem hd11 (r:Rcd):Hd [88,46] (QPo r):=hd12.filled
theorem hd10 (r:Rcd):Hd [89,88,46] (QPp r):=(hd11 r).filled
theorem hd9 (r:Rcd):Hd [81,89,88,46] (tl9 r):=(hd10 r).filled
theorem hd8 (r:Rcd):Hd [79,81,89,88,46] (tl8 r):=(hd9 r).filled
theorem hd7 (r:Rcd):Hd [78,79,81,89,88,46] (tl7 r):=(hd8 r).filled
theorem hd6 (r:Rcd):Hd [77,78,79,81,89,88,46] (tl6 r):=(hd7 r).lines
theorem hd5 (r:Rcd):Hd [82,77,78,79,81,89,88,46] (tl5 r):=(hd6 r).lines
theorem hd4 (r:Rcd):Hd [76,82,77,78,79,81,89,88,46] (tl4 r):=(hd5 r).lines
theorem hd3 (r:Rcd):Hd [71,76,82,77,78,79,81,89,88,46] (tl3 r):=(hd4 r).lines
structure QW7 (r:Rcd):Prop where
 p:QBL 80 (QBJ r) = (r.path,tl1 r)
 i:QBL 73 (tl1 r) = (QBA 10 r.index,tl2 r)
 e:QB5 69 (tl2 r) = (r.props.map QCo,tl3 r)
 g:QB5 71 (tl3 r) = (r.tags,tl4 r)
 l:QB5 76 (tl4 r) = (r.links,tl5 r)
 rn:QB5 82 (tl5 r) = (r.run,tl6 r)
 m:QB5 77 (tl6 r) = (r.load,tl7 r)
 n:QBL 78 (tl7 r) = (r.name,tl8 r)
 o:QBL 79 (tl8 r) = (r.owner,tl9 r)
 q:QBL 81 (tl9 r) = (r.group,QPp r)
 y:QBL 89 (QPp r) = (QDE 10 r.prio,QPo r)
 x:QBL 88 (QPo r) = (QDE 8 r.mode,QUZ)
theorem QOE {r:Rcd} (h:QTV r):QW7 r where
 p:=QGH (by decide) h.path
 i:=QGH (by decide) (QLO (by decide) (by decide) _)
 e:=QCg (hd3 r) (by decide) (by decide) (QOD h)
 g:=QCg (hd4 r) (by decide) (by decide) h.tag
 l:=QCg (hd5 r) (by decide) (by decide) h.link
 rn:=QCg (hd6 r) (by decide) (by decide) h.run
 m:=QCg (hd7 r) (by decide) (by decide) h.load
 n:=QCp (hd8 r) (by decide) (by decide) h.name
 o:=QCp (hd9 r) (by decide) (by decide) h.owner
 q:=QCp (hd10 r) (by decide) (by decide) h.group
 y:=QCp (hd11 r) (by decide) (by decide) (QL9 (by decide) (by decide) _)
 x:=QCp hd12 (by decide) (by decide) (QL9 (by decide) (by decide) _)

def QDG (s:List UInt8):List UInt8 × List UInt8:=match QKI 61 s with | some p=>p | none=>(s,[])
theorem QSI {p:List UInt8 × List UInt8} (h:61 ∉ p.1):QDG (QCo p) = p:=by rw [QDG,QCo,QG0 h]
theorem QQ4 {r:Rcd} (h:QTV r):(r.props.map QCo).map QDG = r.props:=by
 rw [List.map_map]
 conv=>rhs; rw [← List.map_id r.props]
 exact List.map_congr_left fun p hp=>QSI (h.key p hp).2

/-! ### The second reader: all lines, one after the other -/
def QCR:Rcd:=⟨[],0,[],[],[],[],[],[],0,[],[],0⟩
def QI4 (b:Nat) (s:List UInt8):Int:=
 let t:=if s.take 1 = [45] then s.drop 1 else s
 (if s.take 1 = [45] then -1 else 1) * (if t.length ≤ 10 then QDi b t else 0)
def QAc (x:Rcd) (s:List UInt8):Rcd:=
 let v:=s.drop 2
 let k:=s.take 2
 if s.length < 2 then x else
 if k = [80,58] then { x with path:=v } else
 if k = [73,58] then { x with index:=QI4 10 v } else
 if k = [69,58] then { x with props:=x.props ++ [QDG v] } else
 if k = [71,58] then { x with tags:=x.tags ++ [v] } else
 if k = [76,58] then { x with links:=x.links ++ [v] } else
 if k = [82,58] then { x with run:=x.run ++ [v] } else
 if k = [77,58] then { x with load:=x.load ++ [v] } else
 if k = [78,58] then { x with name:=v } else
 if k = [79,58] then { x with owner:=v } else
 if k = [81,58] then { x with group:=v } else
 if k = [89,58] then { x with prio:=QI4 10 v } else
 if k = [88,58] then { x with mode:=QI4 8 v } else x
theorem QKN {b:Nat} (hb:2 ≤ b) (hb2:b ≤ 10) {n:Int} (hn:n.natAbs < b ^ 10):QI4 b (QBA b n) = n:=by
 obtain ⟨h1,h2,h3,h4⟩:=QCO hb hb2 n.natAbs
 have hl:=h4 10 (by decide) hn
 by_cases h:n < 0
 ·rw [QBA,if_pos h]
  simp [QI4,hl,h1]; omega
 ·have e:n.toNat = n.natAbs:=by omega
  rw [QBA,if_neg h,e]
  obtain ⟨c,r,hd⟩:=List.exists_cons_of_ne_nil h3
  have hc:¬ c = 45:=fun e=>by
   have:=h2 c (by rw [hd]; simp)
   rw [e] at this
   have e2:(45:UInt8).toNat = 45:=rfl
   omega
  have h45:¬ (QCn b n.natAbs).take 1 = [45]:=by rw [hd]; simpa using hc
  simp only [QI4,if_neg h45,if_pos hl,h1]; omega
def QHV (r:Rcd):List (List UInt8):=
 (80 :: 58 :: r.path) :: (73 :: 58 :: QBA 10 r.index) :: ((r.props.map QCo).map (fun s=>69 :: 58 :: s) ++ (r.tags.map (fun s=>71 :: 58 :: s) ++ (r.links.map (fun s=>76 :: 58 :: s) ++ (r.run.map (fun s=>82 :: 58 :: s) ++ (r.load.map (fun s=>77 :: 58 :: s) ++
  ((if r.name = [] then [] else [78 :: 58 :: r.name]) ++ ((if r.owner = [] then [] else [79 :: 58 :: r.owner]) ++ ((if r.group = [] then [] else [81 :: 58 :: r.group]) ++
  ((if QDE 10 r.prio = [] then [] else [89 :: 58 :: QDE 10 r.prio]) ++ ((if QDE 8 r.mode = [] then [] else [88 :: 58 :: QDE 8 r.mode]) ++ [[46]]))))))))))
theorem QMy (b:UInt8) (l:List (List UInt8)):(l.map fun s=>b :: 58 :: s).flatMap (· ++ [10]) = QAQ b l:=by
 induction l with
 | nil=>rfl
 | cons x l ih=>simp only [List.map_cons,List.flatMap_cons,ih,QAQ]; simp [QBT]
theorem QLP (b:UInt8) (x:List UInt8):(if x = [] then [] else [b :: 58 :: x]).flatMap (· ++ [10]) = QAj b x:=by
 unfold QAj; split <;> simp [QBT]
theorem QPq (r:Rcd):QBJ r = (QHV r).flatMap (· ++ [10]):=by
 simp only [QHV,List.flatMap_cons,List.flatMap_append,QMy,QLP,QBJ]
 simp [QBT]
theorem QHW:∀ {l:List (List UInt8)},(∀ x ∈ l,10 ∉ x) → QBY 10 (l.flatMap (· ++ [10])) = l ++ [[]]
 | [],_=>rfl
 | x :: l,h=>by
  have e:(x :: l).flatMap (· ++ [10]) = x ++ 10 :: l.flatMap (· ++ [10]):=by simp
  rw [e,QEq (h x (by simp)),QHW fun y hy=>h y (by simp [hy])]; rfl
theorem QMz {r:Rcd} (h:QTV r):∀ x ∈ QHV r,10 ∉ x:=by
 intro x hx
 have cons:∀ {b:UInt8} {s:List UInt8},b ≠ 10 → 10 ∉ s → 10 ∉ b :: 58 :: s:=fun hb hs=>by simp [hs,hb.symm]
 have mp:∀ {b:UInt8} {l:List (List UInt8)},b ≠ 10 → (∀ y ∈ l,10 ∉ y) → x ∈ l.map (fun s=>b :: 58 :: s) → 10 ∉ x:=fun hb hl hx=>by
  obtain ⟨y,hy,rfl⟩:=List.mem_map.1 hx; exact cons hb (hl y hy)
 have fl:∀ {b:UInt8} {s:List UInt8},b ≠ 10 → 10 ∉ s → x ∈ (if s = [] then [] else [b :: 58 :: s]) → 10 ∉ x:=fun hb hs hx=>by
  split at hx
  ·simp at hx
  ·simp at hx; subst hx; exact cons hb hs
 simp only [QHV,List.mem_cons,List.mem_append] at hx
 rcases hx with rfl | rfl | hx | hx | hx | hx | hx | hx | hx | hx | hx | hx | hx
 ·exact cons (by decide) h.path
 ·exact cons (by decide) (QLO (by decide) (by decide) _)
 ·exact mp (by decide) (QOD h) hx
 ·exact mp (by decide) h.tag hx
 ·exact mp (by decide) h.link hx
 ·exact mp (by decide) h.run hx
 ·exact mp (by decide) h.load hx
 ·exact fl (by decide) h.name hx
 ·exact fl (by decide) h.owner hx
 ·exact fl (by decide) h.group hx
 ·exact fl (by decide) (QL9 (by decide) (by decide) _) hx
 ·exact fl (by decide) (QL9 (by decide) (by decide) _) hx
 ·rcases hx with rfl | hx
  ·simp
  ·cases hx
theorem lt2 (n:Nat):(n + 1 + 1 < 2) = False:=by simp
theorem QM0 (l:List (List UInt8)):∀ x:Rcd,(l.map fun s=>69 :: 58 :: s).foldl QAc x = { x with props:=x.props ++ l.map QDG }:=by
 induction l with
 | nil=>intro x; simp
 | cons s l ih=>intro x; simp only [List.map_cons,List.foldl_cons,ih]; simp +decide [QAc,lt2]
theorem QOF (l:List (List UInt8)):∀ x:Rcd,(l.map fun s=>71 :: 58 :: s).foldl QAc x = { x with tags:=x.tags ++ l }:=by
 induction l with
 | nil=>intro x; simp
 | cons s l ih=>intro x; simp only [List.map_cons,List.foldl_cons,ih]; simp +decide [QAc,lt2]
theorem QM1 (l:List (List UInt8)):∀ x:Rcd,(l.map fun s=>76 :: 58 :: s).foldl QAc x = { x with links:=x.links ++ l }:=by
 induction l with
 | nil=>intro x; simp
 | cons s l ih=>intro x; simp only [List.map_cons,List.foldl_cons,ih]; simp +decide [QAc,lt2]
theorem QPr (l:List (List UInt8)):∀ x:Rcd,(l.map fun s=>82 :: 58 :: s).foldl QAc x = { x with run:=x.run ++ l }:=by
 induction l with
 | nil=>intro x; simp
 | cons s l ih=>intro x; simp only [List.map_cons,List.foldl_cons,ih]; simp +decide [QAc,lt2]
theorem QOG (l:List (List UInt8)):∀ x:Rcd,(l.map fun s=>77 :: 58 :: s).foldl QAc x = { x with load:=x.load ++ l }:=by
 induction l with
 | nil=>intro x; simp
 | cons s l ih=>intro x; simp only [List.map_cons,List.foldl_cons,ih]; simp +decide [QAc,lt2]
theorem QHX (b:UInt8) (s:List UInt8) (x y:Rcd) (h1:s = [] → x = y) (h2:s ≠ [] → QAc x (b :: 58 :: s) = y):(if s = [] then [] else [b :: 58 :: s]).foldl QAc x = y:=by
 split
 ·exact h1 (by assumption)
 ·exact h2 (by assumption)
theorem QFm {b:Nat} (hb:2 ≤ b) (hb2:b ≤ 10) {n:Int}:QDE b n = [] ↔ n = 0:=by
 unfold QDE; split
 ·simp [*]
 ·simp [*,QEr hb hb2]
theorem QMA {b:Nat} (hb:2 ≤ b) (hb2:b ≤ 10) {n:Int} (hn:n.natAbs < b ^ 10) (h:QDE b n ≠ []):QI4 b (QDE b n) = n:=by
 have h0:n ≠ 0:=fun e=>h ((QFm hb hb2).2 e)
 rw [QDE,if_neg h0]; exact QKN hb hb2 hn
theorem QI5 {r:Rcd} (h:QTV r):(QBY 10 (QBJ r)).foldl QAc QCR = r:=by
 rw [QPq,QHW (QMz h)]
 have hi:=h.index
 have hp:=h.prio
 have hm:=h.mode
 simp only [QHV,List.foldl_cons,List.foldl_append,QM0,QOF,QM1,QPr,QOG,QQ4 h]
 have e1:QAc QCR (80 :: 58 :: r.path) = { QCR with path:=r.path }:=by simp +decide [QAc,lt2]
 have e2:∀ x:Rcd,QAc x (73 :: 58 :: QBA 10 r.index) = { x with index:=r.index }:=fun x=>by
  simp +decide [QAc,lt2,QKN (b:=10) (by decide) (by decide) (n:=r.index) (by omega)]
 have en:∀ x:Rcd,x.name = [] → (if r.name = [] then [] else [78 :: 58 :: r.name]).foldl QAc x = { x with name:=r.name }:=fun x hx=>
  QHX _ _ _ _ (fun e=>by rw [e,← hx]) fun _=>by simp +decide [QAc,lt2]
 have eo:∀ x:Rcd,x.owner = [] → (if r.owner = [] then [] else [79 :: 58 :: r.owner]).foldl QAc x = { x with owner:=r.owner }:=fun x hx=>
  QHX _ _ _ _ (fun e=>by rw [e,← hx]) fun _=>by simp +decide [QAc,lt2]
 have eg:∀ x:Rcd,x.group = [] → (if r.group = [] then [] else [81 :: 58 :: r.group]).foldl QAc x = { x with group:=r.group }:=fun x hx=>
  QHX _ _ _ _ (fun e=>by rw [e,← hx]) fun _=>by simp +decide [QAc,lt2]
 have ey:∀ x:Rcd,x.prio = 0 → (if QDE 10 r.prio = [] then [] else [89 :: 58 :: QDE 10 r.prio]).foldl QAc x = { x with prio:=r.prio }:=fun x hx=>
  QHX _ _ _ _ (fun e=>by rw [(QFm (by decide) (by decide)).1 e,← hx]) fun e=>by
   simp +decide [QAc,lt2,QMA (b:=10) (by decide) (by decide) (n:=r.prio) (by omega) e]
 have ex:∀ x:Rcd,x.mode = 0 → (if QDE 8 r.mode = [] then [] else [88 :: 58 :: QDE 8 r.mode]).foldl QAc x = { x with mode:=r.mode }:=fun x hx=>
  QHX _ _ _ _ (fun e=>by rw [(QFm (by decide) (by decide)).1 e,← hx]) fun e=>by
   simp +decide [QAc,lt2,QMA (b:=8) (by decide) (by decide) (n:=r.mode) (by omega) e]
 have ed:∀ x:Rcd,QAc x [46] = x:=fun x=>by simp [QAc]
 have e0:∀ x:Rcd,QAc x [] = x:=fun x=>by simp [QAc]
 rw [e1,e2,en _ rfl,eo _ rfl,eg _ rfl,ey _ rfl,ex _ rfl]
 simp [ed,e0,QCR]

theorem QD6 {r r':Rcd} (h:QAb r = true) (h':QAb r' = true) (he:QBJ r = QBJ r'):r = r':=by
 rw [← QI5 (QFD h),← QI5 (QFD h'),he]

/-! ### What is decoded -/
def QSJ (s:List UInt8):Prop:=∃ r,QAb r = true ∧ QBJ r = s
noncomputable def QNI (s:List UInt8):AV:=
 open Classical in if h:QSJ s then .tup [.agg (QAU h.choose),.int .i64 0] else .tup [.agg (QAU QCR),.int .i64 251]
end Go.Ab
