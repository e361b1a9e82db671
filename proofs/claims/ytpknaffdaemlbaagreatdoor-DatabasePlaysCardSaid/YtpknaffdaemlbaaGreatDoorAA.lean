/- A layer of abstract values over the model, and what is proved with it: part AA. -/
import Derived.Test.YtpknaffdaemlbaaGreatDoorOX
import Derived.Test.YtpknaffdaemlbaaGreatDoorCX
import Derived.Test.YtpknaffdaemlbaaGreatDoorT2
import Derived.Test.YtpknaffdaemlbaaGreatDoorSB
import Derived.Test.YtpknaffdaemlbaaGreatDoorK3
set_option maxRecDepth 20000
set_option maxHeartbeats 4000000
namespace Go.Ab
open Go Go.Proofs
def c28:AFn:=⟨(sq [(ox 2 (.mov (.v .nils)))] (sq [(ox 3 (.mov (.v .nils)))] (.seq (sq [(mv 7 0),(x3 8 7),(z1 9 1 8),(z2 10 9),(ox 11 (.mrange (t 10)))] (.block 0 (.loop (sq [(ox 12 (.mnext (t 11))),(z7 13 12 0)] (.seq (cd 13 .skip (.exit 0)) (.block 1 (sq [(ox 14 (.mentry (t 11))),(z7 15 14 0),(mv 4 15)] (sq [(mv 17 0),(mv 18 4),(y8 19 49 17 18),(mv 16 19),(z7 20 16 0),(z7 21 16 1),(ox 5 (.alloc 34 rz)),(y5 12 5 20),(mv 6 21)] (sq [(mv 22 6)] (cd 22 (.ops [(mv 23 3),(y1 24 12 5),(x7 25 34 12 24),(x6 26 34 12 208 23 25),(mv 3 26)]) .skip)))))))))) (sq [(mv 27 3),(ox 28 (fc 59 [(t 27),(.v (.fn (.func 60) [] []))]))] (sq [(mv 29 3),(mv 2 29)] .ret))))),30,[(.tmp 2)]⟩
theorem c28_ok:QAE Tryz.prog [] 28 = some c28:=by kernel_rfl
def c29:AFn:=⟨(sq [(ox 2 (.mov (.v .nils)))] (sq [(ox 3 (.mov (.v .nils)))] (.seq (sq [(mv 8 0),(x3 9 8),(z1 10 1 9),(z2 11 10),(y7 12 52 11),(y7 13 51 12),(y9 14 13),(z3 15 0)] (.block 0 (.loop (sq [(z9 16 .lss 15 14)] (.seq (cd 16 .skip (.exit 0)) (.seq (.block 1 (sq [(z6 17 1 13 15),(z2 18 17),(mv 5 18)] (sq [(mv 20 0),(mv 21 5),(y8 22 49 20 21),(mv 19 22),(z7 23 19 0),(z7 24 19 1),(ox 6 (.alloc 34 rz)),(y5 12 6 23),(mv 7 24)] (sq [(mv 25 7),(x5 26 25)] (cd 26 (.ops [(mv 27 3),(mv 28 5),(x7 29 9 1 28),(x6 30 9 1 16 27 29),(mv 3 30)]) .skip))))) (.ops [(z8 31 .add 15 1),(mv 15 31)]))))))) (sq [(mv 32 3),(mv 2 32)] .ret)))),33,[(.tmp 2)]⟩
theorem c29_ok:QAE Tryz.prog [] 29 = some c29:=by kernel_rfl
def c27:AFn:=⟨(sq [(ox 2 (.mov (.v .nilp)))] (sq [(ox 8 (fc 12 [])),(mv 3 8)] (.seq (sq [(mv 9 0),(y9 10 9),(z3 11 0)] (.block 0 (.loop (sq [(z9 12 .lss 11 10)] (.seq (cd 12 .skip (.exit 0)) (.seq (.block 1 (sq [(z6 13 2 9 11),(y1 14 2 13),(ox 5 (.alloc 53 [(.str []),(.str [])])),(y5 2 5 14)] (.seq (.draw [(mv 16 3),(x3 17 16),(z1 18 1 17),(z2 19 18),(z1 20 0 5),(z2 21 20),(ox 22 (.lookup .str (.str []) true (t 19) (t 21))),(mv 15 22),(z7 23 15 0),(z7 24 15 1),(mv 6 23),(mv 7 24)] [0,1,3,7,0,16,63,127,255,255,511,2047]) (sq [(mv 25 7),(mv 26 25),(z5 27 3 26),(of 28 (.nilchk (t 27)) 26),(of 29 (fa 1 28) 26),(of 30 (ld 29) 26),(of 31 (.len .mp (t 30)) 26),(of 32 (b1 .lss 31 512) 26),(y4 33 26 32)] (cd 33 (.draw [(mv 34 3),(x3 35 34),(z1 36 1 35),(z2 37 36),(z1 38 0 5),(z2 39 38),(z1 40 1 5),(z2 41 40),(on (.mapset .str (t 37) (t 39) (t 41)))] [0,1,3,7,0,16,0,64,255]) .skip))))) (.ops [(z8 42 .add 11 1),(mv 11 42)]))))))) (sq [(mv 43 3),(mv 44 3),(x3 45 44),(z1 46 1 45),(z2 47 46),(y7 48 43 47),(x3 49 43),(z1 50 0 49),(y6 50 48)] (sq [(mv 51 3),(mv 2 51)] .ret))))),52,[(.tmp 2)]⟩
theorem c27_ok:QAE Tryz.prog [] 27 = some c27:=by kernel_rfl
def c36:AFn:=⟨(sq [(z3 4 0)] (sq [(mv 10 0),(mv 11 1),(y8 12 49 10 11),(mv 9 12),(z7 13 9 0),(z7 14 9 1),(ox 5 (.alloc 34 rz)),(y5 12 5 13),(mv 6 14)] (.seq (sq [(mv 16 0),(x3 17 16),(z1 18 1 17),(z2 19 18),(mv 20 1),(ox 21 (.lookup .str (.str []) true (t 19) (t 20))),(mv 15 21),(z7 22 15 0),(z7 23 15 1),(mv 7 22),(mv 8 23)] (sq [(mv 24 8),(x5 25 24),(mv 26 25),(z5 27 6 26),(y4 28 26 27)] (cd 28 (sq [(z3 4 262)] .ret) .skip))) (sq [(mv 29 0),(mv 30 1),(ox 31 (.build [(.str []),(.str [])] [(0,(1,(t 30)))])),(ox 32 (.mkfn (.func 46) [(t 31)] [])),(y8 33 45 29 32),(mv 4 33)] .ret)))),34,[(.tmp 4)]⟩
theorem c36_ok:QAE Tryz.prog [] 36 = some c36:=by kernel_rfl
def c33:AFn:=⟨(sq [(y2 4)] (.seq (sq [(mv 6 0),(y9 7 6),(mv 8 1),(y9 9 8),(z9 10 .neq 7 9)] (cd 10 (sq [(y2 4)] .ret) .skip)) (.seq (sq [(z3 5 0)] (.block 0 (.loop (.seq (sq [(mv 11 5),(mv 12 0),(y9 13 12),(z9 14 .lss 11 13)] (cd 14 .skip (.exit 0))) (.seq (.block 1 (.seq (.draw [(mv 17 0),(mv 18 5),(z6 19 12 17 18),(y1 20 12 19),(mv 21 1),(mv 22 5),(z6 23 12 21 22),(y1 24 12 23),(y8 25 50 20 24),(x5 26 25)] [0,0,3,7,0,0,48,112,255,511]) (cd 26 (sq [(y2 4)] .ret) .skip))) (.ops [(mv 15 5),(z8 16 .add 15 1),(mv 5 16)])))))) (sq [(ox 4 (mb true))] .ret)))),27,[(.tmp 4)]⟩
theorem c33_ok:QAE Tryz.prog [] 33 = some c33:=by kernel_rfl
end Go.Ab
namespace Go.Ab
open Go Go.Proofs Go.Sort
theorem QJT {β:Type} {k:List UInt8} {v:β}:∀ {m:QB1 β} {j:Nat},m[j]? = some (some (k,v)) → QAv k m ≠ none
 | [],j,h=>by simp at h
 | none :: r,0,h=>by simp at h
 | none :: r,j + 1,h=>by simpa [QAv] using QJT (m:=r) (j:=j) (by simpa using h)
 | some p :: r,0,h=>by simp at h; subst h; simp [QAv]
 | some p :: r,j + 1,h=>by
  have:=QJT (m:=r) (j:=j) (by simpa using h)
  simp only [QAv]
  split
  ·simp
  ·exact this
theorem QOv {β:Type} {k:List UInt8} {v w:β}:∀ {m:QB1 β} {i j:Nat},QAx m → m[i]? = some (some (k,v)) → m[j]? = some (some (k,w)) → i = j
 | [],i,j,_,h,_=>by simp at h
 | none :: r,0,_,_,h,_=>by simp at h
 | none :: r,_ + 1,0,_,_,h=>by simp at h
 | none :: r,i + 1,j + 1,ho,h1,h2=>by rw [QOv (m:=r) (i:=i) (j:=j) ho (by simpa using h1) (by simpa using h2)]
 | some p :: r,0,0,_,_,_=>rfl
 | some p :: r,0,j + 1,ho,h1,h2=>by
  simp at h1; subst h1
  exact absurd ho.1 (QJT (m:=r) (j:=j) (by simpa using h2))
 | some p :: r,i + 1,0,ho,h1,h2=>by
  simp at h2; subst h2
  exact absurd ho.1 (QJT (m:=r) (j:=i) (by simpa using h1))
 | some p :: r,i + 1,j + 1,ho,h1,h2=>by rw [QOv (m:=r) (i:=i) (j:=j) ho.2 (by simpa using h1) (by simpa using h2)]
structure Fine (m:QAs) (n:Nat):Prop extends Good m n where
 tx:∀ k t,QAv k m = some t → t.length ≤ 40000
theorem Fine.nil:Fine [] 0:=⟨.nil,by simp [QAv]⟩
theorem Fine.set {m:QAs} {n:Nat} {k v:List UInt8} (h:Fine m n) (hk:k.length ≤ 1000000) (hv:v.length ≤ 40000):Fine (QC4 k v m) (n + 1):=
 ⟨h.toGood.set hk v,fun j t ht=>by
  rw [QBQ] at ht
  split at ht
  ·cases ht; exact hv
  ·exact h.tx j t ht⟩
theorem Fine.del {m:QAs} {n:Nat} (h:Fine m n) (k:List UInt8):Fine (QDt k m) n:=
 ⟨h.toGood.del k,fun j t ht=>by
  rw [QCK j k h.o] at ht
  split at ht
  ·cases ht
  ·exact h.tx j t ht⟩
theorem Fine.le {m:QAs} {n n':Nat} (h:Fine m n) (hn:n ≤ n'):Fine m n':=⟨⟨h.o,h.k,Nat.le_trans h.n hn⟩,h.tx⟩
structure SeenR (seen:QAs) (vis:List Nat) (l:List Rcd):Prop where
 nd:vis.Nodup
 lt:∀ j ∈ vis,j < seen.length
 mem:∀ r,r ∈ l ↔ QAb r = true ∧ ∃ j ∈ vis,seen[j]? = some (some (QAw r.path,QBJ r))
 ds:l.Pairwise fun a b=>a.path ≠ b.path
 len:l.length ≤ vis.length
theorem SeenR.nil (seen:QAs):SeenR seen [] []:=⟨by simp,by simp,by simp,.nil,Nat.le_refl _⟩
theorem SeenR.step {seen:QAs} {vis:List Nat} {l:List Rcd} (h:SeenR seen vis l) (ho:QAx seen) {j:Nat} {n t:List UInt8} (hj:seen[j]? = some (some (n,t))) (hn:j ∉ vis) {r:Rcd} {b:Bool} (hr:QH0 seen n r b):
  SeenR seen (vis ++ [j]) (if b = true then l ++ [r] else l):=by
 have hjl:=(List.getElem?_eq_some_iff.1 hj).1
 have hg:=QGg ho hj
 have nd:(vis ++ [j]).Nodup:=by
  rw [List.nodup_append]
  refine ⟨h.nd,by simp,fun a ha b hb=>?_⟩
  simp at hb; subst hb
  exact fun e=>hn (e ▸ ha)
 have lt:∀ x ∈ vis ++ [j],x < seen.length:=fun x hx=>by
  rcases List.mem_append.1 hx with hx | hx
  ·exact h.lt x hx
  ·simp at hx; omega
 rcases hr with ⟨x,hx,hxe,he,rfl,rfl⟩ | ⟨hno,rfl,rfl⟩
 ·rw [hg] at hxe
  simp only [Option.getD_some] at hxe
  rw [if_pos rfl]
  refine ⟨nd,lt,fun s=>?_,?_,by simp; exact h.len⟩
  ·rw [List.mem_append,h.mem]
   constructor
   ·rintro (⟨hs,k,hk,hks⟩ | hs)
    ·exact ⟨hs,k,List.mem_append_left _ hk,hks⟩
    ·simp at hs; subst hs
     exact ⟨hx,j,by simp,by rw [hj,← he,hxe]⟩
   ·rintro ⟨hs,k,hk,hks⟩
    rcases List.mem_append.1 hk with hk | hk
    ·exact .inl ⟨hs,k,hk,hks⟩
    ·simp at hk; subst hk
     rw [hj] at hks
     simp only [Option.some.injEq,Prod.mk.injEq] at hks
     refine .inr ?_
     simp
     exact QD6 hs hx (hks.2.symm.trans hxe.symm)
  ·rw [List.pairwise_append]
   refine ⟨h.ds,by simp,fun a ha b hb=>?_⟩
   simp at hb; subst hb
   obtain ⟨_,k,hk,hks⟩:=(h.mem a).1 ha
   intro e
   rw [e] at hks
   have h1:=QGg ho hks
   rw [he,hg] at h1
   rw [he] at hks
   have:k = j:=QOv ho hks hj
   exact hn (this ▸ hk)
 ·rw [if_neg (by simp)]
  refine ⟨nd,lt,fun s=>?_,h.ds,by simp; exact Nat.le_succ_of_le h.len⟩
  rw [h.mem]
  constructor
  ·rintro ⟨hs,k,hk,hks⟩
   exact ⟨hs,k,List.mem_append_left _ hk,hks⟩
  ·rintro ⟨hs,k,hk,hks⟩
   rcases List.mem_append.1 hk with hk | hk
   ·exact ⟨hs,k,hk,hks⟩
   ·simp at hk; subst hk
    rw [hj] at hks
    simp only [Option.some.injEq,Prod.mk.injEq] at hks
    exact (hno s hs (by rw [hg,hks.2]; rfl) hks.1.symm).elim
theorem SeenR.all {seen:QAs} {vis:List Nat} {l l':List Rcd} (h:SeenR seen vis l) (ho:QAx seen) (hA:∀ (j:Nat) (p:List UInt8 × List UInt8),seen[j]? = some (some p) → j ∈ vis) (h1:∀ x,x ∈ l' ↔ x ∈ l) (h2:QNK l'):AllOf seen l':=
 ⟨fun r=>by
  rw [h1,h.mem]
  constructor
  ·rintro ⟨hs,j,_,hj⟩
   exact ⟨hs,QGg ho hj⟩
  ·rintro ⟨hs,hg⟩
   obtain ⟨j,hj⟩:=QML hg
   exact ⟨hs,j,hA j _ hj,hj⟩,h2⟩
theorem QBS {r:Rcd} (h:QAb r = true):QAd r.path = true:=by
 simp only [QAb,Bool.and_eq_true] at h
 exact h.1.1.1.1.1.1.1.1.1.1.1
theorem QEB (is:List Nat) (l:List Rcd):QA4 is (l.map QAU) = l.map QAU:=by
 induction l with
 | nil=>rfl
 | cons x r ih=>rw [List.map_cons,QA4,ih,QA5]
theorem QVx (dur seen:QAs) (pend:List Wr) {n:Nat} (hF:Fine seen n) (hn:n ≤ 1000):
  ACallsR Tryz.prog 28 [.ptr 0 0] (dbO dur seen pend) (fun v G=>G = dbO dur seen pend ∧ ∃ l,AllOf seen l ∧ v = .imm (l.map QAU)):=by
 have hcl:=QBI
 have hwr:=QAr
 have hsr:=QAp
 have hrc:=QBZ
 have hrr:=QEB
 have hsl:=hF.n
 have hsc:∀ (m:QAs) (k:Nat) (a b:AV),(a,b) ∈ smK .str m → QAM k a = true ∧ QAM k b = true:=fun m k=>QBU (k:=k) fun _=>rfl
 refine QC0 _ 0 c28_ok ?_
 unfold c28 dbO dbB mO
 simp +decide -dsimp -implicitDefEqProofs [go_sem]
 refine QAR (S:=List Nat × List Rcd) (fun s=>⟨tmps 30 [(0,.ptr 0 0),(3,.own 5 s.2.length),(11,.it 4)],[.box 83 [.map 1,.map 2,.own 3 pend.length],.map (smK .str dur),.map (smK .str seen),.reg 88 1 (pend.map QCG),.iter 2 seen.length s.1,.reg 34 12 (s.2.map QAU)]⟩) (fun s=>seen.length - s.1.length) (fun s=>SeenR seen s.1 s.2) ([],[]) (SeenR.nil seen) ((Wk.nilT 3 34 12 rfl (by simp)).trans (QAD (by simp) ?_)) ?_
 ·simp +decide -dsimp -implicitDefEqProofs [go_sem,hcl]
  exact ⟨hsc _ _,hsc _ _⟩
 rintro ⟨vis,l⟩ hv
 simp only at hv
 simp +decide -dsimp -implicitDefEqProofs [go_sem]
 refine QQA (i:=4) (m:=2) (kvs:=smK AV.str seen) rfl rfl (QIe AV.str seen).symm (fun hA=>?_) (fun j kk x hj hg hnj=>?_)
 ·have hll:l.length ≤ 1000:=by
   have h1:=hv.len
   have h2:=QG3 seen.length vis hv.nd hv.lt
   omega
  have cs:=QNF l (by omega) (fun x hx=>QBS ((hv.mem x).1 hx).1) hv.ds
  simp +decide -dsimp -implicitDefEqProofs [go_sem]
  refine QAk [5] cs rfl (fun v G ⟨_,_,_,_,_,hG⟩=>by rw [hG]; rfl) (by simp) (by simp +decide -dsimp -implicitDefEqProofs [go_sem]) (by simp +decide -dsimp -implicitDefEqProofs [go_sem,hrr]) ?_
  rintro _ _ ⟨rfl,l',h1,h2,h3,rfl⟩
  simp +decide -dsimp -implicitDefEqProofs [go_sem,hrr]
  refine QAT (.imm (l'.map QAU)) (dbO dur seen pend) ⟨rfl,l',hv.all hF.o (fun j p hj=>hA j _ (QS4 hj).1 rfl) h1 h3,rfl⟩ rfl ?_
  simp +decide -dsimp -implicitDefEqProofs [go_sem,dbO,dbB,QAl,hcl,hrc,h2]
  exact ⟨hsc _ _,hsc _ _⟩
 ·obtain ⟨p,hjp,rfl,rfl⟩:=QVo hj hg
  obtain ⟨nm,tx⟩:=p
  have hjl:=(List.getElem?_eq_some_iff.1 hjp).1
  have hvl:=QVt hv.nd hv.lt hjl hnj
  rw [List.length_append] at hvl
  simp only [List.length_cons,List.length_nil] at hvl
  have hgs:=QGg hF.o hjp
  obtain ⟨r,b,hr,cr⟩:=QMY dur seen pend nm (by rw [hgs]; have:=hF.tx _ _ hgs; simp only [Option.getD_some]; omega)
  have hst:=hv.step hF.o hjp hnj hr
  have hll:l.length ≤ 1000:=by
   have h1:=hv.len
   have h2:=QG3 seen.length vis hv.nd hv.lt
   omega
  unfold QGn dbO dbB mO at cr
  have hj':(smK AV.str seen)[j]? = some (AV.str nm,AV.str tx):=hj
  simp +decide -dsimp -implicitDefEqProofs [go_sem,hj',QCC]
  refine QAB [0,1,2,3] cr rfl rfl (by simp) (by simp +decide -dsimp -implicitDefEqProofs [go_sem]) (by simp +decide -dsimp -implicitDefEqProofs [go_sem,hsr,hwr]) ?_
  cases b with
  | true=>
   have ha:l.map QAU ++ [QAU r] = (l ++ [r]).map QAU:=by simp
   simp only [if_true] at hst
   simp +decide -dsimp -implicitDefEqProofs [go_sem,hsr,hwr,QAN,QA5,QAP,maxLen]
   refine ⟨⟨by omega,by omega⟩,?_⟩
   rw [ha]
   refine QAI (vis ++ [j],l ++ [r]) hst (by show seen.length - (vis ++ [j]).length < seen.length - vis.length; simp; omega) (QAD (by simp) ?_)
   simp +decide -dsimp -implicitDefEqProofs [go_sem,hcl,hrc]
   exact ⟨hsc _ _,hsc _ _,QAg _ _⟩
  | false=>
   simp only [Bool.false_eq_true,if_false] at hst
   simp +decide -dsimp -implicitDefEqProofs [go_sem,hsr,hwr,QAN,QA5]
   refine QAI (vis ++ [j],l) hst (by show seen.length - (vis ++ [j]).length < seen.length - vis.length; simp; omega) (QAD (by simp) ?_)
   simp +decide -dsimp -implicitDefEqProofs [go_sem,hcl,hrc]
   exact ⟨hsc _ _,hsc _ _⟩
end Go.Ab
namespace Go.Ab
open Go Go.Proofs
theorem QJU (l:List Rcd) (hf:∀ x ∈ l,Fit x) (hn:l.length ≤ 100000):ACalls Tryz.prog 33 [.imm (l.map QAU),.imm (l.map QAU)] [] (.bool true) []:=by
 have hrc:=QBZ
 refine QAF c33_ok rfl ?_
 unfold c33
 simp +decide -dsimp -implicitDefEqProofs [go_sem]
 refine QAR (S:=Nat) (fun i=>⟨tmps 27 [(0,.imm (l.map QAU)),(1,.imm (l.map QAU)),(5,.int .i64 i)],[]⟩) (fun i=>l.length - i) (fun i=>i ≤ l.length) 0 (by simp) (QAD (by simp) ?_) ?_
 ·simp +decide -dsimp -implicitDefEqProofs [go_sem,hrc]
 intro i hi
 by_cases h:i < l.length
 ·have w:IntKind.i64.wrap ((i:Int) + 1) = i + 1:=w64 (by omega) (by omega)
  have cs:=QGp l[i] l[i] (hf _ (by simp)) (hf _ (by simp))
  rw [decide_eq_true rfl] at cs
  simp +decide -dsimp -implicitDefEqProofs [go_sem,h,QAN,QAP]
  refine QAO cs (by simp +decide -dsimp -implicitDefEqProofs [go_sem,QAg]) rfl ?_
  simp +decide -dsimp -implicitDefEqProofs [go_sem,w]
  refine QAI (i + 1) (by show i + 1 ≤ l.length; omega) (by show l.length - (i + 1) < l.length - i; omega) (QAD (by simp) ?_)
  simp +decide -dsimp -implicitDefEqProofs [go_sem,hrc]
 ·have e:i = l.length:=by omega
  subst e
  simp +decide -dsimp -implicitDefEqProofs [go_sem]
end Go.Ab
namespace Go.Ab
open Go Go.Proofs
def QIB (m:QAs) (e:List UInt8 × List UInt8):QAs:=if (QAv e.1 m).isSome = true ∨ QGM m < 512 then QC4 e.1 e.2 m else m
def QCQ (l:List (List UInt8 × List UInt8)):QAs:=l.foldl QIB []
theorem QVy (l:List (List UInt8 × List UInt8)) (hn:l.length ≤ 100000):ACallsR Tryz.prog 27 [.imm (l.map QBM)] [] (fun v G=>v = .ptr 0 0 ∧ G = dbO (QCQ l) (QCQ l) []):=by
 have hsr:=QAp
 have hec:=QAY
 have hn0:∀ (is:List Nat),QA4 is [] = []:=fun _=>rfl
 have hsc:∀ (m:QAs) (k:Nat) (a b:AV),(a,b) ∈ smK .str m → QAM k a = true ∧ QAM k b = true:=fun m k=>QBU (k:=k) fun _=>rfl
 refine QFq _ c27_ok ?_
 unfold c27
 simp +decide -dsimp -implicitDefEqProofs [go_sem]
 refine QBG [] 4 QTE rfl (fun v G h=>by rw [h.2]; rfl) (by show (List.range' 0 4).Nodup; decide) rfl (by simp) ?_
 rintro _ _ ⟨rfl,rfl⟩
 simp +decide -dsimp -implicitDefEqProofs [go_sem,dbO,dbB,mO,hsr,hn0]
 refine QAR (S:=Nat) (fun i=>⟨tmps 52 [(0,.imm (l.map QBM)),(3,.ptr 0 0),(9,.imm (l.map QBM)),(10,.int .i64 l.length),(11,.int .i64 i)],[.box 83 [.map 1,.map 2,.own 3 0],.map (smK .str ([]:QAs)),.map (smK .str (QCQ (l.take i))),.reg 88 1 []]⟩) (fun i=>l.length - i) (fun i=>i ≤ l.length) 0 (by simp) (QAD (by simp) ?_) ?_
 ·simp +decide -dsimp -implicitDefEqProofs [go_sem,hec,QCQ,smK]
 intro i hi
 by_cases h:i < l.length
 ·have w:IntKind.i64.wrap ((i:Int) + 1) = i + 1:=w64 (by omega) (by omega)
  have hnx:QCQ (l.take (i + 1)) = QIB (QCQ (l.take i)) l[i]:=by
   unfold QCQ; rw [List.take_succ_eq_append_getElem h,List.foldl_append]; rfl
  generalize QCQ (l.take i) = m at hnx
  have hk:=QCY AV.str l[i].1 m
  have hf:=QCl AV.str l[i].1 m
  have hlv:=QFr AV.str m
  have hst:=QHj AV.str l[i].1 l[i].2 m
  unfold QIB at hnx
  cases hg:QAv l[i].1 m with
  | none=>
   rw [hg] at hf hnx
   simp only [Option.isSome_none,Bool.false_eq_true,false_or] at hnx
   by_cases hc:QGM m < 512
   ·rw [if_pos hc] at hnx
    have hc':(QGM m:Int) < 512:=by omega
    simp +decide -dsimp -implicitDefEqProofs [go_sem,h,QBM,hk,hf,hlv,hc',hst,w]
    refine QAI (i + 1) (by show i + 1 ≤ l.length; omega) (by show l.length - (i + 1) < l.length - i; omega) (QAD (by simp) ?_)
    rw [hnx]
    simp +decide -dsimp -implicitDefEqProofs [go_sem,hec]
    exact hsc _ _
   ·rw [if_neg hc] at hnx
    have hc':¬ (QGM m:Int) < 512:=by omega
    simp +decide -dsimp -implicitDefEqProofs [go_sem,h,QBM,hk,hf,hlv,hc',w]
    refine QAI (i + 1) (by show i + 1 ≤ l.length; omega) (by show l.length - (i + 1) < l.length - i; omega) (QAD (by simp) ?_)
    rw [hnx]
    simp +decide -dsimp -implicitDefEqProofs [go_sem,hec]
    exact hsc _ _
  | some t0=>
   rw [hg] at hf hnx
   simp only [Option.isSome_some,true_or,if_true] at hnx
   simp +decide -dsimp -implicitDefEqProofs [go_sem,h,QBM,hk,hf,hst,w]
   refine QAI (i + 1) (by show i + 1 ≤ l.length; omega) (by show l.length - (i + 1) < l.length - i; omega) (QAD (by simp) ?_)
   rw [hnx]
   simp +decide -dsimp -implicitDefEqProofs [go_sem,hec]
   exact hsc _ _
 ·have e:i = l.length:=by omega
  subst e
  rw [List.take_length]
  simp +decide -dsimp -implicitDefEqProofs [go_sem]
  refine QBG [2] 1 (QLh (smK .str (QCQ l))) rfl (fun v G h=>by rw [h.2]; rfl) (by simp +decide) (by simp +decide -dsimp -implicitDefEqProofs [go_sem]) (by simp +decide -dsimp -implicitDefEqProofs [go_sem,hsr]) ?_
  rintro _ _ ⟨rfl,rfl⟩
  simp +decide -dsimp -implicitDefEqProofs [go_sem,hsr]
  refine QCJ ([.junk,.junk,.ptr 0 0] ++ List.replicate 49 .junk) (dbO (QCQ l) (QCQ l) []) (Wk.ren [0,4,2,3] (by decide) rfl (by decide) (fun j hj=>absurd hj (by simp)) (fun j m s l hj=>absurd hj (by simp)) ?_ ?_) ?_
  ·simp +decide -dsimp -implicitDefEqProofs [go_sem,dbO,dbB,QAl,hsr,hn0]
  ·simp +decide -dsimp -implicitDefEqProofs [go_sem,rnT]
  ·simp +decide -dsimp -implicitDefEqProofs [go_sem,QB7]
end Go.Ab
namespace Go.Ab
open Go Go.Proofs
def QCA (m:QAs) (n:List UInt8):Prop:=∃ x,QAb x = true ∧ QBJ x = (QAv n m).getD [] ∧ QAw x.path = n
theorem QGR {m:QAs} {n:List UInt8} {r:Rcd} {b:Bool} (h:QH0 m n r b):b = true ↔ QCA m n:=by
 rcases h with ⟨x,h1,h2,h3,_,rfl⟩ | ⟨hno,_,rfl⟩
 ·exact ⟨fun _=>⟨x,h1,h2,h3⟩,fun _=>rfl⟩
 ·exact ⟨by simp,fun ⟨x,h1,h2,h3⟩=>(hno x h1 h2 h3).elim⟩
open Classical in
noncomputable def QFx (m:QAs):List (List UInt8):=(QFy (ksS m)).filter fun n=>!decide (QCA m n)
theorem QJV {m:QAs} (h:QAx m) {n:List UInt8}:n ∈ QFx m ↔ QAv n m ≠ none ∧ ¬ QCA m n:=by
 unfold QFx
 rw [List.mem_filter,QJW,QED h]
 simp [Option.isSome_iff_ne_none]
theorem QKm (dur seen:QAs) (pend:List Wr) {n:Nat} (hF:Fine seen n) (hn:n ≤ 100000):
  ACalls Tryz.prog 29 [.ptr 0 0] (dbO dur seen pend) (.imm ((QFx seen).map QAf)) (dbO dur seen pend):=by
 classical
 have hcl:=QBI
 have hwr:=QAr
 have hsr:=QAp
 have hsc:∀ (m:QAs) (k:Nat) (a b:AV),(a,b) ∈ smK .str m → QAM k a = true ∧ QAM k b = true:=fun m k=>QBU (k:=k) fun _=>rfl
 have hss:∀ (k:Nat) (l:List (List UInt8)),QAV k (l.map QAf) = true:=fun k l=>QAa fun _ _=>rfl
 have hkl:(QFy (ksS seen)).length ≤ seen.length:=by rw [QC2]; exact List.length_filterMap_le _ _
 have hsl:=hF.n
 have hs:=QMV AV.str seen hF.o (fun x hx=>Nat.le_trans (hF.k x hx) (by decide)) (by omega)
 have hread:∀ k:List UInt8,∃ r b,b = decide (QCA seen k) ∧ ACalls Tryz.prog 49 [.ptr 0 0,.str k] (dbO dur seen pend) (QGn r b) (dbO dur seen pend):=fun k=>by
  obtain ⟨r,b,hr,cr⟩:=QMY dur seen pend k (by
   cases hg:QAv k seen with
   | none=>simp
   | some t=>have:=hF.tx _ _ hg; simp only [Option.getD_some]; omega)
  refine ⟨r,b,?_,cr⟩
  have:=QGR hr
  cases b <;> simp_all
 have hdm:QFx seen = (QFy (ksS seen)).filter fun n=>!decide (QCA seen n):=by unfold QFx; congr
 rw [hdm]
 generalize QFy (ksS seen) = ks at hs hkl
 refine QAF c29_ok rfl ?_
 unfold c29
 unfold dbO dbB mO QGn at hread
 unfold dbO dbB mO
 simp +decide -dsimp -implicitDefEqProofs [go_sem]
 refine QBG [2] 1 (QRW AV.str seen) rfl (fun v G h=>by rw [h.2]; rfl) (by simp +decide) (by simp +decide -dsimp -implicitDefEqProofs [go_sem]) (by simp +decide -dsimp -implicitDefEqProofs [go_sem,hsr]) ?_
 rintro _ _ ⟨rfl,rfl⟩
 simp +decide -dsimp -implicitDefEqProofs [go_sem,hsr]
 refine QBG [2,4] 1 hs rfl (fun v G h=>by rw [h.2]; rfl) (by simp +decide) (by simp +decide -dsimp -implicitDefEqProofs [go_sem]) (by simp +decide -dsimp -implicitDefEqProofs [go_sem,hsr]) ?_
 rintro _ _ ⟨rfl,rfl⟩
 have hkr:∀ (is:List Nat) (l:List (List UInt8)),QA4 is (l.map fun k=>[AV.str k]) = l.map fun k=>[AV.str k]:=fun is l=>QBg is l
 simp +decide -dsimp -implicitDefEqProofs [go_sem,hsr,hkr]
 refine QAR (S:=Nat) (fun i=>⟨tmps 33 [(0,.ptr 0 0),(3,.own 6 ((ks.take i).filter fun n=>!decide (QCA seen n)).length),(13,.own 5 ks.length),(14,.int .i64 ks.length),(15,.int .i64 i)],[.box 83 [.map 1,.map 2,.own 3 pend.length],.map (smK .str dur),.map (smK .str seen),.reg 88 1 (pend.map QCG),.box 80 [.map 2],.reg 9 1 (ks.map fun k=>[.str k]),.reg 9 1 (((ks.take i).filter fun n=>!decide (QCA seen n)).map QAf)]⟩) (fun i=>ks.length - i) (fun i=>i ≤ ks.length) 0 (by simp) ((Wk.nilT 3 9 1 rfl (by simp)).trans (QAD (by simp) ?_)) ?_
 ·simp +decide -dsimp -implicitDefEqProofs [go_sem,hcl]
  (repeat' apply And.intro) <;> first | exact hsc _ _ | exact QAa fun _ _=>rfl | rfl
 intro i hi
 by_cases h:i < ks.length
 ·have w:IntKind.i64.wrap ((i:Int) + 1) = i + 1:=w64 (by omega) (by omega)
  obtain ⟨r,b,hb,cr⟩:=hread ks[i]
  have htk:(ks.take (i + 1)).filter (fun n=>!decide (QCA seen n)) = (ks.take i).filter (fun n=>!decide (QCA seen n)) ++ (if b = true then [] else [ks[i]]):=by
   rw [List.take_succ_eq_append_getElem h,List.filter_append]
   congr 1
   cases b <;> simp [← hb]
  have hfl:((ks.take i).filter fun n=>!decide (QCA seen n)).length ≤ ks.length:=Nat.le_trans (List.length_filter_le _ _) (by simp; omega)
  generalize (ks.take i).filter (fun n=>!decide (QCA seen n)) = fl at htk hfl
  simp +decide -dsimp -implicitDefEqProofs [go_sem,h]
  refine QAB [0,1,2,3] cr rfl rfl (by simp) (by simp +decide -dsimp -implicitDefEqProofs [go_sem]) (by simp +decide -dsimp -implicitDefEqProofs [go_sem,hsr,hwr]) ?_
  cases b with
  | true=>
   simp +decide -dsimp -implicitDefEqProofs [go_sem,hsr,hwr,QAN,QA5,w]
   refine QAI (i + 1) (by show i + 1 ≤ ks.length; omega) (by show ks.length - (i + 1) < ks.length - i; omega) (QAD (by simp) ?_)
   rw [htk]
   simp +decide -dsimp -implicitDefEqProofs [go_sem,hcl,hss]
   (repeat' apply And.intro) <;> first | exact hsc _ _ | exact QAa fun _ _=>rfl | rfl
  | false=>
   have ha:fl.map QAf ++ [[AV.str ks[i]]] = (fl ++ [ks[i]]).map QAf:=by simp [QAf]
   simp +decide -dsimp -implicitDefEqProofs [go_sem,hsr,hwr,QAN,QA5,w,maxLen]
   refine ⟨⟨by omega,by omega⟩,?_⟩
   rw [ha]
   refine QAI (i + 1) (by show i + 1 ≤ ks.length; omega) (by show ks.length - (i + 1) < ks.length - i; omega) (QAD (by simp) ?_)
   rw [htk]
   simp +decide -dsimp -implicitDefEqProofs [go_sem,hcl,hss]
   (repeat' apply And.intro) <;> first | exact hsc _ _ | exact QAa fun _ _=>rfl | rfl
 ·have e:i = ks.length:=by omega
  subst e
  rw [List.take_length]
  simp +decide -dsimp -implicitDefEqProofs [go_sem,hcl,hss]
  exact ⟨hsc _ _,hsc _ _⟩
end Go.Ab
namespace Go.Ab
open Go Go.Proofs
theorem QOw (dur seen:QAs) (pend:List Wr) (nm:List UInt8) {n:Nat} (hF:Fine seen n) (hp:pend.length < 1000000):
  (QAv nm seen ≠ none ∧ ¬ QCA seen nm → ACalls Tryz.prog 36 [.ptr 0 0,.str nm] (dbO dur seen pend) (.int .i64 0) (dbO dur (QDt nm seen) (pend ++ [(nm,none)]))) ∧
  (QAv nm seen = none ∨ QCA seen nm → ACalls Tryz.prog 36 [.ptr 0 0,.str nm] (dbO dur seen pend) (.int .i64 262) (dbO dur seen pend)):=by
 have hcl:=QBI
 have hwr:=QAr
 have hsr:=QAp
 have hsc:∀ (m:QAs) (k:Nat) (a b:AV),(a,b) ∈ smK .str m → QAM k a = true ∧ QAM k b = true:=fun m k=>QBU (k:=k) fun _=>rfl
 have h1:∀ (w:Wr) (is:List Nat),QA4 is [QCG w] = [QCG w]:=fun w is=>QAr is [w]
 obtain ⟨r,b,hr,cr⟩:=QMY dur seen pend nm (by
  cases hg:QAv nm seen with
  | none=>simp
  | some t=>have:=hF.tx _ _ hg; simp only [Option.getD_some]; omega)
 have hb:=QGR hr
 have cd:=QXj dur seen pend (nm,none) hp
 have hk:=QCY AV.str nm seen
 have hf:=QCl AV.str nm seen
 unfold QGn dbO dbB mO at cr
 unfold dbO dbB mO at cd ⊢
 unfold wAV at cd
 refine ⟨fun ⟨h,hw⟩=>?_,fun h=>?_⟩
 ·obtain ⟨t,hg⟩:=Option.ne_none_iff_exists'.1 h
  rw [hg] at hf
  obtain rfl:b = false:=by
   cases b with
   | false=>rfl
   | true=>exact (hw (hb.1 rfl)).elim
  refine QAF c36_ok rfl ?_
  unfold c36
  simp +decide -dsimp -implicitDefEqProofs [go_sem]
  refine QAB [0,1,2,3] cr rfl rfl (by simp) (by simp +decide -dsimp -implicitDefEqProofs [go_sem]) (by simp +decide -dsimp -implicitDefEqProofs [go_sem,hsr,hwr]) ?_
  simp +decide -dsimp -implicitDefEqProofs [go_sem,hsr,hwr,QAN,QA5,hk,hf]
  refine QAB [0,1,2,3] cd rfl rfl (by simp) (by simp +decide -dsimp -implicitDefEqProofs [go_sem]) (by simp +decide -dsimp -implicitDefEqProofs [go_sem,hsr,hwr]) ?_
  simp +decide -dsimp -implicitDefEqProofs [go_sem,hsr,hwr,hcl,doW,h1]
  exact ⟨hsc _ _,hsc _ _,QGS _ _⟩
 ·refine QAF c36_ok rfl ?_
  unfold c36
  simp +decide -dsimp -implicitDefEqProofs [go_sem]
  refine QAB [0,1,2,3] cr rfl rfl (by simp) (by simp +decide -dsimp -implicitDefEqProofs [go_sem]) (by simp +decide -dsimp -implicitDefEqProofs [go_sem,hsr,hwr]) ?_
  cases hg:QAv nm seen with
  | none=>
   rw [hg] at hf
   simp +decide -dsimp -implicitDefEqProofs [go_sem,hsr,hwr,QAN,QA5,hk,hf,hcl]
   exact ⟨hsc _ _,hsc _ _⟩
  | some t=>
   rw [hg] at hf
   obtain rfl:b = true:=hb.2 (h.resolve_left (by simp [hg]))
   simp +decide -dsimp -implicitDefEqProofs [go_sem,hsr,hwr,QAN,QA5,hk,hf,hcl]
   exact ⟨hsc _ _,hsc _ _⟩
end Go.Ab
namespace Go.Ab
open Go Go.Proofs
def AllW (m:QAs):Prop:=∀ k t,QAv k m = some t → ∃ r,QAb r = true ∧ QAw r.path = k ∧ QBJ r = t
theorem AllW.nil:AllW []:=fun k t h=>by simp [QAv] at h
theorem AllW.put {m:QAs} (h:AllW m) {r:Rcd} (hS:QAb r = true):AllW (QC4 (QAw r.path) (QBJ r) m):=fun k t ht=>by
 rw [QBQ] at ht
 split at ht
 ·rename_i e; cases ht; exact ⟨r,hS,e,rfl⟩
 ·exact h k t ht
theorem QIm {l:List Rcd} (h:QNK l):(l.map fun r=>QAw r.path).Nodup:=by
 unfold List.Nodup
 rw [List.pairwise_map]
 refine h.imp fun {a b} hab e=>?_
 rw [QDY e] at hab
 simp only [QEv,QEg] at hab
 exact List.lt_irrefl _ hab
theorem AllOf.len {m:QAs} {l:List Rcd} (h:AllOf m l) (ho:QAx m) (hW:AllW m):l.length = (QAn m).length:=by
 have hp:(l.map fun r=>QAw r.path).Perm (ksS m):=(List.perm_ext_iff_of_nodup (QIm h.asc) (QCu ho)).2 fun k=>by
  rw [QED ho,List.mem_map]
  constructor
  ·rintro ⟨r,hr,rfl⟩
   rw [((h.mem r).1 hr).2]; rfl
  ·intro hk
   obtain ⟨t,ht⟩:=Option.isSome_iff_exists.1 hk
   obtain ⟨r,h1,h2,h3⟩:=hW k t ht
   exact ⟨r,(h.mem r).2 ⟨h1,by rw [h2,h3]; exact ht⟩,h2⟩
 have:=hp.length_eq
 rw [List.length_map] at this
 unfold QAn
 rw [List.length_map,QC2,this]
theorem QEC {m:QAs} (ho:QAx m) {k t:List UInt8}:(k,t) ∈ QAn m ↔ QAv k m = some t:=by
 unfold QAn
 rw [List.mem_map]
 constructor
 ·rintro ⟨x,hx,e⟩
  rw [QJW,QED ho] at hx
  obtain ⟨u,hu⟩:=Option.isSome_iff_exists.1 hx
  simp only [Prod.mk.injEq] at e
  obtain ⟨rfl,rfl⟩:=e
  rw [hu]; rfl
 ·intro h
  exact ⟨k,by rw [QJW,QED ho,h]; rfl,by rw [h]; rfl⟩
end Go.Ab
