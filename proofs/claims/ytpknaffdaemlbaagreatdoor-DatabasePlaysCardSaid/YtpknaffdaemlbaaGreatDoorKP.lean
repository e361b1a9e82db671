/- A layer of abstract values over the model, and what is proved with it: part KP. -/
import Derived.Test.YtpknaffdaemlbaaGreatDoorOX
import Derived.Test.YtpknaffdaemlbaaGreatDoorCX
import Derived.Test.YtpknaffdaemlbaaGreatDoorKB
import Derived.Test.YtpknaffdaemlbaaGreatDoorAA
import Derived.Test.YtpknaffdaemlbaaGreatDoorK3
set_option maxRecDepth 20000
set_option maxHeartbeats 16000000
namespace Go.Ab
open Go Go.Proofs
def c37:AFn:=⟨(sq [(y2 2)] (sq [(z3 3 0)] (.seq (sq [(z3 4 0)] (.block 0 (.loop (.seq (sq [(mv 5 4),(mv 6 0),(y9 7 6),(z9 8 .lss 5 7)] (cd 8 .skip (.exit 0))) (.seq (.block 1 (.draw [(mv 11 3),(mv 12 0),(mv 13 4),(z6 14 2 12 13),(z1 15 0 14),(z2 16 15),(ox 17 (.len .str (t 16))),(mv 18 0),(mv 19 4),(z6 20 2 18 19),(z1 21 1 20),(z2 22 21),(ox 23 (.len .str (t 22))),(z9 24 .add 17 23),(z9 25 .add 11 24),(mv 3 25)] [0,0,0,6,14,30,62,0,0,384,896,1920,3968,8190,16383,32767])) (.ops [(mv 9 4),(z8 10 .add 9 1),(mv 4 10)])))))) (sq [(mv 26 3),(z8 27 .leq 26 8000),(mv 28 27),(z4 29 0 28),(ot 30 (.len .sl (t 29)) 28),(ot 31 (b1 .leq 30 40) 28),(y3 32 28 31),(mv 2 32)] .ret)))),33,[(.tmp 2)]⟩
theorem c37_ok:QAE Tryz.prog [] 37 = some c37:=by kernel_rfl
def c38:AFn:=⟨(sq [(ox 4 (.mov (.v .nils)))] (sq [(ox 5 (.mov (.v .nils)))] (.seq (sq [(mv 12 0),(ox 13 (fc 13 [(t 12),(iv 6)])),(mv 6 13)] (.block 0 (.loop (.seq (sq [(mv 14 6),(z8 15 .gtr 14 0)] (cd 15 .skip (.exit 0))) (.seq (.block 1 (sq [(mv 18 0),(mv 19 0),(y7 20 15 19),(mv 21 0),(ox 22 (fc 13 [(t 21),(iv 9)])),(ox 23 (.bin .add (iv 1) (t 22))),(ox 24 (fc 17 [(t 18),(t 20),(t 23)])),(ox 7 (.alloc 34 rz)),(y5 12 7 24)] (sq [(y1 26 12 7),(y7 27 70 26),(mv 25 27),(z7 28 25 0),(z7 29 25 1),(mv 8 28),(mv 9 29)] (sq [(z1 31 0 7),(z2 32 31),(y7 33 71 32),(mv 30 33),(z7 34 30 0),(z7 35 30 1),(mv 10 34),(mv 11 35)] (.seq (sq [(mv 36 0),(ox 37 (fc 13 [(t 36),(iv 6)]))] (.block 2 (sq [(z8 39 .eql 37 0),(mv 38 39)] (cd 38 (.ops [(mv 40 8),(mv 41 0),(mv 42 8),(ox 43 (.len .str (t 42))),(z8 44 .add 43 1),(y8 45 13 41 44),(ox 46 (.slice .str 0 (t 40) none (some (t 45)))),(mv 8 46)]) (sq [(z8 48 .eql 37 1),(mv 47 48)] (cd 47 (.ops [(mv 49 0),(ox 50 (.bslice 9 1 false [(.v (.str [95,50,102,97])),(.v (.str [95,50,70,97])),(.v (.str [120])),es,(.v (.str [95,50,102,115,100]))])),(y8 51 44 49 50),(mv 10 51)]) .skip)))))) (.ops [(mv 52 5),(mv 53 10),(mv 54 8),(ox 55 (.build [(.str []),(.str [])] [(0,(1,(t 53))),(1,(1,(t 54)))])),(x7 56 53 2 55),(x6 57 53 2 32 52 56),(mv 5 57)])))))) (.ops [(mv 16 6),(z8 17 .sub 16 1),(mv 6 17)])))))) (sq [(mv 58 5),(mv 59 1),(x6 60 53 2 32 58 59),(mv 4 60)] .ret)))),61,[(.tmp 4)]⟩
theorem c38_ok:QAE Tryz.prog [] 38 = some c38:=by kernel_rfl
end Go.Ab
namespace Go.Ab
open Go Go.Proofs
def c10:AFn:=⟨(sq [(y2 8)] (.seq (sq [(mv 16 1),(y7 17 37 16),(x5 18 17),(mv 19 18),(z5 20 2 19),(of 21 (.len .str (t 20)) 19),(z5 22 3 19),(of 23 (.len .str (t 22)) 19),(of 24 (b2 .add 21 23) 19),(of 25 (b1 .gtr 24 2000) 19),(y4 26 19 25)] (cd 26 (sq [(ox 27 (fc 22 [])),(mv 8 27)] .ret) .skip)) (sq [(mv 28 0),(ox 29 (.build [.nils,(.int .i64 0)] [(0,(1,(t 28)))])),(x4 30 25 29),(mv 9 30)] (sq [(mv 31 9),(mv 32 1),(y8 33 38 31 32),(mv 10 33)] (sq [(mv 34 10),(y7 35 27 34),(mv 36 10),(y7 37 39 36),(ox 12 (.alloc 72 [.nils,.nils])),(mv 11 35),(y5 2 12 37)] (.seq (sq [(mv 38 11),(ox 39 (.ext (.pnil false) [(t 38)]))] (cd 39 (sq [(y2 8)] .ret) .skip)) (.seq (sq [(mv 40 9),(ox 41 (fc 13 [(t 40),(iv 16)])),(mv 13 41)] (.block 0 (.loop (.seq (sq [(mv 42 13),(z8 43 .geq 42 0)] (cd 43 .skip (.exit 0))) (.seq (.block 1 (.seq (sq [(mv 46 11),(y1 47 2 12),(y8 48 40 46 47),(x5 49 48)] (cd 49 (sq [(y2 8)] .ret) .skip)) (sq [(mv 51 9),(mv 52 11),(y1 53 2 12),(mv 54 2),(mv 55 3),(ox 56 (fc 41 [(t 51),(t 52),(t 53),(t 54),(t 55)])),(mv 50 56),(z7 57 50 0),(z7 58 50 1),(ox 14 (.alloc 72 [.nils,.nils])),(y5 2 14 57),(mv 15 58)] (sq [(y1 59 2 14),(y5 2 12 59)] (sq [(mv 60 15),(x5 61 60)] (cd 61 (sq [(y2 8)] .ret) .skip)))))) (.ops [(mv 44 13),(z8 45 .sub 44 1),(mv 13 45)])))))) (sq [(mv 62 11),(y1 63 2 12),(y8 64 40 62 63),(mv 65 64),(ot 66 (fc 22 []) 65),(y3 67 65 66),(mv 8 67)] .ret)))))))),68,[(.tmp 8)]⟩
theorem c10_ok:QAE Tryz.prog [] 10 = some c10:=by kernel_rfl
end Go.Ab
namespace Go.Ab
open Go Go.Proofs Go.Sort
theorem QQj {α:Type} {P:List α → Prop} (h0:P []) (hs:∀ l e,P l → P (l ++ [e])) (l:List α):P l:=by
 have:∀ r:List α,P r.reverse:=fun r=>by
  induction r with
  | nil=>exact h0
  | cons a r ih=>rw [List.reverse_cons]; exact hs _ _ ih
 have h:=this l.reverse
 rwa [List.reverse_reverse] at h
theorem QRc {x:Nat}:∀ {l:List Nat},x ∈ l → x ≤ l.sum
 | y :: l,h=>by
  rw [List.sum_cons]
  rcases List.mem_cons.1 h with rfl | h
  ·omega
  ·have:=QRc h; omega
theorem QO9 {m:QAs} (h:QAx m) (e:Ent):QAx (QIB m e):=by
 unfold QIB; split
 ·exact QD8 _ _ h
 ·exact h
theorem QEt (l:List Ent) (e:Ent):QCQ (l ++ [e]) = QIB (QCQ l) e:=by unfold QCQ; rw [List.foldl_append]; rfl
theorem QPA (l:List Ent):QAx (QCQ l):=by
 induction l using QQj with
 | h0=>exact trivial
 | hs l e ih=>rw [QEt]; exact QO9 ih e
theorem QKo (l:List Ent):(QCQ l).length ≤ l.length:=by
 induction l using QQj with
 | h0=>exact Nat.le_refl _
 | hs l e ih=>
  rw [QEt,List.length_append]
  unfold QIB
  have:=QHw e.1 e.2 (QCQ l)
  simp only [List.length_cons,List.length_nil]
  split <;> omega
def Okl (l:List Ent):Prop:=∀ e ∈ l,e.1.length ≤ 1000000 ∧ e.2.length ≤ 40000
theorem QNH (l:List Ent) (h:Okl l):Fine (QCQ l) l.length:=by
 induction l using QQj with
 | h0=>exact .nil
 | hs l e ih=>
  have h1:=ih fun x hx=>h x (by simp [hx])
  have h2:=h e (by simp)
  rw [QEt,List.length_append]
  unfold QIB
  split
  ·exact h1.set h2.1 h2.2
  ·exact h1.le (by simp)
theorem Cpl.load (l:List Ent) (h:Okl l) (hn:l.length ≤ 1000):Cpl (QCQ l) (QCQ l) [] l.length:=by
 have hF:=QNH l h
 have:=QKo l
 exact ⟨⟨hF.o,hF,fun _=>rfl,by simp; omega⟩,by simp; omega,hF,by simp⟩
theorem QTJ (l:List Ent) (hn:l.length ≤ 1000):ACalls Tryz.prog 39 [.imm (l.map QBM)] [] (QBs (QCQ l) []) []:=by
 have hec:=QAY
 refine QAF c39_ok rfl ?_
 unfold c39 QBs
 simp +decide -dsimp -implicitDefEqProofs [go_sem]
 refine QAR (S:=Nat) (fun i=>⟨tmps 35 [(0,.imm (l.map QBM)),(2,.ptr 0 0),(3,.ptr 1 0),(4,.int .i64 i)],[.box 72 [.nils,.nils],.box 72 [.imm ((QAn (QCQ (l.take i))).map QBM),.nils]]⟩) (fun i=>l.length - i) (fun i=>i ≤ l.length) 0 (by simp) (QAD (by simp) ?_) ?_
 ·simp +decide -dsimp -implicitDefEqProofs [go_sem,hec,show QAn (QCQ []) = [] from by unfold QAn; simp [QCQ,ksS,QFy]]
 intro i hi
 by_cases h:i < l.length
 ·have w:IntKind.i64.wrap ((i:Int) + 1) = i + 1:=w64 (by omega) (by omega)
  have hnx:QCQ (l.take (i + 1)) = QIB (QCQ (l.take i)) l[i]:=by
   rw [List.take_succ_eq_append_getElem h,QEt]
  have ho:=QPA (l.take i)
  have hl:=QKo (l.take i)
  rw [List.length_take] at hl
  generalize QCQ (l.take i) = m at hnx ho hl
  have hle:=QHu m
  have hle2:=QEi (m:=m)
  have ch:=QRV (QAn m) l[i].1 (by omega)
  have ca:=QLb (QAn m) (l[i].1,some l[i].2) (by omega)
  rw [← QJR ho] at ca
  rw [QJ7 ho] at ch
  unfold wrR at ca
  simp only [Option.getD_some,Option.isNone_some] at ca
  unfold QIB at hnx
  have hdo:doW m (l[i].1,some l[i].2) = QC4 l[i].1 l[i].2 m:=rfl
  rw [hdo] at ca
  by_cases hc:QGM m < 512
  ·have hc':((QAn m).length:Int) < 512:=by omega
   rw [if_pos (.inr hc)] at hnx
   rw [← hnx] at ca
   simp +decide -dsimp -implicitDefEqProofs [go_sem,h,hc',QBM]
   refine QAO ca (by simp +decide -dsimp -implicitDefEqProofs [go_sem,hec]) (by simp +decide -dsimp -implicitDefEqProofs [go_sem,hec]) ?_
   simp +decide -dsimp -implicitDefEqProofs [go_sem,w]
   refine QAI (i + 1) (by show i + 1 ≤ l.length; omega) (by show l.length - (i + 1) < l.length - i; omega) (QAD (by simp) ?_)
   simp +decide -dsimp -implicitDefEqProofs [go_sem,hec]
  ·have hc':¬ ((QAn m).length:Int) < 512:=by omega
   simp +decide -dsimp -implicitDefEqProofs [go_sem,h,hc',QBM]
   refine QAO ch (by simp +decide -dsimp -implicitDefEqProofs [go_sem,hec]) rfl ?_
   cases hg:(QAv l[i].1 m).isSome with
   | true=>
    rw [if_pos (.inl hg)] at hnx
    rw [← hnx] at ca
    simp +decide -dsimp -implicitDefEqProofs [go_sem,h,QBM]
    refine QAO ca (by simp +decide -dsimp -implicitDefEqProofs [go_sem,hec]) (by simp +decide -dsimp -implicitDefEqProofs [go_sem,hec]) ?_
    simp +decide -dsimp -implicitDefEqProofs [go_sem,w]
    refine QAI (i + 1) (by show i + 1 ≤ l.length; omega) (by show l.length - (i + 1) < l.length - i; omega) (QAD (by simp) ?_)
    simp +decide -dsimp -implicitDefEqProofs [go_sem,hec]
   | false=>
    rw [if_neg (by rw [hg]; exact fun h=>h.elim (fun h=>by cases h) hc)] at hnx
    simp +decide -dsimp -implicitDefEqProofs [go_sem,w]
    refine QAI (i + 1) (by show i + 1 ≤ l.length; omega) (by show l.length - (i + 1) < l.length - i; omega) (QAD (by simp) ?_)
    rw [hnx]
    simp +decide -dsimp -implicitDefEqProofs [go_sem,hec]
 ·have e:i = l.length:=by omega
  subst e
  rw [List.take_length]
  simp +decide -dsimp -implicitDefEqProofs [go_sem,hec]
def QRd (l:List Ent):Int:=l.foldl (fun n e=>IntKind.i64.wrap (n + IntKind.i64.wrap (e.1.length + e.2.length))) 0
theorem QKp (l:List Ent) (e:Ent):QRd (l ++ [e]) = IntKind.i64.wrap (QRd l + IntKind.i64.wrap (e.1.length + e.2.length)):=by unfold QRd; rw [List.foldl_append]; rfl
def QV8 (l:List Ent):Bool:=decide (QRd l ≤ 8000) && decide (l.length ≤ 40)
def QTK (l:List Ent):Nat:=(l.map fun e=>e.1.length + e.2.length).sum
theorem QTL (l:List Ent) (hl:l.length ≤ 40) (h:∀ e ∈ l,e.1.length ≤ 0x7ffffffff000 ∧ e.2.length ≤ 0x7ffffffff000):QRd l = QTK l ∧ QTK l ≤ l.length * 0xffffffffe000:=by
 induction l using QQj with
 | h0=>exact ⟨rfl,by simp [QTK]⟩
 | hs l e ih=>
  rw [List.length_append] at hl
  simp only [List.length_cons,List.length_nil] at hl
  obtain ⟨h1,h2⟩:=ih (by omega) fun x hx=>h x (by simp [hx])
  have h3:=h e (by simp)
  have h4:QTK (l ++ [e]) = QTK l + (e.1.length + e.2.length):=by simp [QTK]
  rw [QKp,h1,h4,List.length_append]
  simp only [List.length_cons,List.length_nil]
  have h5:l.length * 0xffffffffe000 ≤ 40 * 0xffffffffe000:=Nat.mul_le_mul_right _ (by omega)
  rw [w64 (n:=(e.1.length:Int) + e.2.length) (by omega) (by omega),w64 (by omega) (by omega)]
  omega
theorem QTM {l:List Ent} (h:QV8 l = true) (hb:∀ e ∈ l,e.1.length ≤ 0x7ffffffff000 ∧ e.2.length ≤ 0x7ffffffff000):l.length ≤ 40 ∧ ∀ e ∈ l,e.1.length ≤ 8000 ∧ e.2.length ≤ 8000:=by
 unfold QV8 at h
 rw [Bool.and_eq_true,decide_eq_true_eq,decide_eq_true_eq] at h
 refine ⟨h.2,fun e he=>?_⟩
 have h1:=(QTL l h.2 hb).1
 have h2:e.1.length + e.2.length ≤ QTK l:=QRc (List.mem_map.2 ⟨e,he,rfl⟩)
 omega
end Go.Ab
namespace Go.Ab
open Go Go.Proofs Go.Sort
theorem QXk (l:List Ent) (hl:l.length ≤ maxLen):ACalls Tryz.prog 37 [.imm (l.map QBM)] [] (.bool (QV8 l)) []:=by
 have hec:=QAY
 unfold maxLen at hl
 refine QAF c37_ok rfl ?_
 unfold c37
 simp +decide -dsimp -implicitDefEqProofs [go_sem]
 refine QAR (S:=Nat) (fun i=>⟨tmps 33 [(0,.imm (l.map QBM)),(3,.int .i64 (QRd (l.take i))),(4,.int .i64 i)],[]⟩) (fun i=>l.length - i) (fun i=>i ≤ l.length) 0 (by simp) (QAD (by simp) ?_) ?_
 ·simp +decide -dsimp -implicitDefEqProofs [go_sem,hec,QRd]
 intro i hi
 by_cases h:i < l.length
 ·have w:IntKind.i64.wrap ((i:Int) + 1) = i + 1:=w64 (by omega) (by omega)
  have hnx:=QKp (l.take i) l[i]
  rw [← List.take_succ_eq_append_getElem h] at hnx
  simp +decide -dsimp -implicitDefEqProofs [go_sem,h,QBM,w]
  refine QAI (i + 1) (by show i + 1 ≤ l.length; omega) (by show l.length - (i + 1) < l.length - i; omega) (QAD (by simp) ?_)
  rw [hnx]
  simp +decide -dsimp -implicitDefEqProofs [go_sem,hec]
 ·have e:i = l.length:=by omega
  subst e
  rw [List.take_length]
  unfold QV8
  by_cases h1:QRd l ≤ 8000
  ·simp +decide -dsimp -implicitDefEqProofs [go_sem,h1]
   omega
  ·simp +decide -dsimp -implicitDefEqProofs [go_sem,h1]
def oneN:List (List UInt8):=[[95,50,102,97],[95,50,70,97],[120],[],[95,50,102,115,100]]
theorem QQk:∀ x ∈ oneN,x.length ≤ 5:=by decide
structure okN (n k:Nat) (s:Nat × Nat × List Ent):Prop where
 hi:s.1 ≤ n
 hk:s.2.1 ≤ k + 1 + 500 * s.1
 hl:s.2.2.length ≤ s.1
 ho:Okl s.2.2
theorem Okl.snoc {E:List Ent} (h:Okl E) {a t:List UInt8} (h1:a.length ≤ 1000000) (h2:t.length ≤ 40000):Okl (E ++ [(a,t)]):=fun e he=>by
 rcases List.mem_append.1 he with he | he
 ·exact h e he
 ·rw [List.mem_singleton.1 he]; exact ⟨h1,h2⟩
def entR (t:List Int) (k:Nat) (raw:List Ent) (v:AV) (G:List AObj):Prop:=∃ (E:List Ent) (k':Nat),v = .imm ((E ++ raw).map QBM) ∧ G = [QAK t k'] ∧ E.length ≤ 5 ∧ Okl E ∧ k' ≤ k + 3000
theorem QPB (t:List Int) (k:Nat) (raw:List Ent) (hr:raw.length ≤ 1000) (hk:k < 500000000):ACallsR Tryz.prog 38 [.ptr 0 0,.imm (raw.map QBM)] [QAK t k] (entR t k raw):=by
 have b0:=QAy (QAZ t k) 6 (by omega)
 obtain ⟨n,hn⟩:∃ n:Nat,fold (QAZ t k) 6 = n:=⟨_,(Int.toNat_of_nonneg b0.1).symm⟩
 have c0:=QBK t k 6 (by omega) (by omega)
 rw [hn] at b0 c0
 have hec:=QAY
 have her:=QFe
 have hrow:∀ r:Rcd,QAU r = [.str r.path,.int .i64 r.index,.imm (r.props.map QBF),.imm (r.tags.map QAf),.imm (r.links.map QAf),.imm (r.run.map QAf),.imm (r.load.map QAf),.str r.name,.int .i64 r.prio,.str r.owner,.str r.group,.int .i64 r.mode]:=fun _=>rfl
 have hoN:[[AV.str [95,50,102,97]],[.str [95,50,70,97]],[.str [120]],[.str []],[.str [95,50,102,115,100]]] = oneN.map QAf:=rfl
 refine QC0 (entR t k raw) 0 c38_ok ?_
 unfold c38
 simp +decide -dsimp -implicitDefEqProofs [go_sem]
 refine QAB [0] c0 rfl rfl (by simp) (by simp +decide -dsimp -implicitDefEqProofs [go_sem]) (by simp +decide -dsimp -implicitDefEqProofs [go_sem,QAC]) ?_
 simp +decide -dsimp -implicitDefEqProofs [go_sem,QAC]
 refine QAR (S:=Nat × Nat × List Ent) (fun s=>⟨tmps 61 [(0,.ptr 0 0),(1,.imm (raw.map QBM)),(5,.own 1 s.2.2.length),(6,.int .i64 ((n - s.1:Nat):Int))],[QAK t s.2.1,.reg 53 2 (s.2.2.map QBM)]⟩) (fun s=>n - s.1) (okN n k) (0,k + 1,[]) ⟨by simp,by simp,by simp,by simp [Okl]⟩ ((Wk.nilT 5 53 2 rfl (by simp)).trans (QAD (by simp) ?_)) ?_
 ·simp +decide -dsimp -implicitDefEqProofs [go_sem,QAK,hec]
 rintro ⟨i,k1,E⟩ ⟨hi,hk1,hl,ho⟩
 simp only at hi hk1 hl ho
 by_cases h:i < n
 ·have h':0 < n - i:=by omega
  have w:IntKind.i64.wrap (((n - i:Nat):Int) - 1) = ((n - (i + 1):Nat):Int):=by rw [w64 (by omega) (by omega)]; omega
  simp +decide -dsimp -implicitDefEqProofs [go_sem,h']
  refine QAk [0] (QI8 t k1 (by omega)) rfl (fun v G ⟨_,_,_,hG,_⟩=>by rw [hG]; rfl) (by simp) (by simp +decide -dsimp -implicitDefEqProofs [go_sem]) (by simp +decide -dsimp -implicitDefEqProofs [go_sem,QAC]) ?_
  rintro _ _ ⟨p,k2,rfl,rfl,hpl,hk2⟩
  have c1:=QBK t k2 9 (by omega) (by omega)
  have b1:=QAy (QAZ t k2) 9 (by omega)
  generalize fold (QAZ t k2) 9 = gi at c1 b1
  have wg:IntKind.i64.wrap (1 + gi) = 1 + gi:=w64 (by omega) (by omega)
  simp +decide -dsimp -implicitDefEqProofs [go_sem,QAC]
  refine QAB [0] c1 rfl rfl (by simp) (by simp +decide -dsimp -implicitDefEqProofs [go_sem]) (by simp +decide -dsimp -implicitDefEqProofs [go_sem,QAC]) ?_
  simp +decide -dsimp -implicitDefEqProofs [go_sem,QAC,wg]
  refine QAk [0] (QHc t (k2 + 1) p (1 + gi) (by omega) hpl (by omega)) rfl (fun v G ⟨_,_,_,hG,_⟩=>by rw [hG]; rfl) (by simp) (by simp +decide -dsimp -implicitDefEqProofs [go_sem]) (by simp +decide -dsimp -implicitDefEqProofs [go_sem,QAC]) ?_
  rintro _ _ ⟨r,k3,rfl,rfl,hS,hrp,_,hk3⟩
  have ce:=QJl r (QBf hS).few
  rw [(QII hS).1,(QII hS).2] at ce
  have cn:=QFL r.path (by have:=(QBf hS).path; omega)
  unfold QKt at cn
  simp only [QBS hS,if_true] at cn
  have hs:=QC7 hS
  have ha:=QHQ (QBS hS)
  generalize QBJ r = s at ce hs
  generalize QAw r.path = a at cn ha
  have cg:=QBK t k3 6 (by omega) (by omega)
  have bg:=QAy (QAZ t k3) 6 (by omega)
  generalize fold (QAZ t k3) 6 = g at cg bg
  simp +decide -dsimp -implicitDefEqProofs [go_sem,QAC,QAN,QAP,QA5]
  refine QAA ce (by simp +decide -dsimp -implicitDefEqProofs [go_sem,QAg]) rfl ?_
  simp +decide -dsimp -implicitDefEqProofs [go_sem,hrow]
  refine QAA cn rfl rfl ?_
  simp +decide -dsimp -implicitDefEqProofs [go_sem]
  refine QAB [0] cg rfl rfl (by simp) (by simp +decide -dsimp -implicitDefEqProofs [go_sem]) (by simp +decide -dsimp -implicitDefEqProofs [go_sem,QAC]) ?_
  by_cases g0:g = 0
  ·subst g0
   have wl:IntKind.i64.wrap ((s.length:Int) + 1) = s.length + 1:=w64 (by omega) (by omega)
   have cj:=QBK t (k3 + 1) (s.length + 1) (by omega) (by omega)
   have bj:=QAy (QAZ t (k3 + 1)) (s.length + 1) (by omega)
   obtain ⟨j,hj⟩:∃ j:Nat,fold (QAZ t (k3 + 1)) (s.length + 1) = j:=⟨_,(Int.toNat_of_nonneg bj.1).symm⟩
   rw [hj] at cj bj
   have hjs:j ≤ s.length:=by omega
   have e3:E.map QBM ++ [[AV.str a,.str (s.take j)]] = (E ++ [(a,s.take j)]).map QBM:=by simp [QBM]
   simp +decide -dsimp -implicitDefEqProofs [go_sem,QAC,wl]
   refine QAB [0] cj rfl rfl (by simp) (by simp +decide -dsimp -implicitDefEqProofs [go_sem]) (by simp +decide -dsimp -implicitDefEqProofs [go_sem,QAC]) ?_
   simp +decide -dsimp -implicitDefEqProofs [go_sem,QAC,hjs,w,maxLen]
   refine ⟨⟨by omega,by omega⟩,?_⟩
   rw [e3]
   refine QAI (i + 1,k3 + 1 + 1,E ++ [(a,s.take j)]) ⟨by show i + 1 ≤ n; omega,by show k3 + 1 + 1 ≤ k + 1 + 500 * (i + 1); omega,by rw [List.length_append]; show E.length + 1 ≤ i + 1; omega,ho.snoc ha (by rw [List.length_take]; omega)⟩ (by show n - (i + 1) < n - i; omega) (QAD (by simp) ?_)
   simp +decide -dsimp -implicitDefEqProofs [go_sem,QAK,hec,QBM]
  ·by_cases g1:g = 1
   ·subst g1
    have hone:=QEN t (k3 + 1) oneN (by omega) (by decide) (by decide)
    have hmem:=QQk _ (QBW (ss:=oneN) (QAZ t (k3 + 1)) (by decide))
    generalize QGq oneN (QAZ t (k3 + 1)) = x at hone hmem
    unfold QDc at hone
    have e3:E.map QBM ++ [[AV.str x,.str s]] = (E ++ [(x,s)]).map QBM:=by simp [QBM]
    simp +decide -dsimp -implicitDefEqProofs [go_sem,QAC]
    rw [hoN]
    refine QAB [0] hone rfl rfl (by simp) (by simp +decide -dsimp -implicitDefEqProofs [go_sem]) (by simp +decide -dsimp -implicitDefEqProofs [go_sem,QAC]) ?_
    simp +decide -dsimp -implicitDefEqProofs [go_sem,QAC,w,maxLen]
    refine ⟨⟨by omega,by omega⟩,?_⟩
    rw [e3]
    refine QAI (i + 1,k3 + 1 + 1,E ++ [(x,s)]) ⟨by show i + 1 ≤ n; omega,by show k3 + 1 + 1 ≤ k + 1 + 500 * (i + 1); omega,by rw [List.length_append]; show E.length + 1 ≤ i + 1; omega,ho.snoc (by omega) hs⟩ (by show n - (i + 1) < n - i; omega) (QAD (by simp) ?_)
    simp +decide -dsimp -implicitDefEqProofs [go_sem,QAK,hec,QBM]
   ·have e3:E.map QBM ++ [[AV.str a,.str s]] = (E ++ [(a,s)]).map QBM:=by simp [QBM]
    simp +decide -dsimp -implicitDefEqProofs [go_sem,QAC,g0,g1,w,maxLen]
    refine ⟨⟨by omega,by omega⟩,?_⟩
    rw [e3]
    refine QAI (i + 1,k3 + 1,E ++ [(a,s)]) ⟨by show i + 1 ≤ n; omega,by show k3 + 1 ≤ k + 1 + 500 * (i + 1); omega,by rw [List.length_append]; show E.length + 1 ≤ i + 1; omega,ho.snoc ha hs⟩ (by show n - (i + 1) < n - i; omega) (QAD (by simp) ?_)
    simp +decide -dsimp -implicitDefEqProofs [go_sem,QAK,hec,QBM]
 ·have e:i = n:=by omega
  subst e
  have e3:E.map QBM ++ raw.map QBM = (E ++ raw).map QBM:=by simp
  simp +decide -dsimp -implicitDefEqProofs [go_sem,maxLen]
  refine ⟨fun _ _ _ _ h=>h ▸ rfl,⟨by omega,by omega⟩,?_⟩
  rw [e3]
  refine QAT (.imm ((E ++ raw).map QBM)) [QAK t k1] ⟨E,k1,rfl,rfl,by omega,ho,by omega⟩ rfl ?_
  simp +decide -dsimp -implicitDefEqProofs [go_sem,QAK]
  exact ⟨hec _ _,hec _ _⟩
end Go.Ab
namespace Go.Ab
open Go Go.Proofs Go.Sort
structure PS where
 i:Nat
 k:Nat
 dur:QAs
 seen:QAs
 pend:List Wr
structure PS.ok (n k0:Nat) (s:PS):Prop where
 hi:s.i ≤ n
 hC:Cpl s.dur s.seen s.pend (50 + s.i)
 hk:s.k ≤ k0 + 300 * s.i
theorem QH2 (l:List Int) (raw:List Ent) (path name:List UInt8) (hrl:raw.length ≤ maxLen) (hrb:∀ e ∈ raw,e.1.length ≤ 0x7ffffffff000 ∧ e.2.length ≤ 0x7ffffffff000) (hpb:path.length ≤ 0x7ffffffff000) (hnb:name.length ≤ 0x7ffffffff000):
  ACalls Tryz.prog 10 [QMN l,.imm (raw.map QBM),.str path,.str name] [] (.bool true) []:=by
 have hec:=QAY
 have her:=QFe
 have hwR:=QCt
 have hsr:=QAp
 have hwr:=QAr
 have hcl:=QBI
 have hsc:∀ (m:QAs) (k:Nat) (a b:AV),(a,b) ∈ smK .str m → QAM k a = true ∧ QAM k b = true:=fun m k=>QBU (k:=k) fun _=>rfl
 have hn0:∀ (is:List Nat),QA4 is [] = []:=fun _=>rfl
 have hwRr:∀ (is:List Nat) (l:List Wr),QA4 is (l.map wrR) = l.map wrR:=fun is l=>by
  induction l with
  | nil=>rfl
  | cons x r ih=>simp [QA4,ih,wrR,QDB,ren]
 have hgr:∀ (is:List Nat) (l:List Wr),QBC is (.reg 88 1 (l.map QCG)) = .reg 88 1 (l.map QCG):=fun is l=>by simp only [QBC,hwr]
 have hgr0:∀ (is:List Nat),QBC is (.reg 88 1 []) = .reg 88 1 []:=fun _=>rfl
 have hbr:∀ (is:List Nat) (d:QAs) (p:List Wr),QBC is (bxW d p) = bxW d p:=fun is d p=>by simp only [bxW,QBC,QDB,ren,her,hwRr]
 have hbx:∀ (d:QAs) (p:List Wr),bxW d p = .box 72 [.imm ((QAn d).map QBM),.imm (p.map wrR)]:=fun _ _=>rfl
 have cf:=QXk raw hrl
 have wpn:IntKind.i64.wrap ((path.length:Int) + name.length) = path.length + name.length:=w64 (by omega) (by omega)
 refine QAF c10_ok rfl ?_
 unfold c10 QMN
 simp +decide -dsimp -implicitDefEqProofs [go_sem]
 refine QAA cf (by simp +decide -dsimp -implicitDefEqProofs [go_sem,hec]) rfl ?_
 cases hf:QV8 raw with
 | false=>
  simp +decide -dsimp -implicitDefEqProofs [go_sem]
  refine QAA QI7 rfl rfl ?_
  simp +decide -dsimp -implicitDefEqProofs [go_sem]
 | true=>
 obtain ⟨hr40,hr8⟩:=QTM hf hrb
 by_cases hpn:2000 < path.length + name.length
 ·have hpn':(2000:Int) < path.length + name.length:=by omega
  simp +decide -dsimp -implicitDefEqProofs [go_sem,wpn,hpn']
  refine QAA QI7 rfl rfl ?_
  simp +decide -dsimp -implicitDefEqProofs [go_sem]
 have hpn':¬ (2000:Int) < path.length + name.length:=by omega
 simp +decide -dsimp -implicitDefEqProofs [go_sem,wpn,hpn']
 rw [QVs]
 refine QAk [0] (QPB l 0 raw (by omega) (by omega)) rfl (fun v G ⟨_,_,_,hG,_⟩=>by rw [hG]; rfl) (by simp) (by simp +decide -dsimp -implicitDefEqProofs [go_sem,her]) (by simp +decide -dsimp -implicitDefEqProofs [go_sem,QAC]) ?_
 rintro _ _ ⟨E0,k1,rfl,rfl,hE5,hEo,hk1⟩
 have hok:Okl (E0 ++ raw):=fun e he=>by
  rcases List.mem_append.1 he with he | he
  ·exact hEo e he
  ·have:=hr8 e he; omega
 have hlen:(E0 ++ raw).length ≤ 45:=by rw [List.length_append]; omega
 generalize E0 ++ raw = A at hok hlen
 have cL:=QVy A (by omega)
 have rL:=QTJ A (by omega)
 have hC0:Cpl (QCQ A) (QCQ A) [] 50:=(Cpl.load A hok (by omega)).le (by omega)
 generalize QCQ A = M at cL rL hC0
 have b0:=QAy (QAZ l k1) 16 (by omega)
 obtain ⟨n,hn⟩:∃ n:Nat,fold (QAZ l k1) 16 = n:=⟨_,(Int.toNat_of_nonneg b0.1).symm⟩
 have c0:=QBK l k1 16 (by omega) (by omega)
 rw [hn] at b0 c0
 unfold QBs at rL
 simp +decide -dsimp -implicitDefEqProofs [go_sem,QAC,her]
 refine QBG [] 4 cL rfl (fun v G h=>by rw [h.2]; rfl) (by show (List.range' 1 4).Nodup; decide) (by simp +decide -dsimp -implicitDefEqProofs [go_sem,her]) (by simp) ?_
 rintro _ _ ⟨rfl,rfl⟩
 simp +decide -dsimp -implicitDefEqProofs [go_sem,dbO,QBE,hgr0,show ∀ n,QBC [1,2,3,4] (dbB 1 2 3 n) = dbB 2 3 4 n from fun _=>rfl]
 refine QAA rL (by simp +decide -dsimp -implicitDefEqProofs [go_sem,hec]) (by simp +decide -dsimp -implicitDefEqProofs [go_sem,hec]) ?_
 simp +decide -dsimp -implicitDefEqProofs [go_sem]
 refine QAB [0] c0 rfl rfl (by simp) (by simp +decide -dsimp -implicitDefEqProofs [go_sem]) (by simp +decide -dsimp -implicitDefEqProofs [go_sem,QAC]) ?_
 simp +decide -dsimp -implicitDefEqProofs [go_sem,QAC]
 refine QAR (S:=PS) (fun s=>⟨tmps 68 [(2,.str path),(3,.str name),(9,.ptr 0 0),(11,.ptr 1 0),(12,.ptr 5 0),(13,.int .i64 ((n:Int) - s.i))],[QAK l s.k,dbB 2 3 4 s.pend.length,mO s.dur,mO s.seen,.reg 88 1 (s.pend.map QCG),bxW s.dur s.pend]⟩) (fun s=>n + 1 - s.i) (PS.ok (n + 1) (k1 + 1)) ⟨0,k1 + 1,M,M,[]⟩ ⟨by simp,hC0,by simp⟩ (QAD (by simp) ?_) ?_
 ·simp +decide -dsimp -implicitDefEqProofs [go_sem,QAK,dbB,QAl,bxW,hec]
  (repeat' apply And.intro) <;> first | exact hsc _ _ | omega | rfl
 rintro ⟨i,k,dur,seen,pend⟩ ⟨hi,hC,hk⟩
 simp only at hi hC hk
 have cS:=QR8 hC (by omega)
 unfold QBs at cS
 unfold dbO at cS
 by_cases h:i < n + 1
 ·have h':i ≤ n:=by omega
  have w:IntKind.i64.wrap ((n:Int) - i - 1) = (n:Int) - ((i + 1:Nat):Int):=by rw [w64 (by omega) (by omega)]; omega
  have cs:=QV0 l k (50 + i) dur seen pend path name hC (by omega) (by omega) (by omega) (by omega)
  unfold QBs at cs
  simp +decide -dsimp -implicitDefEqProofs [go_sem,h',hbx]
  refine QAB [1,2,3,4] cS rfl rfl (by simp) (by simp +decide -dsimp -implicitDefEqProofs [go_sem,her,hwRr]) (by simp +decide -dsimp -implicitDefEqProofs [go_sem,QBE,hgr,dbB]) ?_
  simp +decide -dsimp -implicitDefEqProofs [go_sem,QBE,hgr,show ∀ q,QBC [1,2,3,4] (dbB 1 2 3 q) = dbB 2 3 4 q from fun _=>rfl]
  refine QBG [0,1,2,3,4] 4 cs rfl (fun v G h=>?_) (by show ([0,1,2,3,4] ++ List.range' 6 4).Nodup; decide) (by simp +decide -dsimp -implicitDefEqProofs [go_sem,her,hwRr]) (by simp +decide -dsimp -implicitDefEqProofs [go_sem,QAC,QBE,hgr,dbB]) ?_
  ·obtain ⟨_,_,_,_,_,_,_,rfl | ⟨_,rfl⟩ | ⟨_,rfl⟩⟩:=h <;> rfl
  rintro _ _ ⟨k',dur',seen',pend',hk',hC',rfl,hG⟩
  rcases hG with rfl | ⟨rfl,rfl⟩ | ⟨rfl,rfl⟩
  ·simp +decide -dsimp -implicitDefEqProofs [go_sem,QAC,QBE,hgr,hbr,show ∀ m,QBC [0,1,2,3,4,6,7,8,9] (dbB 2 3 4 m) = dbB 2 3 4 m from fun _=>rfl,show QBC [0,1,2,3,4,6,7,8,9] .unborn = .unborn from rfl,QBs,her,hwRr,w]
   refine QAI ⟨i + 1,k',dur',seen',pend'⟩ ⟨by show i + 1 ≤ n + 1; omega,hC',by show k' ≤ k1 + 1 + 300 * (i + 1); omega⟩ (by show n + 1 - (i + 1) < n + 1 - i; omega) (QAD (by simp) ?_)
   simp +decide -dsimp -implicitDefEqProofs [go_sem,QAK,dbB,QAl,bxW,hcl,hec,hwR]
   (repeat' apply And.intro) <;> first | exact hsc _ _ | omega | rfl
  ·simp +decide -dsimp -implicitDefEqProofs [go_sem,QAC,QBE,hgr,hgr0,hbr,show QBC [0,1,2,3,4,6,7,8,9] (dbB 5 3 6 0) = dbB 6 3 7 0 from rfl,QBs,her,w]
   refine QAI ⟨i + 1,k',dur',seen',[]⟩ ⟨by show i + 1 ≤ n + 1; omega,hC',by show k' ≤ k1 + 1 + 300 * (i + 1); omega⟩ (by show n + 1 - (i + 1) < n + 1 - i; omega) (Wk.trans (b:=⟨tmps 68 [(2,.str path),(3,.str name),(9,.ptr 0 0),(11,.ptr 1 0),(12,.ptr 5 0),(13,.int .i64 ((n:Int) - ((i + 1:Nat):Int)))],[QAK l k',dbB 6 3 7 0,mO dur,mO seen',.reg 88 1 (pend.map QCG),bxW dur' [],mO dur',.reg 88 1 []]⟩) (QAD (by simp) ?_) (Wk.ren [0,1,6,3,7,5] (by decide) rfl (by simp) (fun j hj=>absurd hj (by simp)) (fun j m s l hj=>absurd hj (by simp)) ?_ ?_))
   ·simp +decide -dsimp -implicitDefEqProofs [go_sem,QAK,dbB,QAl,bxW,hcl,hec]
    (repeat' apply And.intro) <;> first | exact hsc _ _ | omega | rfl
   ·simp +decide -dsimp -implicitDefEqProofs [go_sem,QAC,QBE,hgr0,hbr,dbB]
   ·simp +decide -dsimp -implicitDefEqProofs [go_sem,rnT]
  ·simp +decide -dsimp -implicitDefEqProofs [go_sem,QAC,QBE,hgr,hgr0,hbr,show QBC [0,1,2,3,4,6,7,8,9] (dbB 2 5 6 0) = dbB 2 6 7 0 from rfl,QBs,her,w]
   refine QAI ⟨i + 1,k',dur',seen',[]⟩ ⟨by show i + 1 ≤ n + 1; omega,hC',by show k' ≤ k1 + 1 + 300 * (i + 1); omega⟩ (by show n + 1 - (i + 1) < n + 1 - i; omega) (Wk.trans (b:=⟨tmps 68 [(2,.str path),(3,.str name),(9,.ptr 0 0),(11,.ptr 1 0),(12,.ptr 5 0),(13,.int .i64 ((n:Int) - ((i + 1:Nat):Int)))],[QAK l k',dbB 2 6 7 0,mO dur',mO seen,.reg 88 1 (pend.map QCG),bxW dur' [],mO seen',.reg 88 1 []]⟩) (QAD (by simp) ?_) (Wk.ren [0,1,2,6,7,5] (by decide) rfl (by simp) (fun j hj=>absurd hj (by simp)) (fun j m s l hj=>absurd hj (by simp)) ?_ ?_))
   ·simp +decide -dsimp -implicitDefEqProofs [go_sem,QAK,dbB,QAl,bxW,hcl,hec]
    (repeat' apply And.intro) <;> first | exact hsc _ _ | omega | rfl
   ·simp +decide -dsimp -implicitDefEqProofs [go_sem,QAC,QBE,hgr0,hbr,dbB]
   ·simp +decide -dsimp -implicitDefEqProofs [go_sem,rnT]
 ·have e:i = n + 1:=by omega
  subst e
  have h':¬ (n:Int) + 1 ≤ n:=by omega
  simp +decide -dsimp -implicitDefEqProofs [go_sem,h',hbx]
  refine QAB [1,2,3,4] cS rfl rfl (by simp) (by simp +decide -dsimp -implicitDefEqProofs [go_sem,her,hwRr]) (by simp +decide -dsimp -implicitDefEqProofs [go_sem,QBE,hgr,dbB]) ?_
  simp +decide -dsimp -implicitDefEqProofs [go_sem,QBE,hgr]
  refine QAA QI7 rfl rfl ?_
  simp +decide -dsimp -implicitDefEqProofs [go_sem]
end Go.Ab
