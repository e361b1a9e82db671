/- pdqsort at records: order2, median, reverseRange, insertion of a part. -/
import Derived.Test.YtneghlianebffaaGreatDoorB2
import Derived.Sort.LotC
import Derived.Sort.LotD5
import Derived.Laws.Bits64
import Derived.Laws.Bits64b
import Derived.Sort.Walk13a
import Derived.Sort.AssemblyPlain
set_option maxRecDepth 20000
set_option maxHeartbeats 8000000
namespace Go.Ab
open Go Go.Proofs Go.Sort
theorem QAY {d:Array Txt} {j:Nat} (hj:j < d.size) (h:j < (rows d).length):(rows d)[j]'h = QAT d[j]!:=by
 have:=QUq hj
 rw [List.getElem?_eq_getElem h] at this
 exact Option.some.inj this
def swO (s:Nat):AObj:=.box 3 [.int .i64 s]
theorem QKS (d:Array Txt) (a b s:Nat) (h0:okP d) (ha:a < d.size) (hb:b < d.size) (hs:s < 1000000):
  ACalls Tryz.prog 199 [.own 0 d.size,.int .i64 a,.int .i64 b,.ptr 1 0,.fn (.func 54) [] []] [rgO d,swO s]
   (.tup [.int .i64 (order2 ltP d a b s).1,.int .i64 (order2 ltP d a b s).2.1]) [rgO d,swO (order2 ltP d a b s).2.2]:=by
 have hle:=QBl d
 have ga:=QAY ha (by rw [hle]; exact ha)
 have gb:=QAY hb (by rw [hle]; exact hb)
 have pa:=QBf h0 ha
 have pb:=QBf h0 hb
 have cl:=QCu _ _ pb pa
 have w:IntKind.i64.wrap ((s:Int) + 1) = s + 1:=w64 (by omega) (by omega)
 obtain ⟨n,hN⟩:∃ n,n = d.size:=⟨_,rfl⟩
 rw [← hN] at ha hb hle ⊢
 refine QAH cqq rfl ?_
 unfold rgO swO order2
 simp +decide -dsimp -implicitDefEqProofs [go_sem,hle,ha,hb,ga,gb]
 refine QAK cl (by simp +decide -dsimp -implicitDefEqProofs [go_sem]) rfl ?_
 by_cases hlt:QFA d[b]! d[a]! < 0
 ·have e:ltP d[b]! d[a]! = true:=by simpa [ltP] using hlt
  rw [if_pos e]
  simp +decide -dsimp -implicitDefEqProofs [go_sem,hlt,w]
  exact QAJ _ _
 ·have e:¬ ltP d[b]! d[a]! = true:=by simpa [ltP] using hlt
  rw [if_neg e]
  simp +decide -dsimp -implicitDefEqProofs [go_sem,hlt]
  exact QAJ _ _
theorem QIe (d:Array Txt) {a b s n:Nat} (ha:a < n) (hb:b < n):(order2 ltP d a b s).1 < n ∧ (order2 ltP d a b s).2.1 < n ∧ (order2 ltP d a b s).2.2 ≤ s + 1:=by
 unfold order2
 split
 ·exact ⟨hb,ha,Nat.le_refl _⟩
 ·exact ⟨ha,hb,Nat.le_succ _⟩
theorem QKT (d:Array Txt) (a b c s:Nat) (h0:okP d) (ha:a < d.size) (hb:b < d.size) (hc:c < d.size) (hs:s < 900000):
  ACalls Tryz.prog 183 [.own 0 d.size,.int .i64 a,.int .i64 b,.int .i64 c,.ptr 1 0,.fn (.func 54) [] []] [rgO d,swO s]
   (.int .i64 (median ltP d a b c s).1) [rgO d,swO (median ltP d a b c s).2] ∧ (median ltP d a b c s).1 < d.size ∧ (median ltP d a b c s).2 ≤ s + 3:=by
 obtain ⟨b1,b2,b3⟩:=QIe d (s:=s) ha hb
 have c1:=QKS d a b s h0 ha hb (by omega)
 unfold median
 generalize order2 ltP d a b s = r1 at c1 b1 b2 b3
 obtain ⟨x1,y1,s1⟩:=r1
 simp only at c1 b1 b2 b3
 obtain ⟨b4,b5,b6⟩:=QIe d (s:=s1) b2 hc
 have c2:=QKS d y1 c s1 h0 b2 hc (by omega)
 simp only
 generalize order2 ltP d y1 c s1 = r2 at c2 b4 b5 b6
 obtain ⟨x2,y2,s2⟩:=r2
 simp only at c2 b4 b5 b6
 obtain ⟨b7,b8,b9⟩:=QIe d (s:=s2) b1 b4
 have c3:=QKS d x1 x2 s2 h0 b1 b4 (by omega)
 simp only
 generalize order2 ltP d x1 x2 s2 = r3 at c3 b7 b8 b9
 obtain ⟨x3,y3,s3⟩:=r3
 simp only at c3 b7 b8 b9 ⊢
 refine ⟨?_,b8,by omega⟩
 have hrr:=QD8
 refine QAH cqq rfl ?_
 unfold rgO swO at *
 refine gs ?_
 refine QAL [0,1] c1 rfl rfl (by simp) (by simp +decide -dsimp -implicitDefEqProofs [go_sem]) (by simp +decide -dsimp -implicitDefEqProofs [go_sem,hrr]) ?_
 simp +decide -dsimp -implicitDefEqProofs [go_sem,hrr]
 refine QAL [0,1] c2 rfl rfl (by simp) (by simp +decide -dsimp -implicitDefEqProofs [go_sem]) (by simp +decide -dsimp -implicitDefEqProofs [go_sem,hrr]) ?_
 simp +decide -dsimp -implicitDefEqProofs [go_sem,hrr]
 refine QAL [0,1] c3 rfl rfl (by simp) (by simp +decide -dsimp -implicitDefEqProofs [go_sem]) (by simp +decide -dsimp -implicitDefEqProofs [go_sem,hrr]) ?_
 simp +decide -dsimp -implicitDefEqProofs [go_sem,hrr]
 exact QAJ _ _
theorem QKU (d:Array Txt) (a s:Nat) (h0:okP d) (h1:1 ≤ a) (ha:a + 1 < d.size) (hs:s < 900000) (hn:d.size < 1000000):
  ACalls Tryz.prog 182 [.own 0 d.size,.int .i64 a,.ptr 1 0,.fn (.func 54) [] []] [rgO d,swO s]
   (.int .i64 (medianAdjacent ltP d a s).1) [rgO d,swO (medianAdjacent ltP d a s).2] ∧ (medianAdjacent ltP d a s).1 < d.size ∧ (medianAdjacent ltP d a s).2 ≤ s + 3:=by
 obtain ⟨c1,b1,b2⟩:=QKT d (a - 1) a (a + 1) s h0 (by omega) (by omega) ha hs
 unfold medianAdjacent
 refine ⟨?_,b1,b2⟩
 generalize median ltP d (a - 1) a (a + 1) s = r at c1
 have hrr:=QD8
 have w1:IntKind.i64.wrap ((a:Int) - 1) = ((a - 1:Nat):Int):=by rw [w64 (by omega) (by omega)]; omega
 have w2:IntKind.i64.wrap ((a:Int) + 1) = (a:Int) + 1:=w64 (by omega) (by omega)
 refine QAH cqq rfl ?_
 unfold rgO swO at *
 simp +decide -dsimp -implicitDefEqProofs [go_sem,w1,w2]
 refine QAL [0,1] c1 rfl rfl (by simp) (by simp +decide -dsimp -implicitDefEqProofs [go_sem]) (by simp +decide -dsimp -implicitDefEqProofs [go_sem,hrr]) ?_
 simp +decide -dsimp -implicitDefEqProofs [go_sem,hrr]
 exact QAJ _ _
end Go.Ab
namespace Go.Ab
open Go Go.Proofs Go.Sort
theorem QBj (x:Txt):(QAT x).tail = []:=rfl
theorem QBx {d:Array Txt} {x:Txt} {i j:Nat} (h:j < ((rows d).set i [AV.str x]).length):(((rows d).set i [AV.str x])[j]'h).length = 1:=by
 rw [List.getElem_set]
 split
 ·rfl
 ·have hj:j < d.size:=by rw [List.length_set,QBl] at h; exact h
  rw [QAY hj]; rfl
theorem QBg {d:Array Txt} {x:Txt} {i j:Nat} (h:j < ((rows d).set i [AV.str x]).length):(((rows d).set i [AV.str x])[j]'h).tail = []:=by
 rw [List.getElem_set]
 split
 ·rfl
 ·have hj:j < d.size:=by rw [List.length_set,QBl] at h; exact h
  rw [QAY hj]; rfl
theorem QBq (d:Array Txt) (i j:Nat):((rows d).set i [AV.str d[j]!]).set j [AV.str d[i]!] = rows (swp d i j):=QRq d i j
theorem QQI (d0:Array Txt) (a b:Nat) (hn:d0.size ≤ 100000) (h0:okP d0) (ha:1 ≤ b) (hb:b ≤ d0.size):
  ACalls Tryz.prog 150 [.own 0 d0.size,.int .i64 a,.int .i64 b,.fn (.func 54) [] []] [rgO d0] (.tup []) [rgO (reverseRange d0 a b)] ∧ okP (reverseRange d0 a b):=by
 have hok:∀ (k i j:Nat) (d:Array Txt),j - i ≤ k → okP d → j < d.size → okP (reverseLoop i j d):=by
  intro k
  induction k with
  | zero=>intro i j d hk h hj; rw [reverseLoop,if_neg (by omega)]; exact h
  | succ k ih=>
   intro i j d hk h hj
   rw [reverseLoop]
   split
   ·exact ih _ _ _ (by omega) (QCL h (by omega) hj) (by rw [QBS]; omega)
   ·exact h
 refine ⟨?_,hok _ _ _ _ (Nat.le_refl _) h0 (by omega)⟩
 unfold reverseRange
 obtain ⟨n,hN⟩:∃ n,n = d0.size:=⟨_,rfl⟩
 rw [← hN] at hn hb ⊢
 have wb:IntKind.i64.wrap ((b:Int) - 1) = ((b - 1:Nat):Int):=by rw [w64 (by omega) (by omega)]; omega
 refine QAH cqq rfl ?_
 unfold rgO
 simp +decide -dsimp -implicitDefEqProofs [go_sem,wb]
 refine QAQ (S:=Nat × Nat × Array Txt) (fun s=>⟨tmps 34 [(0,.own 0 n),(8,.int .i64 s.1),(9,.int .i64 s.2.1)],[.reg 9 1 (rows s.2.2)]⟩) (fun s=>s.2.1 - s.1)
  (fun s=>s.2.1 < n ∧ s.2.2.size = n ∧ reverseLoop a (b - 1) d0 = reverseLoop s.1 s.2.1 s.2.2) (a,b - 1,d0) ⟨by show b - 1 < n; omega,hN.symm,rfl⟩ (QAC (by simp) ?_) ?_
 ·simp +decide -dsimp -implicitDefEqProofs [go_sem]
  exact QAJ _ _
 rintro ⟨i,j,d⟩ ⟨hj,hd,hs⟩
 simp only at hj hd hs
 have hle:(rows d).length = n:=by rw [QBl,hd]
 by_cases h:i < j
 ·have hi:i < n:=by omega
  have gi:=QAY (d:=d) (j:=i) (by omega) (by omega)
  have gj:=QAY (d:=d) (j:=j) (by omega) (by omega)
  have hsw:=QBq d i j
  have w1:IntKind.i64.wrap ((i:Int) + 1) = i + 1:=w64 (by omega) (by omega)
  have w2:IntKind.i64.wrap ((j:Int) - 1) = ((j - 1:Nat):Int):=by rw [w64 (by omega) (by omega)]; omega
  conv at hs=>rhs; rw [reverseLoop,if_pos h]
  simp +decide -dsimp -implicitDefEqProofs [go_sem,h,hle,hi,hj,gi,gj,QAt,QAt,QBj,QBx,QBg,w1,w2]
  rw [hsw]
  refine QAG (i + 1,j - 1,swp d i j) ⟨by show j - 1 < n; omega,by show (swp d i j).size = n; rw [QBS,hd],hs⟩ (by show j - 1 - (i + 1) < j - i; omega) (QAC (by simp) ?_)
  refine gs ?_
  exact QAJ _ _
 ·conv at hs=>rhs; rw [reverseLoop,if_neg h]
  rw [hs]
  simp +decide -dsimp -implicitDefEqProofs [go_sem,h]
  exact QAJ _ _
theorem QLb (d0:Array Txt) (a b:Nat) (hn:d0.size ≤ 100000) (h0:okP d0) (hab:a ≤ b) (hb:b ≤ d0.size):
  ACalls Tryz.prog 146 [.own 0 d0.size,.int .i64 a,.int .i64 b,.fn (.func 54) [] []] [rgO d0] (.tup []) [rgO (insertionSort ltP d0 a b)]:=by
 obtain ⟨n,hN⟩:∃ n,n = d0.size:=⟨_,rfl⟩
 rw [← hN] at hn hb ⊢
 have wa:IntKind.i64.wrap ((a:Int) + 1) = ((a + 1:Nat):Int):=by rw [w64 (by omega) (by omega)]; omega
 refine QAH cqq rfl ?_
 unfold rgO
 simp +decide -dsimp -implicitDefEqProofs [go_sem,wa]
 refine QAQ (S:=Nat × Array Txt) (fun s=>⟨tmps 53 [(0,.own 0 n),(1,.int .i64 a),(2,.int .i64 b),(3,.fn (.func 54) [] []),(8,.int .i64 s.1)],[.reg 9 1 (rows s.2)]⟩) (fun s=>b - s.1)
  (fun s=>a + 1 ≤ s.1 ∧ s.2.size = n ∧ okP s.2 ∧ insertionSort ltP d0 a b = insOuter ltP a b s.1 s.2) (a + 1,d0) ⟨Nat.le_refl _,hN.symm,h0,rfl⟩ (QAC (by simp) ?_) ?_
 ·simp +decide -dsimp -implicitDefEqProofs [go_sem]
  exact QAJ _ _
 rintro ⟨i,d⟩ ⟨hi,hd,hok,hs⟩
 simp only at hi hd hok hs
 by_cases h:i < b
 ·conv at hs=>rhs; rw [insOuter,if_pos h]
  have wi:IntKind.i64.wrap ((i:Int) + 1) = i + 1:=w64 (by omega) (by omega)
  simp +decide -dsimp -implicitDefEqProofs [go_sem,h]
  refine QAQ (S:=Nat × Array Txt) (fun s=>⟨tmps 53 [(0,.own 0 n),(1,.int .i64 a),(2,.int .i64 b),(3,.fn (.func 54) [] []),(8,.int .i64 i),(9,.int .i64 s.1)],[.reg 9 1 (rows s.2)]⟩) (fun s=>s.1)
   (fun s=>s.1 ≤ i ∧ s.2.size = n ∧ okP s.2 ∧ insInner ltP a i d = insInner ltP a s.1 s.2) (i,d) ⟨Nat.le_refl _,hd,hok,rfl⟩ (QAC (by simp) ?_) ?_
  ·simp +decide -dsimp -implicitDefEqProofs [go_sem]
   exact QAJ _ _
  rintro ⟨j,e⟩ ⟨hj,he,hoe,hse⟩
  simp only at hj he hoe hse
  by_cases hja:a < j
  ·obtain ⟨m,rfl⟩:∃ m,j = m + 1:=⟨j - 1,by omega⟩
   have hle:(rows e).length = n:=by rw [QBl,he]
   have hm1:m + 1 < n:=by omega
   have hm:m < n:=by omega
   have a1:=QAY (d:=e) (j:=m + 1) (by omega) (by omega)
   have a0:=QAY (d:=e) (j:=m) (by omega) (by omega)
   have hz:(0:Int) ≤ (m:Int) + 1:=by omega
   have hja':(a:Int) < (m:Int) + 1:=by omega
   have p1:=QBf hoe (j:=m + 1) (by omega)
   have p0:=QBf hoe (j:=m) (by omega)
   have cl:=QCu _ _ p1 p0
   have w:IntKind.i64.wrap (m:Int) = (m:Int):=w64 (by omega) (by omega)
   have hsw:=QBq e (m + 1) m
   have hso:=QCL hoe (i:=m + 1) (j:=m) (by omega) (by omega)
   have hgt:(decide (m + 1 > a)) = true:=decide_eq_true hja
   conv at hse=>rhs; rw [insInner,hgt,Bool.true_and]
   simp +decide -dsimp -implicitDefEqProofs [go_sem,w,hz,hle,hm,hm1,a0,a1,hja']
   refine QAK cl (by simp +decide -dsimp -implicitDefEqProofs [go_sem]) rfl ?_
   by_cases hlt:QFA e[m + 1]! e[m]! < 0
   ·conv at hse=>rhs; rw [if_pos (by simpa [ltP] using hlt)]
    simp +decide -dsimp -implicitDefEqProofs [go_sem,w,hz,hle,hm,hm1,a0,a1,QAt,QAt,QBj,hlt]
    rw [hsw]
    refine QAG (m,swp e (m + 1) m) ⟨by show m ≤ i; omega,by show (swp e (m + 1) m).size = n; rw [QBS,he],hso,hse⟩ (Nat.lt_succ_self m) (QAC (by simp) ?_)
    refine gs ?_
    exact QAJ _ _
   ·conv at hse=>rhs; rw [if_neg (by simpa [ltP] using hlt)]
    simp +decide -dsimp -implicitDefEqProofs [go_sem,hlt,wi]
    rw [hse] at hs
    refine QAG (i + 1,e) ⟨by show a + 1 ≤ i + 1; omega,he,hoe,hs⟩ (by show b - (i + 1) < b - i; omega) (QAC (by simp) ?_)
    refine gs ?_
    exact QAJ _ _
  ·have hstop:insInner ltP a j e = e:=by
    cases j with
    | zero=>rfl
    | succ m=>
     have hgt:(decide (m + 1 > a)) = false:=decide_eq_false hja
     rw [insInner,hgt,Bool.false_and]; rfl
   rw [hstop] at hse
   rw [hse] at hs
   simp +decide -dsimp -implicitDefEqProofs [go_sem,wi,hja]
   refine QAG (i + 1,e) ⟨by show a + 1 ≤ i + 1; omega,he,hoe,hs⟩ (by show b - (i + 1) < b - i; omega) (QAC (by simp) ?_)
   refine gs ?_
   exact QAJ _ _
 ·conv at hs=>rhs; rw [insOuter,if_neg h]
  rw [hs]
  simp +decide -dsimp -implicitDefEqProofs [go_sem,h]
  exact QAJ _ _
end Go.Ab
namespace Go.Ab
open Go Go.Proofs Go.Sort
def QEC:Hint → Nat
 | .unknown=>0
 | .increasing=>1
 | .decreasing=>2
theorem QVD (d:Array Txt) (a b:Nat) (hn:d.size ≤ 100000) (h0:okP d) (hab:a < b) (hb:b ≤ d.size):
  ACalls Tryz.prog 149 [.own 0 d.size,.int .i64 a,.int .i64 b,.fn (.func 54) [] []] [rgO d]
   (.tup [.int .i64 (choosePivot ltP d a b).1,.int .i64 (QEC (choosePivot ltP d a b).2)]) [rgO d] ∧ (choosePivot ltP d a b).1 < d.size:=by
 have wl:IntKind.i64.wrap ((b:Int) - (a:Int)) = ((b - a:Nat):Int):=by rw [w64 (by omega) (by omega)]; omega
 unfold choosePivot
 simp only
 obtain ⟨l,hl⟩:∃ l,l = b - a:=⟨_,rfl⟩
 rw [← hl] at wl ⊢
 have wq:IntKind.i64.wrap ((l:Int) / 4) = ((l / 4:Nat):Int):=by
  rw [show (l:Int) / 4 = ((l / 4:Nat):Int) from rfl]; exact w64 (by omega) (by omega)
 obtain ⟨q,hq⟩:∃ q,q = l / 4:=⟨_,rfl⟩
 have hq4:q * 4 ≤ l:=by omega
 have hq1:l ≤ q * 4 + 3:=by omega
 rw [← hq] at wq ⊢
 have w1:IntKind.i64.wrap (q:Int) = (q:Int):=w64 (by omega) (by omega)
 have w2:IntKind.i64.wrap ((q:Int) * 2) = (q:Int) * 2:=w64 (by omega) (by omega)
 have w3:IntKind.i64.wrap ((q:Int) * 3) = (q:Int) * 3:=w64 (by omega) (by omega)
 have x1:IntKind.i64.wrap ((a:Int) + q) = (a:Int) + q:=w64 (by omega) (by omega)
 have x2:IntKind.i64.wrap ((a:Int) + (q:Int) * 2) = (a:Int) + (q:Int) * 2:=w64 (by omega) (by omega)
 have x3:IntKind.i64.wrap ((a:Int) + (q:Int) * 3) = (a:Int) + (q:Int) * 3:=w64 (by omega) (by omega)
 have hrr:=QD8
 by_cases h8:l ≥ 8
 ·have y8:(8:Int) ≤ (l:Int):=by omega
  simp only [if_pos h8]
  have e1:((a + q * 1:Nat):Int) = (a:Int) + q:=by omega
  by_cases h50:l ≥ 50
  ·have y50:(50:Int) ≤ (l:Int):=by omega
   simp only [if_pos h50]
   obtain ⟨c1,b1,s1⟩:=QKU d (a + q * 1) 0 h0 (by omega) (by omega) (by omega) (by omega)
   generalize medianAdjacent ltP d (a + q * 1) 0 = r1 at c1 b1 s1 ⊢
   obtain ⟨c2,b2,s2⟩:=QKU d (a + q * 2) r1.2 h0 (by omega) (by omega) (by omega) (by omega)
   generalize medianAdjacent ltP d (a + q * 2) r1.2 = r2 at c2 b2 s2 ⊢
   obtain ⟨c3,b3,s3⟩:=QKU d (a + q * 3) r2.2 h0 (by omega) (by omega) (by omega) (by omega)
   generalize medianAdjacent ltP d (a + q * 3) r2.2 = r3 at c3 b3 s3 ⊢
   obtain ⟨c4,b4,s4⟩:=QKT d r1.1 r2.1 r3.1 r3.2 h0 b1 b2 b3 (by omega)
   generalize median ltP d r1.1 r2.1 r3.1 r3.2 = r4 at c4 b4 s4 ⊢
   obtain ⟨z1,t1⟩:=r1
   obtain ⟨z2,t2⟩:=r2
   obtain ⟨z3,t3⟩:=r3
   obtain ⟨z4,t4⟩:=r4
   simp only at c1 c2 c3 c4 b1 b2 b3 b4 s1 s2 s3 s4 ⊢
   refine ⟨?_,b4⟩
   refine QAH cqq rfl ?_
   unfold rgO swO at *
   rw [e1] at c1
   simp +decide -dsimp -implicitDefEqProofs [go_sem] at c1 c2 c3 c4
   simp +decide -dsimp -implicitDefEqProofs [go_sem,wl,wq,w1,w2,w3,x1,x2,x3,y8,y50]
   refine QAL [0,1] c1 rfl rfl (by simp) (by simp +decide -dsimp -implicitDefEqProofs [go_sem]) (by simp +decide -dsimp -implicitDefEqProofs [go_sem,hrr]) ?_
   simp +decide -dsimp -implicitDefEqProofs [go_sem,hrr]
   refine QAL [0,1] c2 rfl rfl (by simp) (by simp +decide -dsimp -implicitDefEqProofs [go_sem]) (by simp +decide -dsimp -implicitDefEqProofs [go_sem,hrr]) ?_
   simp +decide -dsimp -implicitDefEqProofs [go_sem,hrr]
   refine QAL [0,1] c3 rfl rfl (by simp) (by simp +decide -dsimp -implicitDefEqProofs [go_sem]) (by simp +decide -dsimp -implicitDefEqProofs [go_sem,hrr]) ?_
   simp +decide -dsimp -implicitDefEqProofs [go_sem,hrr]
   refine QAL [0,1] c4 rfl rfl (by simp) (by simp +decide -dsimp -implicitDefEqProofs [go_sem]) (by simp +decide -dsimp -implicitDefEqProofs [go_sem,hrr]) ?_
   by_cases t0:t4 = 0
   ·subst t0
    simp +decide -dsimp -implicitDefEqProofs [go_sem,hrr,QEC]
    exact QAJ _ _
   ·have t0':¬ (t4:Int) = 0:=by omega
    by_cases t12:t4 = 12
    ·subst t12
     simp +decide -dsimp -implicitDefEqProofs [go_sem,hrr,QEC]
     exact QAJ _ _
    ·have t12':¬ (t4:Int) = 12:=by omega
     simp +decide -dsimp -implicitDefEqProofs [go_sem,hrr,QEC,t0,t12,t12']
     exact QAJ _ _
  ·have y50:¬ (50:Int) ≤ (l:Int):=by omega
   simp only [if_neg h50]
   obtain ⟨c4,b4,s4⟩:=QKT d (a + q * 1) (a + q * 2) (a + q * 3) 0 h0 (by omega) (by omega) (by omega) (by omega)
   generalize median ltP d (a + q * 1) (a + q * 2) (a + q * 3) 0 = r4 at c4 b4 s4 ⊢
   obtain ⟨z4,t4⟩:=r4
   simp only at c4 b4 s4 ⊢
   refine ⟨?_,b4⟩
   refine QAH cqq rfl ?_
   unfold rgO swO at *
   rw [e1] at c4
   simp +decide -dsimp -implicitDefEqProofs [go_sem] at c4
   simp +decide -dsimp -implicitDefEqProofs [go_sem,wl,wq,w1,w2,w3,x1,x2,x3,y8,y50]
   refine QAL [0,1] c4 rfl rfl (by simp) (by simp +decide -dsimp -implicitDefEqProofs [go_sem]) (by simp +decide -dsimp -implicitDefEqProofs [go_sem,hrr]) ?_
   by_cases t0:t4 = 0
   ·subst t0
    simp +decide -dsimp -implicitDefEqProofs [go_sem,hrr,QEC]
    exact QAJ _ _
   ·have t0':¬ (t4:Int) = 0:=by omega
    have t12:¬ t4 = 12:=by omega
    have t12':¬ (t4:Int) = 12:=by omega
    simp +decide -dsimp -implicitDefEqProofs [go_sem,hrr,QEC,t0,t12,t12']
    exact QAJ _ _
 ·simp only [if_neg h8]
  have y8:¬ (8:Int) ≤ (l:Int):=by omega
  refine ⟨?_,by omega⟩
  refine QAH cqq rfl ?_
  unfold rgO
  simp +decide -dsimp -implicitDefEqProofs [go_sem,wl,wq,w1,w2,w3,x1,x2,x3,y8,QEC]
  exact QAJ _ _
end Go.Ab
namespace Go.Ab
open Go Go.Proofs Go.Sort
section
variable {α:Type} [Inhabited α]
theorem QFB (p:α → Bool) (d:Array α) (i j:Nat) (h:i ≤ j) (h0:0 < j) (hp:p d[j]! = true):scanDown p d i j = scanDown p d i (j - 1):=by
 obtain ⟨k,rfl⟩:∃ k,j = k + 1:=⟨j - 1,by omega⟩
 rw [scanDown,if_pos (by simp [h,hp])]
 rfl
theorem QCc (p:α → Bool) (d:Array α) (i j:Nat) (h:¬ i ≤ j ∨ p d[j]! = false):scanDown p d i j = j:=by
 cases j with
 | zero=>rfl
 | succ k=>rw [scanDown,if_neg (by rcases h with h | h <;> simp [h])]
theorem QLc {lt:α → α → Bool} {a i j i2 j2:Nat} {d:Array α} (hi:i2 = scanUp (fun x=>lt x d[a]!) d j i) (hj:j2 = scanDown (fun x=>!lt x d[a]!) d i2 j) (h0:0 < i) (h:i2 ≤ j2):i2 < j2:=by
 have bi:=scanUp_spec (fun x=>lt x d[a]!) d j _ i rfl
 rw [← hi] at bi
 have bj:=scanDown_spec (fun x=>!lt x d[a]!) d i2 j
 rw [← hj] at bj
 rcases Nat.lt_or_ge i2 j2 with h' | h'
 ·exact h'
 ·have e:j2 = i2:=by omega
  have f1:=bi.2.2.2 (by have:=bj.1; omega)
  have f2:=bj.2.2.2 h (by have:=bi.1; omega)
  rw [e] at f2
  simp only [f1] at f2
  cases f2
end
theorem QMY (d0:Array Txt) (a b p:Nat) (hn:d0.size ≤ 100000) (h0:okP d0) (hap:a ≤ p) (hpb:p < b) (hb:b ≤ d0.size):
  ACalls Tryz.prog 153 [.own 0 d0.size,.int .i64 a,.int .i64 b,.int .i64 p,.fn (.func 54) [] []] [rgO d0]
   (.tup [.int .i64 (Go.Sort.partition ltP d0 a b p).1,.bool (Go.Sort.partition ltP d0 a b p).2.1]) [rgO (Go.Sort.partition ltP d0 a b p).2.2]:=by
 obtain ⟨n,hN⟩:∃ n,n = d0.size:=⟨_,rfl⟩
 rw [← hN] at hn hb ⊢
 have hle0:(rows d0).length = n:=by rw [QBl,hN]
 have han:a < n:=by omega
 have hpn:p < n:=by omega
 obtain ⟨d,hdd⟩:∃ d,d = swp d0 a p:=⟨_,rfl⟩
 have hd:d.size = n:=by rw [hdd,QBS,hN]
 have hok:okP d:=by rw [hdd]; exact QCL h0 (by omega) (by omega)
 have hle:(rows d).length = n:=by rw [QBl,hd]
 have ga:=QAY (d:=d) (j:=a) (by omega) (by omega)
 obtain ⟨jb,hjb⟩:∃ x,x = b - 1:=⟨_,rfl⟩
 obtain ⟨ia,hia⟩:∃ x,x = a + 1:=⟨_,rfl⟩
 obtain ⟨i2,hi2⟩:∃ x,x = scanUp (fun x=>ltP x d[a]!) d jb ia:=⟨_,rfl⟩
 obtain ⟨j2,hj2⟩:∃ x,x = scanDown (fun x=>!ltP x d[a]!) d i2 jb:=⟨_,rfl⟩
 have bi:=scanUp_spec (fun x=>ltP x d[a]!) d jb _ ia rfl
 rw [← hi2] at bi
 have bj:=scanDown_spec (fun x=>!ltP x d[a]!) d i2 jb
 rw [← hj2] at bj
 have bi1:=bi.1
 have bi2:=bi.2.1 (by omega)
 have bj1:=bj.1
 have bj2:=bj.2.1 (by omega)
 clear bi bj
 have hpart:Go.Sort.partition ltP d0 a b p = if i2 > j2 then (j2,true,swp d j2 a) else ((partLoop ltP a (i2 + 1) (j2 - 1) (swp d i2 j2)).1,false,swp (partLoop ltP a (i2 + 1) (j2 - 1) (swp d i2 j2)).2 (partLoop ltP a (i2 + 1) (j2 - 1) (swp d i2 j2)).1 a):=by
  subst hj2 hi2 hdd hjb hia
  rfl
 rw [hpart]
 clear hpart
 have wa:IntKind.i64.wrap ((a:Int) + 1) = (ia:Int):=by rw [w64 (by omega) (by omega)]; omega
 have wb:IntKind.i64.wrap ((b:Int) - 1) = (jb:Int):=by rw [w64 (by omega) (by omega)]; omega
 refine QA2 cqq rfl ?_
 unfold rgO
 refine QAP ⟨tmps 178 [(0,.own 0 n),(1,.int .i64 a),(2,.int .i64 b),(3,.int .i64 p),(4,.fn (.func 54) [] []),(10,.int .i64 0),(11,.bool false)],[.reg 9 1 (rows d0)]⟩ (QAD ?_) ?_
 ·simp +decide -dsimp -implicitDefEqProofs [go_sem]
  refine QAN (by simp) ?_
  refine gs ?_
  exact QAJ _ _
 refine QAP ⟨tmps 178 [(0,.own 0 n),(1,.int .i64 a),(2,.int .i64 b),(3,.int .i64 p),(4,.fn (.func 54) [] []),(10,.int .i64 0),(11,.bool false)],[.reg 9 1 (rows d)]⟩ (QAD ?_) ?_
 ·have gx:=QAY (d:=d0) (j:=a) (by omega) (by omega)
  have gy:=QAY (d:=d0) (j:=p) (by omega) (by omega)
  have hsw:=QBq d0 a p
  simp +decide -dsimp -implicitDefEqProofs [go_sem,hle0,han,hpn,gx,gy,QAt,QAt,QBj,QBx,QBg]
  rw [hsw,← hdd]
  refine QAN (by simp) ?_
  refine gs ?_
  exact QAJ _ _
 refine QAP ⟨tmps 178 [(0,.own 0 n),(1,.int .i64 a),(2,.int .i64 b),(3,.int .i64 p),(4,.fn (.func 54) [] []),(10,.int .i64 0),(11,.bool false),(12,.int .i64 ia),(13,.int .i64 jb)],[.reg 9 1 (rows d)]⟩ (QAD ?_) ?_
 ·simp +decide -dsimp -implicitDefEqProofs [go_sem,wa,wb]
  refine QAN (by simp) ?_
  refine gs ?_
  exact QAJ _ _
 refine QAP ⟨tmps 178 [(0,.own 0 n),(1,.int .i64 a),(2,.int .i64 b),(3,.int .i64 p),(4,.fn (.func 54) [] []),(10,.int .i64 0),(11,.bool false),(12,.int .i64 i2),(13,.int .i64 jb)],[.reg 9 1 (rows d)]⟩ (QAD ?_) ?_
 ·
  refine gs ?_
  refine QAQ (S:=Nat) (fun s=>⟨tmps 178 [(0,.own 0 n),(1,.int .i64 a),(2,.int .i64 b),(3,.int .i64 p),(4,.fn (.func 54) [] []),(10,.int .i64 0),(11,.bool false),(12,.int .i64 (s:Nat)),(13,.int .i64 jb)],[.reg 9 1 (rows d)]⟩) (fun s=>jb + 1 - s) (fun s=>a + 1 ≤ s ∧ s ≤ jb + 1 ∧ i2 = scanUp (fun x=>ltP x d[a]!) d jb s) (ia) ⟨by omega,by omega,hi2⟩ (QAC (by simp) ?_) ?_
  ·simp +decide -dsimp -implicitDefEqProofs [go_sem]
   exact QAJ _ _
  rintro s ⟨s1,s2,s3⟩
  by_cases h:s ≤ jb
  ·have gi:=QAY (d:=d) (j:=s) (by omega) (by omega)
   have hsn:s < n:=by omega
   have cl:=QCu _ _ (QBf hok (j:=s) (by omega)) (QBf hok (j:=a) (by omega))
   have w1:IntKind.i64.wrap ((s:Int) + 1) = s + 1:=w64 (by omega) (by omega)
   simp +decide -dsimp -implicitDefEqProofs [go_sem,h,hle,hsn,han,gi,ga]
   refine QAK cl (by simp +decide -dsimp -implicitDefEqProofs [go_sem]) rfl ?_
   by_cases hlt:QFA d[s]! d[a]! < 0
   ·conv at s3=>rhs; rw [scanUp,if_pos (by simpa [ltP,hlt] using h)]
    simp +decide -dsimp -implicitDefEqProofs [go_sem,hlt,w1]
    refine QAG (s + 1) ⟨by omega,by omega,s3⟩ (by omega) (QAC (by simp) ?_)
    refine gs ?_
    exact QAJ _ _
   ·conv at s3=>rhs; rw [scanUp,if_neg (by simp [ltP,hlt])]
    subst s3
    simp +decide -dsimp -implicitDefEqProofs [go_sem,hlt]
    refine QAN (by simp) ?_
    refine gs ?_
    exact QAJ _ _
  ·conv at s3=>rhs; rw [scanUp,if_neg (by simp [h])]
   subst s3
   simp +decide -dsimp -implicitDefEqProofs [go_sem,h]
   refine QAN (by simp) ?_
   refine gs ?_
   exact QAJ _ _
 refine QAP ⟨tmps 178 [(0,.own 0 n),(1,.int .i64 a),(2,.int .i64 b),(3,.int .i64 p),(4,.fn (.func 54) [] []),(10,.int .i64 0),(11,.bool false),(12,.int .i64 i2),(13,.int .i64 j2)],[.reg 9 1 (rows d)]⟩ (QAD ?_) ?_
 ·
  refine gs ?_
  refine QAQ (S:=Nat) (fun s=>⟨tmps 178 [(0,.own 0 n),(1,.int .i64 a),(2,.int .i64 b),(3,.int .i64 p),(4,.fn (.func 54) [] []),(10,.int .i64 0),(11,.bool false),(12,.int .i64 i2),(13,.int .i64 (s:Nat))],[.reg 9 1 (rows d)]⟩) (fun s=>s) (fun s=>s ≤ jb ∧ i2 ≤ s + 1 ∧ j2 = scanDown (fun x=>!ltP x d[a]!) d i2 s) (jb) ⟨by omega,by omega,hj2⟩ (QAC (by simp) ?_) ?_
  ·simp +decide -dsimp -implicitDefEqProofs [go_sem]
   exact QAJ _ _
  rintro s ⟨s1,s2,s3⟩
  by_cases h:i2 ≤ s
  ·have gi:=QAY (d:=d) (j:=s) (by omega) (by omega)
   have hsn:s < n:=by omega
   have cl:=QCu _ _ (QBf hok (j:=s) (by omega)) (QBf hok (j:=a) (by omega))
   have w1:IntKind.i64.wrap ((s:Int) - 1) = ((s - 1:Nat):Int):=by rw [w64 (by omega) (by omega)]; omega
   simp +decide -dsimp -implicitDefEqProofs [go_sem,h,hle,hsn,han,gi,ga]
   refine QAK cl (by simp +decide -dsimp -implicitDefEqProofs [go_sem]) rfl ?_
   by_cases hlt:QFA d[s]! d[a]! < 0
   ·rw [QCc _ _ _ _ (.inr (by simp [ltP,hlt]))] at s3
    subst s3
    simp +decide -dsimp -implicitDefEqProofs [go_sem,hlt]
    refine QAN (by simp) ?_
    refine gs ?_
    exact QAJ _ _
   ·rw [QFB _ _ _ _ h (by omega) (by simp [ltP,hlt])] at s3
    simp +decide -dsimp -implicitDefEqProofs [go_sem,hlt,w1]
    refine QAG (s - 1) ⟨by omega,by omega,s3⟩ (by omega) (QAC (by simp) ?_)
    refine gs ?_
    exact QAJ _ _
  ·rw [QCc _ _ _ _ (.inl h)] at s3
   subst s3
   simp +decide -dsimp -implicitDefEqProofs [go_sem,h]
   refine QAN (by simp) ?_
   refine gs ?_
   exact QAJ _ _
 by_cases hij:i2 > j2
 ·rw [if_pos hij]
  have hij2:(j2:Int) < (i2:Int):=by omega
  have hjn:j2 < n:=by omega
  have gx:=QAY (d:=d) (j:=j2) (by omega) (by omega)
  have hsw:=QBq d j2 a
  refine QAD ?_
  simp +decide -dsimp -implicitDefEqProofs [go_sem,hij2,hle,han,hjn,gx,ga,QAt,QAt,QBj,QBx,QBg]
  rw [hsw]
  exact ⟨rfl,QAJ _ _⟩
 rw [if_neg hij]
 have hij2:¬ (j2:Int) < (i2:Int):=by omega
 obtain ⟨e,hee⟩:∃ e,e = swp d i2 j2:=⟨_,rfl⟩
 rw [← hee]
 have he:e.size = n:=by rw [hee,QBS,hd]
 have hoe:okP e:=by rw [hee]; exact QCL hok (by omega) (by omega)
 refine QAP ⟨tmps 178 [(0,.own 0 n),(1,.int .i64 a),(2,.int .i64 b),(3,.int .i64 p),(4,.fn (.func 54) [] []),(10,.int .i64 0),(11,.bool false),(12,.int .i64 i2),(13,.int .i64 j2)],[.reg 9 1 (rows d)]⟩ (QAD ?_) ?_
 ·simp +decide -dsimp -implicitDefEqProofs [go_sem,hij2]
  refine QAN (by simp) ?_
  refine gs ?_
  exact QAJ _ _
 have hin:i2 < n:=by omega
 have hjn:j2 < n:=by omega
 refine QAP ⟨tmps 178 [(0,.own 0 n),(1,.int .i64 a),(2,.int .i64 b),(3,.int .i64 p),(4,.fn (.func 54) [] []),(10,.int .i64 0),(11,.bool false),(12,.int .i64 i2),(13,.int .i64 j2)],[.reg 9 1 (rows e)]⟩ (QAD ?_) ?_
 ·have gx:=QAY (d:=d) (j:=i2) (by omega) (by omega)
  have gy:=QAY (d:=d) (j:=j2) (by omega) (by omega)
  have hsw:=QBq d i2 j2
  simp +decide -dsimp -implicitDefEqProofs [go_sem,hle,hin,hjn,gx,gy,QAt,QAt,QBj,QBx,QBg]
  rw [hsw,← hee]
  refine QAN (by simp) ?_
  refine gs ?_
  exact QAJ _ _
 have hlt12:i2 < j2:=QLc hi2 hj2 (by omega) (by omega)
 obtain ⟨i3,hi3⟩:∃ x,x = i2 + 1:=⟨_,rfl⟩
 obtain ⟨j3,hj3⟩:∃ x,x = j2 - 1:=⟨_,rfl⟩
 have wi:IntKind.i64.wrap ((i2:Int) + 1) = (i3:Int):=by rw [w64 (by omega) (by omega)]; omega
 have wj:IntKind.i64.wrap ((j2:Int) - 1) = (j3:Int):=by rw [w64 (by omega) (by omega)]; omega
 refine QAP ⟨tmps 178 [(0,.own 0 n),(1,.int .i64 a),(2,.int .i64 b),(3,.int .i64 p),(4,.fn (.func 54) [] []),(10,.int .i64 0),(11,.bool false),(12,.int .i64 i3),(13,.int .i64 j2)],[.reg 9 1 (rows e)]⟩ (QAD ?_) ?_
 ·simp +decide -dsimp -implicitDefEqProofs [go_sem,wi]
  refine QAN (by simp) ?_
  refine gs ?_
  exact QAJ _ _
 refine QAP ⟨tmps 178 [(0,.own 0 n),(1,.int .i64 a),(2,.int .i64 b),(3,.int .i64 p),(4,.fn (.func 54) [] []),(10,.int .i64 0),(11,.bool false),(12,.int .i64 i3),(13,.int .i64 j3)],[.reg 9 1 (rows e)]⟩ (QAD ?_) ?_
 ·simp +decide -dsimp -implicitDefEqProofs [go_sem,wj]
  refine QAN (by simp) ?_
  refine gs ?_
  exact QAJ _ _
 clear hd hok hle ga hi2 hj2 hdd hee
 obtain ⟨r,hr⟩:∃ r,r = partLoop ltP a i3 j3 e:=⟨_,rfl⟩
 rw [← hi3,← hj3,← hr]
 refine QA6 (S:=Nat) (fun s=>⟨tmps 178 [(0,.own 0 n),(1,.int .i64 a),(2,.int .i64 b),(3,.int .i64 p),(4,.fn (.func 54) [] []),(10,.int .i64 0),(11,.bool false),(12,.int .i64 (s:Nat)),(13,.int .i64 r.1)],[.reg 9 1 (rows r.2)]⟩) (fun _=>r.1 < b ∧ r.2.size = n ∧ okP r.2) (QBZ (QAD ?_)) ?_
 ·simp +decide -dsimp -implicitDefEqProofs [go_sem]
  refine QBH (S:=Nat × Nat × Array Txt) (fun s=>⟨tmps 178 [(0,.own 0 n),(1,.int .i64 a),(2,.int .i64 b),(3,.int .i64 p),(4,.fn (.func 54) [] []),(10,.int .i64 0),(11,.bool false),(12,.int .i64 s.1),(13,.int .i64 s.2.1)],[.reg 9 1 (rows s.2.2)]⟩) (fun s=>s.2.1 + 1 - s.1) (fun s=>a + 1 ≤ s.1 ∧ s.1 ≤ s.2.1 + 1 ∧ s.2.1 < b ∧ s.2.2.size = n ∧ okP s.2.2 ∧ r = partLoop ltP a s.1 s.2.1 s.2.2) (i3,j3,e) ⟨by show a + 1 ≤ i3; omega,by show i3 ≤ j3 + 1; omega,by show j3 < b; omega,he,hoe,hr⟩ (QAC (by simp) ?_) ?_
  ·simp +decide -dsimp -implicitDefEqProofs [go_sem]
   exact QAJ _ _
  rintro ⟨i,j,f⟩ ⟨q1,q2,q3,q4,q5,q6⟩
  simp only at q1 q2 q3 q4 q5 q6
  have hle:(rows f).length = n:=by rw [QBl,q4]
  have ga:=QAY (d:=f) (j:=a) (by omega) (by omega)
  obtain ⟨i5,hi5⟩:∃ x,x = scanUp (fun x=>ltP x f[a]!) f j i:=⟨_,rfl⟩
  obtain ⟨j5,hj5⟩:∃ x,x = scanDown (fun x=>!ltP x f[a]!) f i5 j:=⟨_,rfl⟩
  have bi:=scanUp_spec (fun x=>ltP x f[a]!) f j _ i rfl
  rw [← hi5] at bi
  have bj:=scanDown_spec (fun x=>!ltP x f[a]!) f i5 j
  rw [← hj5] at bj
  have bi1:=bi.1
  have bi2:=bi.2.1 (by omega)
  have bj1:=bj.1
  have bj2:=bj.2.1 (by omega)
  clear bi bj
  rw [partLoop_eq,← hi5,← hj5] at q6
  refine QBZ ?_
  refine QAP ⟨tmps 178 [(0,.own 0 n),(1,.int .i64 a),(2,.int .i64 b),(3,.int .i64 p),(4,.fn (.func 54) [] []),(10,.int .i64 0),(11,.bool false),(12,.int .i64 i5),(13,.int .i64 j)],[.reg 9 1 (rows f)]⟩ (QAD ?_) ?_
  ·
   refine gs ?_
   refine QAQ (S:=Nat) (fun s=>⟨tmps 178 [(0,.own 0 n),(1,.int .i64 a),(2,.int .i64 b),(3,.int .i64 p),(4,.fn (.func 54) [] []),(10,.int .i64 0),(11,.bool false),(12,.int .i64 (s:Nat)),(13,.int .i64 j)],[.reg 9 1 (rows f)]⟩) (fun s=>j + 1 - s) (fun s=>a + 1 ≤ s ∧ s ≤ j + 1 ∧ i5 = scanUp (fun x=>ltP x f[a]!) f j s) (i) ⟨by omega,by omega,hi5⟩ (QAC (by simp) ?_) ?_
   ·simp +decide -dsimp -implicitDefEqProofs [go_sem]
    exact QAJ _ _
   rintro s ⟨s1,s2,s3⟩
   by_cases h:s ≤ j
   ·have gi:=QAY (d:=f) (j:=s) (by omega) (by omega)
    have hsn:s < n:=by omega
    have cl:=QCu _ _ (QBf q5 (j:=s) (by omega)) (QBf q5 (j:=a) (by omega))
    have w1:IntKind.i64.wrap ((s:Int) + 1) = s + 1:=w64 (by omega) (by omega)
    simp +decide -dsimp -implicitDefEqProofs [go_sem,h,hle,hsn,han,gi,ga]
    refine QAK cl (by simp +decide -dsimp -implicitDefEqProofs [go_sem]) rfl ?_
    by_cases hlt:QFA f[s]! f[a]! < 0
    ·conv at s3=>rhs; rw [scanUp,if_pos (by simpa [ltP,hlt] using h)]
     simp +decide -dsimp -implicitDefEqProofs [go_sem,hlt,w1]
     refine QAG (s + 1) ⟨by omega,by omega,s3⟩ (by omega) (QAC (by simp) ?_)
     refine gs ?_
     exact QAJ _ _
    ·conv at s3=>rhs; rw [scanUp,if_neg (by simp [ltP,hlt])]
     subst s3
     simp +decide -dsimp -implicitDefEqProofs [go_sem,hlt]
     refine QAN (by simp) ?_
     refine gs ?_
     exact QAJ _ _
   ·conv at s3=>rhs; rw [scanUp,if_neg (by simp [h])]
    subst s3
    simp +decide -dsimp -implicitDefEqProofs [go_sem,h]
    refine QAN (by simp) ?_
    refine gs ?_
    exact QAJ _ _
  refine QAP ⟨tmps 178 [(0,.own 0 n),(1,.int .i64 a),(2,.int .i64 b),(3,.int .i64 p),(4,.fn (.func 54) [] []),(10,.int .i64 0),(11,.bool false),(12,.int .i64 i5),(13,.int .i64 j5)],[.reg 9 1 (rows f)]⟩ (QAD ?_) ?_
  ·
   refine gs ?_
   refine QAQ (S:=Nat) (fun s=>⟨tmps 178 [(0,.own 0 n),(1,.int .i64 a),(2,.int .i64 b),(3,.int .i64 p),(4,.fn (.func 54) [] []),(10,.int .i64 0),(11,.bool false),(12,.int .i64 i5),(13,.int .i64 (s:Nat))],[.reg 9 1 (rows f)]⟩) (fun s=>s) (fun s=>s ≤ j ∧ i5 ≤ s + 1 ∧ j5 = scanDown (fun x=>!ltP x f[a]!) f i5 s) (j) ⟨by omega,by omega,hj5⟩ (QAC (by simp) ?_) ?_
   ·simp +decide -dsimp -implicitDefEqProofs [go_sem]
    exact QAJ _ _
   rintro s ⟨s1,s2,s3⟩
   by_cases h:i5 ≤ s
   ·have gi:=QAY (d:=f) (j:=s) (by omega) (by omega)
    have hsn:s < n:=by omega
    have cl:=QCu _ _ (QBf q5 (j:=s) (by omega)) (QBf q5 (j:=a) (by omega))
    have w1:IntKind.i64.wrap ((s:Int) - 1) = ((s - 1:Nat):Int):=by rw [w64 (by omega) (by omega)]; omega
    simp +decide -dsimp -implicitDefEqProofs [go_sem,h,hle,hsn,han,gi,ga]
    refine QAK cl (by simp +decide -dsimp -implicitDefEqProofs [go_sem]) rfl ?_
    by_cases hlt:QFA f[s]! f[a]! < 0
    ·rw [QCc _ _ _ _ (.inr (by simp [ltP,hlt]))] at s3
     subst s3
     simp +decide -dsimp -implicitDefEqProofs [go_sem,hlt]
     refine QAN (by simp) ?_
     refine gs ?_
     exact QAJ _ _
    ·rw [QFB _ _ _ _ h (by omega) (by simp [ltP,hlt])] at s3
     simp +decide -dsimp -implicitDefEqProofs [go_sem,hlt,w1]
     refine QAG (s - 1) ⟨by omega,by omega,s3⟩ (by omega) (QAC (by simp) ?_)
     refine gs ?_
     exact QAJ _ _
   ·rw [QCc _ _ _ _ (.inl h)] at s3
    subst s3
    simp +decide -dsimp -implicitDefEqProofs [go_sem,h]
    refine QAN (by simp) ?_
    refine gs ?_
    exact QAJ _ _
  by_cases hij5:i5 > j5
  ·have hij6:(j5:Int) < (i5:Int):=by omega
   rw [if_pos hij5] at q6
   rw [q6]
   refine QAD ?_
   simp +decide -dsimp -implicitDefEqProofs [go_sem,hij6]
   refine QAs i5 ⟨by show j5 < b; omega,q4,q5⟩ (QAC (by simp) ?_)
   refine gs ?_
   exact QAJ _ _
  have hij6:¬ (j5:Int) < (i5:Int):=by omega
  have hl5:i5 < j5:=QLc hi5 hj5 (by omega) (by omega)
  rw [if_neg hij5] at q6
  have hin5:i5 < n:=by omega
  have hjn5:j5 < n:=by omega
  have gx:=QAY (d:=f) (j:=i5) (by omega) (by omega)
  have gy:=QAY (d:=f) (j:=j5) (by omega) (by omega)
  have hsw:=QBq f i5 j5
  have wi:IntKind.i64.wrap ((i5:Int) + 1) = (i5:Int) + 1:=w64 (by omega) (by omega)
  have wj:IntKind.i64.wrap ((j5:Int) - 1) = ((j5 - 1:Nat):Int):=by rw [w64 (by omega) (by omega)]; omega
  refine QAD ?_
  simp +decide -dsimp -implicitDefEqProofs [go_sem,hij6,hle,hin5,hjn5,gx,gy,QAt,QAt,QBj,QBx,QBg,wi,wj]
  rw [hsw]
  refine QAG (i5 + 1,j5 - 1,swp f i5 j5) ⟨by show a + 1 ≤ i5 + 1; omega,by show i5 + 1 ≤ j5 - 1 + 1; omega,by show j5 - 1 < b; omega,by show (swp f i5 j5).size = n; rw [QBS,q4],QCL q5 (by omega) (by omega),q6⟩ (by show j5 - 1 + 1 - (i5 + 1) < j + 1 - i; omega) (QAC (by simp) ?_)
  refine gs ?_
  exact QAJ _ _
 rintro s ⟨r1,r2,r3⟩
 obtain ⟨j7,f⟩:=r
 simp only at r1 r2 r3 ⊢
 have hle:(rows f).length = n:=by rw [QBl,r2]
 have hjn7:j7 < n:=by omega
 have gx:=QAY (d:=f) (j:=j7) (by omega) (by omega)
 have ga:=QAY (d:=f) (j:=a) (by omega) (by omega)
 have hsw:=QBq f j7 a
 refine QAD ?_
 simp +decide -dsimp -implicitDefEqProofs [go_sem,hle,han,hjn7,gx,ga,QAt,QAt,QBj,QBx,QBg]
 rw [hsw]
 exact ⟨rfl,QAJ _ _⟩
end Go.Ab
namespace Go.Ab
open Go Go.Proofs Go.Sort
theorem QVE:∀ (j:Nat) (d:Array Txt),j < d.size → okP d → okP (shiftDown ltP j d) ∧ (shiftDown ltP j d).size = d.size
 | 0,d,_,h=>⟨h,rfl⟩
 | j + 1,d,hj,h=>by
  rw [shiftDown]
  split
  ·exact ⟨h,rfl⟩
  ·have:=QVE j (swp d (j + 1) j) (by rw [QBS]; omega) (QCL h hj (by omega))
   rw [QBS] at this
   exact this
theorem QVF (b:Nat):∀ (k j:Nat) (d:Array Txt),b - j ≤ k → b ≤ d.size → 1 ≤ j → okP d → okP (shiftUp ltP b j d) ∧ (shiftUp ltP b j d).size = d.size
 | 0,j,d,hk,_,_,h=>by
  rw [shiftUp,if_neg (by omega)]
  exact ⟨h,rfl⟩
 | k + 1,j,d,hk,hb,hj,h=>by
  rw [shiftUp]
  split
  ·split
   ·exact ⟨h,rfl⟩
   ·have:=QVF b k (j + 1) (swp d j (j - 1)) (by omega) (by rw [QBS]; exact hb) (by omega) (QCL h (by omega) (by omega))
    rw [QBS] at this
    exact this
  ·exact ⟨h,rfl⟩
theorem QVG {lt:Txt → Txt → Bool} {d:Array Txt} {b:Nat}:∀ (k i:Nat),b - i ≤ k → i ≤ b → i ≤ scanSorted lt d b i ∧ scanSorted lt d b i ≤ b
 | 0,i,hk,hi=>by
  rw [scanSorted,if_neg (by simp; omega)]
  exact ⟨Nat.le_refl _,hi⟩
 | k + 1,i,hk,hi=>by
  rw [scanSorted]
  split
  ·rename_i h
   simp only [Bool.and_eq_true,decide_eq_true_eq] at h
   have:=QVG (lt:=lt) (d:=d) (b:=b) k (i + 1) (by omega) (by omega)
   exact ⟨by omega,this.2⟩
  ·exact ⟨Nat.le_refl _,hi⟩
theorem QHc (d0:Array Txt) (a b:Nat) (hn:d0.size ≤ 100000) (h0:okP d0) (hab:a < b) (hb:b ≤ d0.size):
  ACalls Tryz.prog 151 [.own 0 d0.size,.int .i64 a,.int .i64 b,.fn (.func 54) [] []] [rgO d0]
   (.bool (partialInsertionSort ltP d0 a b).2) [rgO (partialInsertionSort ltP d0 a b).1]:=by
 obtain ⟨n,hN⟩:∃ n,n = d0.size:=⟨_,rfl⟩
 rw [← hN] at hn hb ⊢
 obtain ⟨r,hr⟩:∃ r,r = partialInsertionSort ltP d0 a b:=⟨_,rfl⟩
 rw [← hr]
 rw [partialInsertionSort] at hr
 obtain ⟨ia,hia⟩:∃ x,x = a + 1:=⟨_,rfl⟩
 rw [← hia] at hr
 have wa:IntKind.i64.wrap ((a:Int) + 1) = (ia:Int):=by rw [w64 (by omega) (by omega)]; omega
 have wba:IntKind.i64.wrap ((b:Int) - (a:Int)) = (b:Int) - (a:Int):=w64 (by omega) (by omega)
 refine QA2 cqq rfl ?_
 unfold rgO
 refine QAP ⟨tmps 141 [(0,.own 0 n),(1,.int .i64 a),(2,.int .i64 b),(3,.fn (.func 54) [] []),(8,.bool false)],[.reg 9 1 (rows d0)]⟩ (QAD ?_) ?_
 ·
  refine gs ?_
  refine QAN (by simp) ?_
  refine gs ?_
  exact QAJ _ _
 refine QAP ⟨tmps 141 [(0,.own 0 n),(1,.int .i64 a),(2,.int .i64 b),(3,.fn (.func 54) [] []),(8,.bool false),(9,.int .i64 ia)],[.reg 9 1 (rows d0)]⟩ (QAD ?_) ?_
 ·
  simp +decide -dsimp -implicitDefEqProofs [go_sem,wa]
  refine QAN (by simp) ?_
  refine gs ?_
  exact QAJ _ _
 refine QA6 (S:=Nat) (fun s=>⟨tmps 141 [(0,.own 0 n),(1,.int .i64 a),(2,.int .i64 b),(3,.fn (.func 54) [] []),(8,.bool false),(9,.int .i64 (s:Nat)),(10,.int .i64 5)],[.reg 9 1 (rows r.1)]⟩) (fun _=>r.2 = false) ?_ ?_
 ·
  refine QAP ⟨tmps 141 [(0,.own 0 n),(1,.int .i64 a),(2,.int .i64 b),(3,.fn (.func 54) [] []),(8,.bool false),(9,.int .i64 ia),(10,.int .i64 0)],[.reg 9 1 (rows d0)]⟩ (QAD ?_) ?_
  ·
   refine gs ?_
   refine QAN (by simp) ?_
   refine gs ?_
   exact QAJ _ _
  refine QBZ (QAD ?_)
  refine gs ?_
  refine QBH (S:=Nat × Nat × Array Txt) (fun s=>⟨tmps 141 [(0,.own 0 n),(1,.int .i64 a),(2,.int .i64 b),(3,.fn (.func 54) [] []),(8,.bool false),(9,.int .i64 s.2.1),(10,.int .i64 s.1)],[.reg 9 1 (rows s.2.2)]⟩) (fun s=>5 - s.1) (fun s=>s.1 ≤ 5 ∧ a + 1 ≤ s.2.1 ∧ s.2.1 ≤ b ∧ s.2.2.size = n ∧ okP s.2.2 ∧ r = partialIns ltP a b (5 - s.1) s.2.1 s.2.2) (0,ia,d0) ⟨Nat.zero_le _,by show a + 1 ≤ ia; omega,by show ia ≤ b; omega,hN.symm,h0,hr⟩ (QAC (by simp) ?_) ?_
  ·
   refine gs ?_
   exact QAJ _ _
  rintro ⟨t,i,d⟩ ⟨q1,q2,q3,q4,q5,q6⟩
  simp only at q1 q2 q3 q4 q5 q6
  by_cases ht:t < 5
  rotate_left
  ·have ht5:t = 5:=by omega
   subst ht5
   have q6:r = (d,false):=q6
   rw [q6]
   refine QAD ?_
   refine gs ?_
   refine QAs i (by simp) (QAC (by simp) ?_)
   refine gs ?_
   exact QAJ _ _
  obtain ⟨t5,ht5⟩:∃ x,5 - t = x + 1:=⟨4 - t,by omega⟩
  have ht4:5 - (t + 1) = t5:=by omega
  have hti:(t:Int) < 5:=by omega
  have wt:IntKind.i64.wrap ((t:Int) + 1) = t + 1:=w64 (by omega) (by omega)
  refine QAP ⟨tmps 141 [(0,.own 0 n),(1,.int .i64 a),(2,.int .i64 b),(3,.fn (.func 54) [] []),(8,.bool false),(9,.int .i64 i),(10,.int .i64 t)],[.reg 9 1 (rows d)]⟩ (QAD ?_) ?_
  ·
   simp +decide -dsimp -implicitDefEqProofs [go_sem,hti]
   refine QAN (by simp) ?_
   refine gs ?_
   exact QAJ _ _
  rw [ht5,partialIns_succ] at q6
  obtain ⟨bs1,bs2⟩:=QVG (lt:=ltP) (d:=d) (b:=b) _ i (Nat.le_refl _) q3
  obtain ⟨i5,hi5⟩:∃ x,x = scanSorted ltP d b i:=⟨_,rfl⟩
  rw [← hi5] at q6 bs1 bs2
  obtain ⟨e1,he1⟩:∃ x,x = swp d i5 (i5 - 1):=⟨_,rfl⟩
  obtain ⟨e2,he2⟩:∃ x,x = (if i5 - a ≥ 2 then shiftDown ltP (i5 - 1) e1 else e1):=⟨_,rfl⟩
  obtain ⟨e3,he3⟩:∃ x,x = (if b - i5 ≥ 2 then shiftUp ltP b (i5 + 1) e2 else e2):=⟨_,rfl⟩
  have hf:fixUp ltP b i5 (fixDown ltP a i5 (swp d i5 (i5 - 1))) = e3:=by subst he3 he2 he1; rfl
  rw [hf] at q6
  have hle:(rows d).length = n:=by rw [QBl,q4]
  refine QA6 (S:=Unit) (fun _=>⟨tmps 141 [(0,.own 0 n),(1,.int .i64 a),(2,.int .i64 b),(3,.fn (.func 54) [] []),(8,.bool false),(9,.int .i64 i5),(10,.int .i64 t)],[.reg 9 1 (rows e3)]⟩) (fun _=>r = partialIns ltP a b t5 i5 e3 ∧ e3.size = n ∧ okP e3) (QBZ ?_) ?_
  rotate_left
  ·rintro _ ⟨p1,p2,p3⟩
   refine QAD ?_
   simp +decide -dsimp -implicitDefEqProofs [go_sem,wt]
   refine QAG (t + 1,i5,e3) ⟨by show t + 1 ≤ 5; omega,by show a + 1 ≤ i5; omega,bs2,p2,p3,by show r = partialIns ltP a b (5 - (t + 1)) i5 e3; rw [ht4]; exact p1⟩ (by show 5 - (t + 1) < 5 - t; omega) (QAC (by simp) ?_)
   refine gs ?_
   exact QAJ _ _
  refine QAP ⟨tmps 141 [(0,.own 0 n),(1,.int .i64 a),(2,.int .i64 b),(3,.fn (.func 54) [] []),(8,.bool false),(9,.int .i64 i5),(10,.int .i64 t)],[.reg 9 1 (rows d)]⟩ (QAD ?_) ?_
  ·
   refine gs ?_
   refine QAQ (S:=Nat) (fun s=>⟨tmps 141 [(0,.own 0 n),(1,.int .i64 a),(2,.int .i64 b),(3,.fn (.func 54) [] []),(8,.bool false),(9,.int .i64 (s:Nat)),(10,.int .i64 t)],[.reg 9 1 (rows d)]⟩) (fun s=>b - s) (fun s=>a + 1 ≤ s ∧ s ≤ b ∧ i5 = scanSorted ltP d b s) i ⟨q2,q3,hi5⟩ (QAC (by simp) ?_) ?_
   ·
    refine gs ?_
    exact QAJ _ _
   rintro s ⟨s1,s2,s3⟩
   by_cases h:s < b
   ·have g1:=QAY (d:=d) (j:=s) (by omega) (by omega)
    have g2:=QAY (d:=d) (j:=s - 1) (by omega) (by omega)
    have hsn:s < n:=by omega
    have hs1:s - 1 < n:=by omega
    have cl:=QCu _ _ (QBf q5 (j:=s) (by omega)) (QBf q5 (j:=s - 1) (by omega))
    have w1:IntKind.i64.wrap ((s:Int) - 1) = ((s - 1:Nat):Int):=by rw [w64 (by omega) (by omega)]; omega
    have w2:IntKind.i64.wrap ((s:Int) + 1) = s + 1:=w64 (by omega) (by omega)
    simp +decide -dsimp -implicitDefEqProofs [go_sem,h,hle,hsn,hs1,g1,g2,w1]
    refine QAK cl (by simp +decide -dsimp -implicitDefEqProofs [go_sem]) rfl ?_
    by_cases hlt:QFA d[s]! d[s - 1]! < 0
    ·conv at s3=>rhs; rw [scanSorted,if_neg (by simp [ltP,hlt])]
     subst s3
     simp +decide -dsimp -implicitDefEqProofs [go_sem,hlt]
     refine QAN (by simp) ?_
     refine gs ?_
     exact QAJ _ _
    ·conv at s3=>rhs; rw [scanSorted,if_pos (by simpa [ltP,hlt] using h)]
     simp +decide -dsimp -implicitDefEqProofs [go_sem,hlt,w2]
     refine QAG (s + 1) ⟨by omega,by omega,s3⟩ (by omega) (QAC (by simp) ?_)
     refine gs ?_
     exact QAJ _ _
   ·conv at s3=>rhs; rw [scanSorted,if_neg (by simp [h])]
    subst s3
    simp +decide -dsimp -implicitDefEqProofs [go_sem,h]
    refine QAN (by simp) ?_
    refine gs ?_
    exact QAJ _ _
  by_cases hib:i5 = b
  ·rw [if_pos hib] at q6
   rw [q6]
   refine QAD ?_
   simp +decide -dsimp -implicitDefEqProofs [go_sem,hib]
   exact QAJ _ _
  rw [if_neg hib] at q6
  have hib2:¬ (i5:Int) = (b:Int):=by omega
  refine QAP ⟨tmps 141 [(0,.own 0 n),(1,.int .i64 a),(2,.int .i64 b),(3,.fn (.func 54) [] []),(8,.bool false),(9,.int .i64 i5),(10,.int .i64 t)],[.reg 9 1 (rows d)]⟩ (QAD ?_) ?_
  ·
   simp +decide -dsimp -implicitDefEqProofs [go_sem,hib2]
   refine QAN (by simp) ?_
   refine gs ?_
   exact QAJ _ _
  by_cases h50:b - a < 50
  ·rw [if_pos h50] at q6
   rw [q6]
   have h51:(b:Int) - (a:Int) < 50:=by omega
   refine QAD ?_
   simp +decide -dsimp -implicitDefEqProofs [go_sem,wba,h51]
   exact QAJ _ _
  rw [if_neg h50] at q6
  have h51:¬ (b:Int) - (a:Int) < 50:=by omega
  refine QAP ⟨tmps 141 [(0,.own 0 n),(1,.int .i64 a),(2,.int .i64 b),(3,.fn (.func 54) [] []),(8,.bool false),(9,.int .i64 i5),(10,.int .i64 t)],[.reg 9 1 (rows d)]⟩ (QAD ?_) ?_
  ·
   simp +decide -dsimp -implicitDefEqProofs [go_sem,wba,h51]
   refine QAN (by simp) ?_
   refine gs ?_
   exact QAJ _ _
  have hin:i5 < n:=by omega
  have hi1:i5 - 1 < n:=by omega
  have w1:IntKind.i64.wrap ((i5:Int) - 1) = ((i5 - 1:Nat):Int):=by rw [w64 (by omega) (by omega)]; omega
  have w2:IntKind.i64.wrap ((i5:Int) + 1) = ((i5 + 1:Nat):Int):=by rw [w64 (by omega) (by omega)]; omega
  have w3:IntKind.i64.wrap ((i5:Int) - (a:Int)) = (i5:Int) - a:=w64 (by omega) (by omega)
  have w4:IntKind.i64.wrap ((b:Int) - (i5:Int)) = (b:Int) - i5:=w64 (by omega) (by omega)
  refine QAP ⟨tmps 141 [(0,.own 0 n),(1,.int .i64 a),(2,.int .i64 b),(3,.fn (.func 54) [] []),(8,.bool false),(9,.int .i64 i5),(10,.int .i64 t)],[.reg 9 1 (rows e1)]⟩ (QAD ?_) ?_
  ·have gx:=QAY (d:=d) (j:=i5) (by omega) (by omega)
   have gy:=QAY (d:=d) (j:=i5 - 1) (by omega) (by omega)
   have hsw:=QBq d i5 (i5 - 1)
   simp +decide -dsimp -implicitDefEqProofs [go_sem,hle,hin,hi1,gx,gy,w1,QAt,QAt,QBj,QBx,QBg]
   rw [hsw,← he1]
   refine QAN (by simp) ?_
   refine gs ?_
   exact QAJ _ _
  have z1:e1.size = n:=by rw [he1,QBS,q4]
  have o1:okP e1:=by rw [he1]; exact QCL q5 (by omega) (by omega)
  have zo2:okP e2 ∧ e2.size = n:=by
   rw [he2]
   split
   ·have:=QVE (i5 - 1) e1 (by omega) o1; rw [z1] at this; exact this
   ·exact ⟨o1,z1⟩
  obtain ⟨o2,z2⟩:=zo2
  have zo3:okP e3 ∧ e3.size = n:=by
   rw [he3]
   split
   ·have:=QVF b _ (i5 + 1) e2 (Nat.le_refl _) (by omega) (by omega) o2; rw [z2] at this; exact this
   ·exact ⟨o2,z2⟩
  obtain ⟨o3,z3⟩:=zo3
  clear hi5 hr he1 hle
  refine QAP ⟨tmps 141 [(0,.own 0 n),(1,.int .i64 a),(2,.int .i64 b),(3,.fn (.func 54) [] []),(8,.bool false),(9,.int .i64 i5),(10,.int .i64 t)],[.reg 9 1 (rows e2)]⟩ (QAD ?_) ?_
  ·by_cases h2:i5 - a ≥ 2
   ·rw [if_pos h2] at he2
    have h2i:(2:Int) ≤ (i5:Int) - a:=by omega
    simp +decide -dsimp -implicitDefEqProofs [go_sem,w3,w1,h2i]
    refine QAQ (S:=Nat × Array Txt) (fun s=>⟨tmps 141 [(0,.own 0 n),(1,.int .i64 a),(2,.int .i64 b),(3,.fn (.func 54) [] []),(8,.bool false),(9,.int .i64 i5),(10,.int .i64 t),(11,.int .i64 s.1)],[.reg 9 1 (rows s.2)]⟩) (fun s=>s.1) (fun s=>s.1 < n ∧ s.2.size = n ∧ okP s.2 ∧ e2 = shiftDown ltP s.1 s.2) (i5 - 1,e1) ⟨hi1,z1,o1,he2⟩ (QAC (by simp) ?_) ?_
    ·
     refine gs ?_
     exact QAJ _ _
    rintro ⟨j,f⟩ ⟨s1,s2,s3,s4⟩
    simp only at s1 s2 s3 s4
    cases j with
    | zero=>
     have s4:e2 = f:=s4
     subst s4
     refine gs ?_
     refine QAN (by simp) ?_
     refine gs ?_
     exact QAJ _ _
    | succ j=>
     have hle:(rows f).length = n:=by rw [QBl,s2]
     have g1:=QAY (d:=f) (j:=j + 1) (by omega) (by omega)
     have g2:=QAY (d:=f) (j:=j) (by omega) (by omega)
     have hj:j < n:=by omega
     have hz:(0:Int) ≤ (j:Int) + 1:=by omega
     have hz1:(1:Int) ≤ (j:Int) + 1:=by omega
     have cl:=QCu _ _ (QBf s3 (j:=j + 1) (by omega)) (QBf s3 (j:=j) (by omega))
     have wj:IntKind.i64.wrap (j:Int) = (j:Int):=w64 (by omega) (by omega)
     have hsw:=QBq f (j + 1) j
     simp +decide -dsimp -implicitDefEqProofs [go_sem,hz,hz1,hle,s1,hj,g1,g2,wj]
     refine QAK cl (by simp +decide -dsimp -implicitDefEqProofs [go_sem]) rfl ?_
     rw [shiftDown] at s4
     by_cases hlt:QFA f[j + 1]! f[j]! < 0
     ·rw [if_neg (by simp [ltP,hlt])] at s4
      simp +decide -dsimp -implicitDefEqProofs [go_sem,hz,hle,s1,hj,g1,g2,wj,hlt,QAt,QAt,QBj]
      rw [hsw]
      refine QAG (j,swp f (j + 1) j) ⟨hj,by show (swp f (j + 1) j).size = n; rw [QBS,s2],QCL s3 (by omega) (by omega),s4⟩ (Nat.lt_succ_self j) (QAC (by simp) ?_)
      refine gs ?_
      exact QAJ _ _
     ·rw [if_pos (by simp [ltP,hlt])] at s4
      subst s4
      simp +decide -dsimp -implicitDefEqProofs [go_sem,hlt]
      refine QAN (by simp) ?_
      refine gs ?_
      exact QAJ _ _
   ·rw [if_neg h2] at he2
    subst he2
    have h2i:¬ (2:Int) ≤ (i5:Int) - a:=by omega
    simp +decide -dsimp -implicitDefEqProofs [go_sem,w3,h2i]
    refine QAN (by simp) ?_
    refine gs ?_
    exact QAJ _ _
  refine QAD ?_
  by_cases h2:b - i5 ≥ 2
  ·rw [if_pos h2] at he3
   have h2i:(2:Int) ≤ (b:Int) - i5:=by omega
   simp +decide -dsimp -implicitDefEqProofs [go_sem,w4,w2,h2i]
   refine QAQ (S:=Nat × Array Txt) (fun s=>⟨tmps 141 [(0,.own 0 n),(1,.int .i64 a),(2,.int .i64 b),(3,.fn (.func 54) [] []),(8,.bool false),(9,.int .i64 i5),(10,.int .i64 t),(12,.int .i64 s.1)],[.reg 9 1 (rows s.2)]⟩) (fun s=>b - s.1) (fun s=>1 ≤ s.1 ∧ s.2.size = n ∧ okP s.2 ∧ e3 = shiftUp ltP b s.1 s.2) (i5 + 1,e2) ⟨by show 1 ≤ i5 + 1; omega,z2,o2,he3⟩ (QAC (by simp) ?_) ?_
   ·
    refine gs ?_
    exact QAJ _ _
   rintro ⟨j,f⟩ ⟨s1,s2,s3,s4⟩
   simp only at s1 s2 s3 s4
   by_cases h:j < b
   rotate_left
   ·rw [shiftUp,if_neg h] at s4
    subst s4
    simp +decide -dsimp -implicitDefEqProofs [go_sem,h]
    refine QAs () ⟨q6,z3,o3⟩ (QAC (by simp) ?_)
    refine gs ?_
    exact QAJ _ _
   have hle:(rows f).length = n:=by rw [QBl,s2]
   have g1:=QAY (d:=f) (j:=j) (by omega) (by omega)
   have g2:=QAY (d:=f) (j:=j - 1) (by omega) (by omega)
   have hj:j < n:=by omega
   have hj1:j - 1 < n:=by omega
   have cl:=QCu _ _ (QBf s3 (j:=j) (by omega)) (QBf s3 (j:=j - 1) (by omega))
   have wj:IntKind.i64.wrap ((j:Int) - 1) = ((j - 1:Nat):Int):=by rw [w64 (by omega) (by omega)]; omega
   have wk:IntKind.i64.wrap ((j:Int) + 1) = j + 1:=w64 (by omega) (by omega)
   have hsw:=QBq f j (j - 1)
   simp +decide -dsimp -implicitDefEqProofs [go_sem,h,hle,hj,hj1,g1,g2,wj]
   refine QAK cl (by simp +decide -dsimp -implicitDefEqProofs [go_sem]) rfl ?_
   conv at s4=>rhs; rw [shiftUp,if_pos h]
   by_cases hlt:QFA f[j]! f[j - 1]! < 0
   ·conv at s4=>rhs; rw [if_neg (by simp [ltP,hlt])]
    simp +decide -dsimp -implicitDefEqProofs [go_sem,hle,hj,hj1,g1,g2,wj,wk,hlt,QAt,QAt,QBj,QBx,QBg]
    rw [hsw]
    refine QAG (j + 1,swp f j (j - 1)) ⟨by show 1 ≤ j + 1; omega,by show (swp f j (j - 1)).size = n; rw [QBS,s2],QCL s3 (by omega) (by omega),s4⟩ (by show b - (j + 1) < b - j; omega) (QAC (by simp) ?_)
    refine gs ?_
    exact QAJ _ _
   ·conv at s4=>rhs; rw [if_pos (by simp [ltP,hlt])]
    subst s4
    simp +decide -dsimp -implicitDefEqProofs [go_sem,hlt]
    refine QAs () ⟨q6,z3,o3⟩ (QAC (by simp) ?_)
    refine gs ?_
    exact QAJ _ _
  ·rw [if_neg h2] at he3
   subst he3
   have h2i:¬ (2:Int) ≤ (b:Int) - i5:=by omega
   simp +decide -dsimp -implicitDefEqProofs [go_sem,w4,h2i]
   refine QAs () ⟨q6,z3,o3⟩ (QAC (by simp) ?_)
   refine gs ?_
   exact QAJ _ _
 rintro s r2
 refine QAD ?_
 simp +decide -dsimp -implicitDefEqProofs [go_sem,r2]
 exact QAJ _ _
end Go.Ab
namespace Go.Ab
open Go Go.Proofs Go.Sort
theorem QQJ {α:Type} [Inhabited α] {lt:α → α → Bool} {a i j i2 j2:Nat} {d:Array α} (hi:i2 = scanUp (fun x=>!lt d[a]! x) d j i) (hj:j2 = scanDown (fun x=>lt d[a]! x) d i2 j) (h0:0 < i) (h:i2 ≤ j2):i2 < j2:=by
 have bi:=scanUp_spec (fun x=>!lt d[a]! x) d j _ i rfl
 rw [← hi] at bi
 have bj:=scanDown_spec (fun x=>lt d[a]! x) d i2 j
 rw [← hj] at bj
 rcases Nat.lt_or_ge i2 j2 with h' | h'
 ·exact h'
 ·have e:j2 = i2:=by omega
  have f1:=bi.2.2.2 (by have:=bj.1; omega)
  have f2:=bj.2.2.2 h (by have:=bi.1; omega)
  rw [e] at f2
  simp only [f2] at f1
  cases f1
theorem QKV (d0:Array Txt) (a b p:Nat) (hn:d0.size ≤ 100000) (h0:okP d0) (hap:a ≤ p) (hpb:p < b) (hb:b ≤ d0.size):
  ACalls Tryz.prog 152 [.own 0 d0.size,.int .i64 a,.int .i64 b,.int .i64 p,.fn (.func 54) [] []] [rgO d0]
   (.int .i64 (partitionEqual ltP d0 a b p).1) [rgO (partitionEqual ltP d0 a b p).2]:=by
 obtain ⟨n,hN⟩:∃ n,n = d0.size:=⟨_,rfl⟩
 rw [← hN] at hn hb ⊢
 have hle0:(rows d0).length = n:=by rw [QBl,hN]
 have han:a < n:=by omega
 have hpn:p < n:=by omega
 obtain ⟨e,hee⟩:∃ d,d = swp d0 a p:=⟨_,rfl⟩
 have he:e.size = n:=by rw [hee,QBS,hN]
 have hoe:okP e:=by rw [hee]; exact QCL h0 (by omega) (by omega)
 obtain ⟨j3,hj3⟩:∃ x,x = b - 1:=⟨_,rfl⟩
 obtain ⟨i3,hi3⟩:∃ x,x = a + 1:=⟨_,rfl⟩
 obtain ⟨r,hr⟩:∃ r,r = partEqLoop ltP a i3 j3 e:=⟨_,rfl⟩
 have hpart:partitionEqual ltP d0 a b p = r:=by
  subst hr hee hj3 hi3
  rfl
 rw [hpart]
 clear hpart
 have wa:IntKind.i64.wrap ((a:Int) + 1) = (i3:Int):=by rw [w64 (by omega) (by omega)]; omega
 have wb:IntKind.i64.wrap ((b:Int) - 1) = (j3:Int):=by rw [w64 (by omega) (by omega)]; omega
 refine QA2 cqq rfl ?_
 unfold rgO
 refine QAP ⟨tmps 90 [(0,.own 0 n),(1,.int .i64 a),(2,.int .i64 b),(3,.int .i64 p),(4,.fn (.func 54) [] []),(10,.int .i64 0)],[.reg 9 1 (rows d0)]⟩ (QAD ?_) ?_
 ·simp +decide -dsimp -implicitDefEqProofs [go_sem]
  refine QAN (by simp) ?_
  refine gs ?_
  exact QAJ _ _
 refine QAP ⟨tmps 90 [(0,.own 0 n),(1,.int .i64 a),(2,.int .i64 b),(3,.int .i64 p),(4,.fn (.func 54) [] []),(10,.int .i64 0)],[.reg 9 1 (rows e)]⟩ (QAD ?_) ?_
 ·have gx:=QAY (d:=d0) (j:=a) (by omega) (by omega)
  have gy:=QAY (d:=d0) (j:=p) (by omega) (by omega)
  have hsw:=QBq d0 a p
  simp +decide -dsimp -implicitDefEqProofs [go_sem,hle0,han,hpn,gx,gy,QAt,QAt,QBj,QBx,QBg]
  rw [hsw,← hee]
  refine QAN (by simp) ?_
  refine gs ?_
  exact QAJ _ _
 refine QAP ⟨tmps 90 [(0,.own 0 n),(1,.int .i64 a),(2,.int .i64 b),(3,.int .i64 p),(4,.fn (.func 54) [] []),(10,.int .i64 0),(11,.int .i64 i3),(12,.int .i64 j3)],[.reg 9 1 (rows e)]⟩ (QAD ?_) ?_
 ·simp +decide -dsimp -implicitDefEqProofs [go_sem,wa,wb]
  refine QAN (by simp) ?_
  refine gs ?_
  exact QAJ _ _
 clear hee
 refine QA6 (S:=Nat) (fun s=>⟨tmps 90 [(0,.own 0 n),(1,.int .i64 a),(2,.int .i64 b),(3,.int .i64 p),(4,.fn (.func 54) [] []),(10,.int .i64 0),(11,.int .i64 r.1),(12,.int .i64 (s:Nat))],[.reg 9 1 (rows r.2)]⟩) (fun _=>True) (QBZ (QAD ?_)) ?_
 ·simp +decide -dsimp -implicitDefEqProofs [go_sem]
  refine QBH (S:=Nat × Nat × Array Txt) (fun s=>⟨tmps 90 [(0,.own 0 n),(1,.int .i64 a),(2,.int .i64 b),(3,.int .i64 p),(4,.fn (.func 54) [] []),(10,.int .i64 0),(11,.int .i64 s.1),(12,.int .i64 s.2.1)],[.reg 9 1 (rows s.2.2)]⟩) (fun s=>s.2.1 + 1 - s.1) (fun s=>a + 1 ≤ s.1 ∧ s.1 ≤ s.2.1 + 1 ∧ s.2.1 < b ∧ s.2.2.size = n ∧ okP s.2.2 ∧ r = partEqLoop ltP a s.1 s.2.1 s.2.2) (i3,j3,e) ⟨by show a + 1 ≤ i3; omega,by show i3 ≤ j3 + 1; omega,by show j3 < b; omega,he,hoe,hr⟩ (QAC (by simp) ?_) ?_
  ·simp +decide -dsimp -implicitDefEqProofs [go_sem]
   exact QAJ _ _
  rintro ⟨i,j,f⟩ ⟨q1,q2,q3,q4,q5,q6⟩
  simp only at q1 q2 q3 q4 q5 q6
  have hle:(rows f).length = n:=by rw [QBl,q4]
  have ga:=QAY (d:=f) (j:=a) (by omega) (by omega)
  obtain ⟨i5,hi5⟩:∃ x,x = scanUp (fun x=>!ltP f[a]! x) f j i:=⟨_,rfl⟩
  obtain ⟨j5,hj5⟩:∃ x,x = scanDown (fun x=>ltP f[a]! x) f i5 j:=⟨_,rfl⟩
  have bi:=scanUp_spec (fun x=>!ltP f[a]! x) f j _ i rfl
  rw [← hi5] at bi
  have bj:=scanDown_spec (fun x=>ltP f[a]! x) f i5 j
  rw [← hj5] at bj
  have bi1:=bi.1
  have bi2:=bi.2.1 (by omega)
  have bj1:=bj.1
  have bj2:=bj.2.1 (by omega)
  clear bi bj
  rw [partEqLoop_eq,← hi5,← hj5] at q6
  refine QBZ ?_
  refine QAP ⟨tmps 90 [(0,.own 0 n),(1,.int .i64 a),(2,.int .i64 b),(3,.int .i64 p),(4,.fn (.func 54) [] []),(10,.int .i64 0),(11,.int .i64 i5),(12,.int .i64 j)],[.reg 9 1 (rows f)]⟩ (QAD ?_) ?_
  ·
   refine gs ?_
   refine QAQ (S:=Nat) (fun s=>⟨tmps 90 [(0,.own 0 n),(1,.int .i64 a),(2,.int .i64 b),(3,.int .i64 p),(4,.fn (.func 54) [] []),(10,.int .i64 0),(11,.int .i64 (s:Nat)),(12,.int .i64 j)],[.reg 9 1 (rows f)]⟩) (fun s=>j + 1 - s) (fun s=>a + 1 ≤ s ∧ s ≤ j + 1 ∧ i5 = scanUp (fun x=>!ltP f[a]! x) f j s) (i) ⟨by omega,by omega,hi5⟩ (QAC (by simp) ?_) ?_
   ·simp +decide -dsimp -implicitDefEqProofs [go_sem]
    exact QAJ _ _
   rintro s ⟨s1,s2,s3⟩
   by_cases h:s ≤ j
   ·have gi:=QAY (d:=f) (j:=s) (by omega) (by omega)
    have hsn:s < n:=by omega
    have cl:=QCu _ _ (QBf q5 (j:=a) (by omega)) (QBf q5 (j:=s) (by omega))
    have w1:IntKind.i64.wrap ((s:Int) + 1) = s + 1:=w64 (by omega) (by omega)
    simp +decide -dsimp -implicitDefEqProofs [go_sem,h,hle,hsn,han,gi,ga]
    refine QAK cl (by simp +decide -dsimp -implicitDefEqProofs [go_sem]) rfl ?_
    by_cases hlt:QFA f[a]! f[s]! < 0
    ·conv at s3=>rhs; rw [scanUp,if_neg (by simp [ltP,hlt])]
     subst s3
     simp +decide -dsimp -implicitDefEqProofs [go_sem,hlt]
     refine QAN (by simp) ?_
     refine gs ?_
     exact QAJ _ _
    ·conv at s3=>rhs; rw [scanUp,if_pos (by simpa [ltP,hlt] using h)]
     simp +decide -dsimp -implicitDefEqProofs [go_sem,hlt,w1]
     refine QAG (s + 1) ⟨by omega,by omega,s3⟩ (by omega) (QAC (by simp) ?_)
     refine gs ?_
     exact QAJ _ _
   ·conv at s3=>rhs; rw [scanUp,if_neg (by simp [h])]
    subst s3
    simp +decide -dsimp -implicitDefEqProofs [go_sem,h]
    refine QAN (by simp) ?_
    refine gs ?_
    exact QAJ _ _
  refine QAP ⟨tmps 90 [(0,.own 0 n),(1,.int .i64 a),(2,.int .i64 b),(3,.int .i64 p),(4,.fn (.func 54) [] []),(10,.int .i64 0),(11,.int .i64 i5),(12,.int .i64 j5)],[.reg 9 1 (rows f)]⟩ (QAD ?_) ?_
  ·
   refine gs ?_
   refine QAQ (S:=Nat) (fun s=>⟨tmps 90 [(0,.own 0 n),(1,.int .i64 a),(2,.int .i64 b),(3,.int .i64 p),(4,.fn (.func 54) [] []),(10,.int .i64 0),(11,.int .i64 i5),(12,.int .i64 (s:Nat))],[.reg 9 1 (rows f)]⟩) (fun s=>s) (fun s=>s ≤ j ∧ i5 ≤ s + 1 ∧ j5 = scanDown (fun x=>ltP f[a]! x) f i5 s) (j) ⟨by omega,by omega,hj5⟩ (QAC (by simp) ?_) ?_
   ·simp +decide -dsimp -implicitDefEqProofs [go_sem]
    exact QAJ _ _
   rintro s ⟨s1,s2,s3⟩
   by_cases h:i5 ≤ s
   ·have gi:=QAY (d:=f) (j:=s) (by omega) (by omega)
    have hsn:s < n:=by omega
    have cl:=QCu _ _ (QBf q5 (j:=a) (by omega)) (QBf q5 (j:=s) (by omega))
    have w1:IntKind.i64.wrap ((s:Int) - 1) = ((s - 1:Nat):Int):=by rw [w64 (by omega) (by omega)]; omega
    simp +decide -dsimp -implicitDefEqProofs [go_sem,h,hle,hsn,han,gi,ga]
    refine QAK cl (by simp +decide -dsimp -implicitDefEqProofs [go_sem]) rfl ?_
    by_cases hlt:QFA f[a]! f[s]! < 0
    ·rw [QFB _ _ _ _ h (by omega) (by simp [ltP,hlt])] at s3
     simp +decide -dsimp -implicitDefEqProofs [go_sem,hlt,w1]
     refine QAG (s - 1) ⟨by omega,by omega,s3⟩ (by omega) (QAC (by simp) ?_)
     refine gs ?_
     exact QAJ _ _
    ·rw [QCc _ _ _ _ (.inr (by simp [ltP,hlt]))] at s3
     subst s3
     simp +decide -dsimp -implicitDefEqProofs [go_sem,hlt]
     refine QAN (by simp) ?_
     refine gs ?_
     exact QAJ _ _
   ·rw [QCc _ _ _ _ (.inl h)] at s3
    subst s3
    simp +decide -dsimp -implicitDefEqProofs [go_sem,h]
    refine QAN (by simp) ?_
    refine gs ?_
    exact QAJ _ _
  by_cases hij5:i5 > j5
  ·have hij6:(j5:Int) < (i5:Int):=by omega
   rw [if_pos hij5] at q6
   rw [q6]
   refine QAD ?_
   simp +decide -dsimp -implicitDefEqProofs [go_sem,hij6]
   refine QAs j5 trivial (QAC (by simp) ?_)
   refine gs ?_
   exact QAJ _ _
  have hij6:¬ (j5:Int) < (i5:Int):=by omega
  have hl5:i5 < j5:=QQJ hi5 hj5 (by omega) (by omega)
  rw [if_neg hij5] at q6
  have hin5:i5 < n:=by omega
  have hjn5:j5 < n:=by omega
  have gx:=QAY (d:=f) (j:=i5) (by omega) (by omega)
  have gy:=QAY (d:=f) (j:=j5) (by omega) (by omega)
  have hsw:=QBq f i5 j5
  have wi:IntKind.i64.wrap ((i5:Int) + 1) = (i5:Int) + 1:=w64 (by omega) (by omega)
  have wj:IntKind.i64.wrap ((j5:Int) - 1) = ((j5 - 1:Nat):Int):=by rw [w64 (by omega) (by omega)]; omega
  refine QAD ?_
  simp +decide -dsimp -implicitDefEqProofs [go_sem,hij6,hle,hin5,hjn5,gx,gy,QAt,QAt,QBj,QBx,QBg,wi,wj]
  rw [hsw]
  refine QAG (i5 + 1,j5 - 1,swp f i5 j5) ⟨by show a + 1 ≤ i5 + 1; omega,by show i5 + 1 ≤ j5 - 1 + 1; omega,by show j5 - 1 < b; omega,by show (swp f i5 j5).size = n; rw [QBS,q4],QCL q5 (by omega) (by omega),q6⟩ (by show j5 - 1 + 1 - (i5 + 1) < j + 1 - i; omega) (QAC (by simp) ?_)
  refine gs ?_
  exact QAJ _ _
 rintro s _
 refine QAD ?_
 refine gs ?_
 exact QAJ _ _
end Go.Ab
namespace Go.Ab
open Go Go.Proofs Go.Sort
def kid {α:Type} [Inhabited α] (lt:α → α → Bool) (hi F r:Nat) (d:Array α):Nat:=if (decide (2 * r + 2 < hi) && lt d[F + (2 * r + 1)]! d[F + (2 * r + 2)]!) = true then 2 * r + 2 else 2 * r + 1
theorem QTV {α:Type} [Inhabited α] {lt:α → α → Bool} {hi F r:Nat} {d:Array α} (h:2 * r + 1 < hi):r < kid lt hi F r d ∧ kid lt hi F r d < hi:=by
 unfold kid
 split
 ·rename_i h2
  simp only [Bool.and_eq_true,decide_eq_true_eq] at h2
  omega
 ·omega
theorem QIf {α:Type} [Inhabited α] {lt:α → α → Bool} {hi F r:Nat} {d:Array α} (h:2 * r + 1 < hi):
  siftDown lt hi F r d = if lt d[F + r]! d[F + kid lt hi F r d]! = true then siftDown lt hi F (kid lt hi F r d) (swp d (F + r) (F + kid lt hi F r d)) else d:=by
 rw [siftDown,dif_neg (by omega)]
 unfold kid
 have e:2 * r + 1 + 1 = 2 * r + 2:=rfl
 have e2:F + (2 * r + 1) + 1 = F + (2 * r + 2):=rfl
 rw [e,e2]
 by_cases hc:(decide (2 * r + 2 < hi) && lt d[F + (2 * r + 1)]! d[F + (2 * r + 2)]!) = true
 ·rw [if_pos hc,if_pos hc]
  have h2:2 * r + 2 < hi:=by simp only [Bool.and_eq_true,decide_eq_true_eq] at hc; exact hc.1
  rw [dif_pos h2]
  cases lt d[F + r]! d[F + (2 * r + 2)]! <;> simp
 ·rw [if_neg hc,if_neg hc]
  cases lt d[F + r]! d[F + (2 * r + 1)]! <;> simp
theorem QJX (d0:Array Txt) (lo hi F:Nat) (hn:d0.size ≤ 100000) (h0:okP d0) (hlo:lo ≤ 100000) (hb:F + hi ≤ d0.size):
  ACalls Tryz.prog 179 [.own 0 d0.size,.int .i64 lo,.int .i64 hi,.int .i64 F,.fn (.func 54) [] []] [rgO d0] (.tup []) [rgO (siftDown ltP hi F lo d0)] ∧ okP (siftDown ltP hi F lo d0) ∧ (siftDown ltP hi F lo d0).size = d0.size:=by
 obtain ⟨n,hN⟩:∃ n,n = d0.size:=⟨_,rfl⟩
 rw [← hN] at hn hb ⊢
 have hok:∀ (k r:Nat) (d:Array Txt),hi - r ≤ k → d.size = n → okP d → okP (siftDown ltP hi F r d) ∧ (siftDown ltP hi F r d).size = n:=by
  intro k
  induction k with
  | zero=>intro r d hk hd h; rw [siftDown,dif_pos (by omega)]; exact ⟨h,hd⟩
  | succ k ih=>
   intro r d hk hd h
   by_cases h1:2 * r + 1 < hi
   ·rw [QIf h1]
    obtain ⟨b1,b2⟩:=QTV (lt:=ltP) (F:=F) (d:=d) h1
    split
    ·exact ih _ _ (by omega) (by rw [QBS,hd]) (QCL h (by omega) (by omega))
    ·exact ⟨h,hd⟩
   ·rw [siftDown,dif_pos (by omega)]; exact ⟨h,hd⟩
 refine ⟨?_,hok _ _ _ (Nat.le_refl _) hN.symm h0⟩
 clear hok
 obtain ⟨e,he⟩:∃ x,x = siftDown ltP hi F lo d0:=⟨_,rfl⟩
 rw [← he]
 refine QA2 cqq rfl ?_
 unfold rgO
 refine QAP ⟨tmps 82 [(0,.own 0 n),(1,.int .i64 lo),(2,.int .i64 hi),(3,.int .i64 F),(4,.fn (.func 54) [] []),(10,.int .i64 lo)],[.reg 9 1 (rows d0)]⟩ (QAD ?_) ?_
 ·
  refine gs ?_
  refine QAN (by simp) ?_
  refine gs ?_
  exact QAJ _ _
 refine QBZ (QAD ?_)
 refine gs ?_
 refine QBH (S:=Nat × Array Txt) (fun s=>⟨tmps 82 [(0,.own 0 n),(1,.int .i64 lo),(2,.int .i64 hi),(3,.int .i64 F),(4,.fn (.func 54) [] []),(10,.int .i64 s.1)],[.reg 9 1 (rows s.2)]⟩) (fun s=>hi - s.1) (fun s=>s.1 ≤ 100000 ∧ s.2.size = n ∧ okP s.2 ∧ e = siftDown ltP hi F s.1 s.2) (lo,d0) ⟨hlo,hN.symm,h0,he⟩ (QAC (by simp) ?_) ?_
 ·
  refine gs ?_
  exact QAJ _ _
 rintro ⟨r,d⟩ ⟨q1,q2,q3,q4⟩
 simp only at q1 q2 q3 q4
 have w1:IntKind.i64.wrap (2 * (r:Int)) = 2 * (r:Int):=w64 (by omega) (by omega)
 have w2:IntKind.i64.wrap (2 * (r:Int) + 1) = 2 * (r:Int) + 1:=w64 (by omega) (by omega)
 refine QBZ ?_
 refine QAP ⟨tmps 82 [(0,.own 0 n),(1,.int .i64 lo),(2,.int .i64 hi),(3,.int .i64 F),(4,.fn (.func 54) [] []),(10,.int .i64 r),(11,.int .i64 (2 * (r:Int) + 1))],[.reg 9 1 (rows d)]⟩ (QAD ?_) ?_
 ·simp +decide -dsimp -implicitDefEqProofs [go_sem,w1,w2]
  refine QAN (by simp) ?_
  refine gs ?_
  exact QAJ _ _
 by_cases h1:2 * r + 1 < hi
 rotate_left
 ·rw [siftDown,dif_pos (by omega)] at q4
  subst q4
  have h2:(hi:Int) ≤ 2 * (r:Int) + 1:=by omega
  refine QAD ?_
  simp +decide -dsimp -implicitDefEqProofs [go_sem,h2]
  exact QAJ _ _
 have h2:¬ (hi:Int) ≤ 2 * (r:Int) + 1:=by omega
 refine QAP ⟨tmps 82 [(0,.own 0 n),(1,.int .i64 lo),(2,.int .i64 hi),(3,.int .i64 F),(4,.fn (.func 54) [] []),(10,.int .i64 r),(11,.int .i64 (2 * (r:Int) + 1))],[.reg 9 1 (rows d)]⟩ (QAD ?_) ?_
 ·
  simp +decide -dsimp -implicitDefEqProofs [go_sem,h2]
  refine QAN (by simp) ?_
  refine gs ?_
  exact QAJ _ _
 rw [QIf h1] at q4
 obtain ⟨b1,b2⟩:=QTV (lt:=ltP) (F:=F) (d:=d) h1
 obtain ⟨c,hc⟩:∃ x,x = kid ltP hi F r d:=⟨_,rfl⟩
 rw [← hc] at q4 b1 b2
 have hle:(rows d).length = n:=by rw [QBl,q2]
 refine QAP ⟨tmps 82 [(0,.own 0 n),(1,.int .i64 lo),(2,.int .i64 hi),(3,.int .i64 F),(4,.fn (.func 54) [] []),(10,.int .i64 r),(11,.int .i64 c)],[.reg 9 1 (rows d)]⟩ (QAD ?_) ?_
 ·have w3:IntKind.i64.wrap (2 * (r:Int) + 1 + 1) = 2 * (r:Int) + 1 + 1:=w64 (by omega) (by omega)
  by_cases hr:2 * r + 2 < hi
  rotate_left
  ·have hr2:¬ 2 * (r:Int) + 1 + 1 < (hi:Int):=by omega
   have hck:(c:Int) = 2 * (r:Int) + 1:=by
    have:c = 2 * r + 1:=by rw [hc,kid,if_neg (by simp [hr])]
    omega
   simp +decide -dsimp -implicitDefEqProofs [go_sem,w3,hr2]
   refine QAN (by simp) ?_
   simp +decide -dsimp -implicitDefEqProofs [go_sem,hck]
   exact QAJ _ _
  have hr2:2 * (r:Int) + 1 + 1 < (hi:Int):=by omega
  obtain ⟨x,hx⟩:∃ x,x = F + (2 * r + 1):=⟨_,rfl⟩
  obtain ⟨y,hy⟩:∃ y,y = F + (2 * r + 2):=⟨_,rfl⟩
  have hxn:x < n:=by omega
  have hyn:y < n:=by omega
  have wx:IntKind.i64.wrap ((F:Int) + (2 * (r:Int) + 1)) = (x:Int):=by rw [w64 (by omega) (by omega)]; omega
  have wy:IntKind.i64.wrap ((x:Int) + 1) = (y:Int):=by rw [w64 (by omega) (by omega)]; omega
  have gx:=QAY (d:=d) (j:=x) (by omega) (by omega)
  have gy:=QAY (d:=d) (j:=y) (by omega) (by omega)
  have cl:=QCu _ _ (QBf q3 (j:=x) (by omega)) (QBf q3 (j:=y) (by omega))
  simp +decide -dsimp -implicitDefEqProofs [go_sem,w3,hr2,wx,wy,hle,hxn,hyn,gx,gy]
  refine QAK cl (by simp +decide -dsimp -implicitDefEqProofs [go_sem]) rfl ?_
  by_cases hlt:QFA d[x]! d[y]! < 0
  ·have hck:(c:Int) = 2 * (r:Int) + 1 + 1:=by
    have:c = 2 * r + 2:=by rw [hc,kid,← hx,← hy,if_pos (by simp [hr,ltP,hlt])]
    omega
   simp +decide -dsimp -implicitDefEqProofs [go_sem,w3,hlt]
   refine QAN (by simp) ?_
   simp +decide -dsimp -implicitDefEqProofs [go_sem,hck]
   exact QAJ _ _
  ·have hck:(c:Int) = 2 * (r:Int) + 1:=by
    have:c = 2 * r + 1:=by rw [hc,kid,← hx,← hy,if_neg (by simp [ltP,hlt])]
    omega
   simp +decide -dsimp -implicitDefEqProofs [go_sem,hlt]
   refine QAN (by simp) ?_
   simp +decide -dsimp -implicitDefEqProofs [go_sem,hck]
   exact QAJ _ _
 clear hc
 obtain ⟨x,hx⟩:∃ x,x = F + r:=⟨_,rfl⟩
 obtain ⟨y,hy⟩:∃ y,y = F + c:=⟨_,rfl⟩
 rw [← hx,← hy] at q4
 have hxn:x < n:=by omega
 have hyn:y < n:=by omega
 have wx:IntKind.i64.wrap ((F:Int) + (r:Int)) = (x:Int):=by rw [w64 (by omega) (by omega)]; omega
 have wy:IntKind.i64.wrap ((F:Int) + (c:Int)) = (y:Int):=by rw [w64 (by omega) (by omega)]; omega
 have gx:=QAY (d:=d) (j:=x) (by omega) (by omega)
 have gy:=QAY (d:=d) (j:=y) (by omega) (by omega)
 have cl:=QCu _ _ (QBf q3 (j:=x) (by omega)) (QBf q3 (j:=y) (by omega))
 have hsw:=QBq d x y
 refine QAD ?_
 simp +decide -dsimp -implicitDefEqProofs [go_sem,wx,wy,hle,hxn,hyn,gx,gy]
 refine QAK cl (by simp +decide -dsimp -implicitDefEqProofs [go_sem]) rfl ?_
 by_cases hlt:QFA d[x]! d[y]! < 0
 ·rw [if_pos (by simp [ltP,hlt])] at q4
  simp +decide -dsimp -implicitDefEqProofs [go_sem,wx,wy,hle,hxn,hyn,gx,gy,QAt,QAt,QBj,QBx,QBg,hlt]
  rw [hsw]
  refine QAG (c,swp d x y) ⟨by show c ≤ 100000; omega,by show (swp d x y).size = n; rw [QBS,q2],QCL q3 (by omega) (by omega),q4⟩ (by show hi - c < hi - r; omega) (QAC (by simp) ?_)
  refine gs ?_
  exact QAJ _ _
 ·rw [if_neg (by simp [ltP,hlt])] at q4
  subst q4
  simp +decide -dsimp -implicitDefEqProofs [go_sem,hlt]
  exact QAJ _ _
theorem QOS (d0:Array Txt) (a b:Nat) (hn:d0.size ≤ 100000) (h0:okP d0) (hab:a ≤ b) (hb:b ≤ d0.size):
  ACalls Tryz.prog 147 [.own 0 d0.size,.int .i64 a,.int .i64 b,.fn (.func 54) [] []] [rgO d0] (.tup []) [rgO (heapSort ltP d0 a b)]:=by
 obtain ⟨n,hN⟩:∃ n,n = d0.size:=⟨_,rfl⟩
 rw [← hN] at hn hb ⊢
 unfold heapSort
 obtain ⟨hi,hh⟩:∃ x,x = b - a:=⟨_,rfl⟩
 rw [← hh]
 obtain ⟨r1,hr1⟩:∃ x,x = heapBuild ltP hi a ((hi - 1) / 2 + 1) d0:=⟨_,rfl⟩
 rw [← hr1]
 obtain ⟨r2,hr2⟩:∃ x,x = heapPop ltP a hi r1:=⟨_,rfl⟩
 rw [← hr2]
 have wh:IntKind.i64.wrap ((b:Int) - (a:Int)) = (hi:Int):=by rw [w64 (by omega) (by omega)]; omega
 have wq:IntKind.i64.wrap (Int.tdiv (IntKind.i64.wrap ((hi:Int) - 1)) 2) = (((hi - 1) / 2 + 1:Nat):Int) - 1:=by
  rw [show IntKind.i64.wrap ((hi:Int) - 1) = (hi:Int) - 1 from w64 (by omega) (by omega)]
  have:Int.tdiv ((hi:Int) - 1) 2 = (((hi - 1) / 2 + 1:Nat):Int) - 1:=by
   cases hi with
   | zero=>decide
   | succ k=>
    rw [show ((k + 1:Nat):Int) - 1 = (k:Int) by omega,show k + 1 - 1 = k by omega,show ((k / 2 + 1:Nat):Int) - 1 = ((k / 2:Nat):Int) by omega]
    rfl
  rw [this]
  exact w64 (by omega) (by omega)
 have hrr:=QD8
 refine QA2 cqq rfl ?_
 unfold rgO
 refine QAP ⟨tmps 60 [(0,.own 0 n),(1,.int .i64 a),(2,.int .i64 b),(3,.fn (.func 54) [] []),(8,.int .i64 a)],[.reg 9 1 (rows d0)]⟩ (QAD ?_) ?_
 ·
  refine gs ?_
  refine QAN (by simp) ?_
  refine gs ?_
  exact QAJ _ _
 refine QAP ⟨tmps 60 [(0,.own 0 n),(1,.int .i64 a),(2,.int .i64 b),(3,.fn (.func 54) [] []),(8,.int .i64 a),(9,.int .i64 0)],[.reg 9 1 (rows d0)]⟩ (QAD ?_) ?_
 ·
  refine gs ?_
  refine QAN (by simp) ?_
  refine gs ?_
  exact QAJ _ _
 refine QAP ⟨tmps 60 [(0,.own 0 n),(1,.int .i64 a),(2,.int .i64 b),(3,.fn (.func 54) [] []),(8,.int .i64 a),(9,.int .i64 0),(10,.int .i64 hi)],[.reg 9 1 (rows d0)]⟩ (QAD ?_) ?_
 ·
  simp +decide -dsimp -implicitDefEqProofs [go_sem,wh]
  refine QAN (by simp) ?_
  refine gs ?_
  exact QAJ _ _
 refine QA6 (S:=Unit) (fun _=>⟨tmps 60 [(0,.own 0 n),(1,.int .i64 a),(2,.int .i64 b),(3,.fn (.func 54) [] []),(8,.int .i64 a),(9,.int .i64 0),(10,.int .i64 hi)],[.reg 9 1 (rows r1)]⟩) (fun _=>r1.size = n ∧ okP r1) (QAD ?_) ?_
 ·simp +decide -dsimp -implicitDefEqProofs [go_sem,wq]
  refine QAQ (S:=Nat × Array Txt) (fun s=>⟨tmps 60 [(0,.own 0 n),(1,.int .i64 a),(2,.int .i64 b),(3,.fn (.func 54) [] []),(8,.int .i64 a),(9,.int .i64 0),(10,.int .i64 hi),(11,.int .i64 ((s.1:Int) - 1))],[.reg 9 1 (rows s.2)]⟩) (fun s=>s.1) (fun s=>s.1 ≤ 100000 ∧ s.2.size = n ∧ okP s.2 ∧ r1 = heapBuild ltP hi a s.1 s.2) ((hi - 1) / 2 + 1,d0) ⟨by show (hi - 1) / 2 + 1 ≤ 100000; omega,hN.symm,h0,hr1⟩ (QAC (by simp) ?_) ?_
  ·
   refine gs ?_
   exact QAJ _ _
  rintro ⟨k,d⟩ ⟨q1,q2,q3,q4⟩
  simp only at q1 q2 q3 q4
  cases k with
  | zero=>
   have q4:r1 = d:=q4
   subst q4
   refine gs ?_
   refine QAs () ⟨q2,q3⟩ (QAC (by simp) ?_)
   refine gs ?_
   exact QAJ _ _
  | succ k=>
   have q4:r1 = heapBuild ltP hi a k (siftDown ltP hi a k d):=q4
   obtain ⟨c1,o1,z1⟩:=QJX d k hi a (by omega) q3 (by omega) (by omega)
   rw [q2] at c1 z1
   have hk:(0:Int) ≤ ((k + 1:Nat):Int) - 1:=by omega
   have hk0:((k + 1:Nat):Int) - 1 = (k:Int):=by omega
   have wk:IntKind.i64.wrap ((k:Int) - 1) = (k:Int) - 1:=w64 (by omega) (by omega)
   unfold rgO at c1
   rw [hk0]
   refine gs ?_
   refine QAL [0] c1 rfl rfl (by simp) (by simp +decide -dsimp -implicitDefEqProofs [go_sem]) (by simp +decide -dsimp -implicitDefEqProofs [go_sem,hrr]) ?_
   simp +decide -dsimp -implicitDefEqProofs [go_sem,wk,hrr]
   refine QAG (k,siftDown ltP hi a k d) ⟨by show k ≤ 100000; omega,z1,o1,q4⟩ (Nat.lt_succ_self k) (QAC (by simp) ?_)
   refine gs ?_
   exact QAJ _ _
 rintro _ ⟨z0,o0⟩
 have wz:IntKind.i64.wrap ((hi:Int) - 1) = (hi:Int) - 1:=w64 (by omega) (by omega)
 refine QAD ?_
 simp +decide -dsimp -implicitDefEqProofs [go_sem,wz]
 refine QAQ (S:=Nat × Array Txt) (fun s=>⟨tmps 60 [(0,.own 0 n),(1,.int .i64 a),(2,.int .i64 b),(3,.fn (.func 54) [] []),(8,.int .i64 a),(9,.int .i64 0),(10,.int .i64 hi),(12,.int .i64 ((s.1:Int) - 1))],[.reg 9 1 (rows s.2)]⟩) (fun s=>s.1) (fun s=>s.1 ≤ hi ∧ s.2.size = n ∧ okP s.2 ∧ r2 = heapPop ltP a s.1 s.2) (hi,r1) ⟨Nat.le_refl _,z0,o0,hr2⟩ (QAC (by simp) ?_) ?_
 ·
  refine gs ?_
  exact QAJ _ _
 rintro ⟨k,d⟩ ⟨q1,q2,q3,q4⟩
 simp only at q1 q2 q3 q4
 cases k with
 | zero=>
  have q4:r2 = d:=q4
  subst q4
  refine gs ?_
  exact QAJ _ _
 | succ k=>
  have q4:r2 = heapPop ltP a k (siftDown ltP k a 0 (swp d a (a + k))):=q4
  obtain ⟨x,hx⟩:∃ x,x = a + k:=⟨_,rfl⟩
  rw [← hx] at q4
  have hxn:x < n:=by omega
  have han:a < n:=by omega
  have hle:(rows d).length = n:=by rw [QBl,q2]
  have wx:IntKind.i64.wrap ((a:Int) + (k:Int)) = (x:Int):=by rw [w64 (by omega) (by omega)]; omega
  have gx:=QAY (d:=d) (j:=a) (by omega) (by omega)
  have gy:=QAY (d:=d) (j:=x) (by omega) (by omega)
  have hsw:=QBq d a x
  have os:=QCL q3 (i:=a) (j:=x) (by omega) (by omega)
  have zs:(swp d a x).size = n:=by rw [QBS,q2]
  obtain ⟨c1,o1,z1⟩:=QJX (swp d a x) 0 k a (by omega) os (by omega) (by omega)
  rw [zs] at c1 z1
  have hk0:((k + 1:Nat):Int) - 1 = (k:Int):=by omega
  have wk:IntKind.i64.wrap ((k:Int) - 1) = (k:Int) - 1:=w64 (by omega) (by omega)
  unfold rgO at c1
  rw [hk0]
  simp +decide -dsimp -implicitDefEqProofs [go_sem,wx,hle,hxn,han,gx,gy,QAt,QAt,QBj,QBx,QBg]
  rw [hsw]
  refine QAL [0] c1 rfl rfl (by simp) (by simp +decide -dsimp -implicitDefEqProofs [go_sem]) (by simp +decide -dsimp -implicitDefEqProofs [go_sem,hrr]) ?_
  simp +decide -dsimp -implicitDefEqProofs [go_sem,wk,hrr]
  refine QAG (k,siftDown ltP k a 0 (swp d a x)) ⟨by show k ≤ hi; omega,z1,o1,q4⟩ (Nat.lt_succ_self k) (QAC (by simp) ?_)
  refine gs ?_
  exact QAJ _ _
end Go.Ab
namespace Go.Ab
open Go Go.Proofs Go.Sort
theorem QQK (X:Nat) (hX:X < 18446744073709551616):
  ACalls Tryz.prog 181 [.ptr 0 0] [.box 215 [.int .u64 X]] (.int .u64 (xorNextN X:Nat)) [.box 215 [.int .u64 (xorNextN X:Nat)]]:=by
 obtain ⟨A,hA⟩:∃ A,A = X ^^^ (X * 8192 % 18446744073709551616):=⟨_,rfl⟩
 obtain ⟨B,hB⟩:∃ B,B = A ^^^ (A / 128):=⟨_,rfl⟩
 obtain ⟨C,hC⟩:∃ C,C = B ^^^ (B * 131072 % 18446744073709551616):=⟨_,rfl⟩
 have hr:xorNextN X = C:=by subst hC; subst hB; subst hA; rfl
 have lA:A < 18446744073709551616:=by rw [hA]; exact Nat.xor_lt_two_pow (n:=64) (by omega) (by omega)
 have lB:B < 18446744073709551616:=by rw [hB]; exact Nat.xor_lt_two_pow (n:=64) (by omega) (by omega)
 have e1:bits .xor .u64 (X:Int) (IntKind.u64.wrap ((X:Int) * 8192)) = (A:Int):=by
  rw [IntKind.wrap_u64,show ((X:Int) * 8192 % 18446744073709551616) = ((X * 8192 % 18446744073709551616:Nat):Int) by omega,bits_xor_u64_nat _ _ hX (by omega),hA]
 have e2:bits .xor .u64 (A:Int) (Int.fdiv (A:Int) 128) = (B:Int):=by
  rw [show Int.fdiv (A:Int) 128 = ((A / 128:Nat):Int) by rw [Int.fdiv_eq_ediv_of_nonneg _ (by omega)]; omega,bits_xor_u64_nat _ _ lA (by omega),hB]
 have e3:bits .xor .u64 (B:Int) (IntKind.u64.wrap ((B:Int) * 131072)) = (C:Int):=by
  rw [IntKind.wrap_u64,show ((B:Int) * 131072 % 18446744073709551616) = ((B * 131072 % 18446744073709551616:Nat):Int) by omega,bits_xor_u64_nat _ _ lB (by omega),hC]
 rw [hr]
 refine QAH cqq rfl ?_
 simp +decide -dsimp -implicitDefEqProofs [go_sem,e1,e2,e3]
theorem QJY (x:Nat) (h:x < 2 ^ 64):Lib.bitLen x = bitsLen x:=by
 induction x using Nat.strongRecOn with
 | _ x ih=>
  by_cases h0:x = 0
  ·subst h0; rfl
  ·rw [Lib.bitLen_half x h0 h,ih (x / 2) (by omega) (by omega)]
   unfold bitsLen
   rw [if_neg h0,Nat.log2_def x]
   by_cases h2:2 ≤ x
   ·rw [if_pos h2,if_neg (by omega)]; omega
   ·obtain rfl:x = 1:=by omega
    simp
theorem QKW (k:Nat) (hk:k ≤ 62):IntKind.u64.wrap ((2:Int) ^ k) = ((1 <<< k:Nat):Int):=by
 have h:(2:Nat) ^ k ≤ 2 ^ 62:=Nat.pow_le_pow_right (by decide) hk
 rw [IntKind.wrap_u64,Nat.one_shiftLeft,show ((2:Int) ^ k) = ((2 ^ k:Nat):Int) by push_cast; rfl]
 generalize (2:Nat) ^ k = p at h
 omega
theorem QQL (n:Nat) (h:n ≤ 1000000):ACalls Tryz.prog 180 [.int .i64 n] [] (.int .u64 ((1 <<< bitsLen n:Nat):Int)) []:=by
 have cl:=QX9 n h
 rw [QJY n (by omega)] at cl
 have hk:bitsLen n ≤ 62:=(bitsLen_le_iff n 62).2 (by omega)
 have hp:=QKW (bitsLen n) hk
 have hm:min (bitsLen n) 64 = bitsLen n:=by omega
 have w:IntKind.u64.wrap (n:Int) = n:=QZU (by omega) (by omega)
 refine QAH cqq rfl ?_
 simp +decide -dsimp -implicitDefEqProofs [go_sem,w]
 refine QAA cl rfl rfl ?_
 simp +decide -dsimp -implicitDefEqProofs [go_sem,hm,hp]
end Go.Ab
namespace Go.Ab
open Go Go.Proofs Go.Sort
def bkS (d:Array Txt) (a l M i0:Nat):Nat → UInt64 × Array Txt
 | 0=>(UInt64.ofNat l,d)
 | t + 1=>breakStep a l M (bkS d a l M i0 t) (i0 + t)
def QGb (_a l M X:Nat):Nat:=if X &&& (M - 1) ≥ l then (X &&& (M - 1)) - l else X &&& (M - 1)
theorem QHd (d:Array Txt) (a l M:Nat) (r:UInt64) (idx:Nat):breakStep a l M (r,d) idx = (xorNext r,swp d idx (a + QGb a l M (xorNextN r.toNat))):=by
 unfold breakStep QGb
 rw [← xorNext_toNat]
theorem QNY {a l M X:Nat} (h1:1 ≤ M) (h2:M ≤ 2 * l):QGb a l M X < l:=by
 have h:X &&& (M - 1) ≤ M - 1:=Nat.and_le_right
 unfold QGb
 split <;> omega
theorem QSO (d0:Array Txt) (a b:Nat) (hn:d0.size ≤ 100000) (h0:okP d0) (hab:a ≤ b) (hb:b ≤ d0.size):
  ACalls Tryz.prog 148 [.own 0 d0.size,.int .i64 a,.int .i64 b,.fn (.func 54) [] []] [rgO d0] (.tup []) [rgO (breakPatterns d0 a b)]:=by
 obtain ⟨n,hN⟩:∃ n,n = d0.size:=⟨_,rfl⟩
 rw [← hN] at hn hb ⊢
 obtain ⟨l,hl⟩:∃ x,x = b - a:=⟨_,rfl⟩
 have wl:IntKind.i64.wrap ((b:Int) - (a:Int)) = (l:Int):=by rw [w64 (by omega) (by omega)]; omega
 by_cases h8:l ≥ 8
 rotate_left
 ·have h8i:¬ (8:Int) ≤ (l:Int):=by omega
  have:breakPatterns d0 a b = d0:=by unfold breakPatterns; rw [← hl]; simp only [if_neg h8]
  rw [this]
  refine QAH cqq rfl ?_
  unfold rgO
  simp +decide -dsimp -implicitDefEqProofs [go_sem,wl,h8i]
  exact QAJ _ _
 have h8i:(8:Int) ≤ (l:Int):=by omega
 obtain ⟨M,hM⟩:∃ M,M = 1 <<< bitsLen l:=⟨_,rfl⟩
 have hM1:1 ≤ M:=by rw [hM,Nat.one_shiftLeft]; exact Nat.one_le_two_pow
 have hM2:M ≤ 2 * l:=by rw [hM,Nat.one_shiftLeft]; exact two_pow_bitsLen_le (by omega)
 obtain ⟨q,hq⟩:∃ x,x = l / 4:=⟨_,rfl⟩
 obtain ⟨i0,hi0⟩:∃ x,x = a + q * 2 - 1:=⟨_,rfl⟩
 have hbp:breakPatterns d0 a b = (bkS d0 a l M i0 3).2:=by
  unfold breakPatterns
  simp only [← hl,if_pos h8,← hM,← hq,← hi0,bkS,Nat.add_zero]
 rw [hbp]
 have cn:=QQL l (by omega)
 rw [← hM] at cn
 have hq1:l ≤ q * 4 + 3:=by omega
 have hq2:2 ≤ q:=by omega
 have hq4:q * 4 ≤ l:=by omega
 have wq:IntKind.i64.wrap ((l:Int) / 4) = (q:Int):=by
  rw [show (l:Int) / 4 = ((l / 4:Nat):Int) from rfl,← hq]; exact w64 (by omega) (by omega)
 have wq2:IntKind.i64.wrap ((q:Int) * 2) = (q:Int) * 2:=w64 (by omega) (by omega)
 have wq3:IntKind.i64.wrap ((a:Int) + (q:Int) * 2) = (a:Int) + (q:Int) * 2:=w64 (by omega) (by omega)
 have wq4:IntKind.i64.wrap ((a:Int) + (q:Int) * 2 - 1) = (i0:Int):=by rw [w64 (by omega) (by omega)]; omega
 have wq5:IntKind.i64.wrap ((a:Int) + (q:Int) * 2 + 1) = (a:Int) + (q:Int) * 2 + 1:=w64 (by omega) (by omega)
 have wu:IntKind.u64.wrap (l:Int) = l:=QZU (by omega) (by omega)
 have wM:IntKind.u64.wrap ((M:Int) - 1) = ((M - 1:Nat):Int):=by rw [QZU (by omega) (by omega)]; omega
 have hln:(UInt64.ofNat l).toNat = l:=by rw [UInt64.toNat_ofNat']; exact Nat.mod_eq_of_lt (by omega)
 have hrr:=QD8
 have hok:∀ t,t ≤ 3 → (bkS d0 a l M i0 t).2.size = n ∧ okP (bkS d0 a l M i0 t).2:=by
  intro t
  induction t with
  | zero=>intro _; exact ⟨hN.symm,h0⟩
  | succ t ih=>
   intro ht
   obtain ⟨z,o⟩:=ih (by omega)
   rw [bkS]
   generalize bkS d0 a l M i0 t = s at z o
   obtain ⟨r,d⟩:=s
   simp only at z o
   have:=QNY (a:=a) (X:=xorNextN r.toNat) hM1 hM2
   rw [QHd]
   exact ⟨by show (swp d _ _).size = n; rw [QBS,z],QCL o (by omega) (by omega)⟩
 have hf0:bkS d0 a l M i0 0 = (UInt64.ofNat l,d0):=rfl
 have hfs:∀ t,bkS d0 a l M i0 (t + 1) = breakStep a l M (bkS d0 a l M i0 t) (i0 + t):=fun t=>rfl
 generalize bkS d0 a l M i0 = f at hok hf0 hfs ⊢
 obtain ⟨R,hR⟩:∃ R,R = (f 3).2:=⟨_,rfl⟩
 rw [← hR]
 clear hbp hM hq
 refine QAH cqq rfl ?_
 unfold rgO
 simp +decide -dsimp -implicitDefEqProofs [go_sem,wl,h8i,wu]
 refine QAA cn rfl rfl ?_
 simp +decide -dsimp -implicitDefEqProofs [go_sem,wq,wq2,wq3,wq4]
 refine QAQ (S:=Nat) (fun t=>⟨tmps 67 [(0,.own 0 n),(1,.int .i64 a),(2,.int .i64 b),(3,.fn (.func 54) [] []),(8,.int .i64 l),(9,.ptr 1 0),(10,.int .u64 M),(11,.int .i64 ((i0 + t:Nat):Int))],[.reg 9 1 (rows (f t).2),.box 215 [.int .u64 ((f t).1.toNat:Nat)]]⟩) (fun t=>3 - t)
  (fun t=>t ≤ 3) 0 (by omega) (QAC (by simp) ?_) ?_
 ·simp +decide -dsimp -implicitDefEqProofs [go_sem,hf0,hln]
  exact QAJ _ _
 intro t ht
 obtain ⟨z,o⟩:=hok t ht
 by_cases h3:t < 3
 rotate_left
 ·obtain rfl:t = 3:=by omega
  have hi:¬ (i0:Int) + 3 ≤ (a:Int) + (q:Int) * 2 + 1:=by omega
  rw [← hR]
  simp +decide -dsimp -implicitDefEqProofs [go_sem,wq,wq2,wq3,wq5,hi]
  exact QAJ _ _
 have hi:(i0:Int) + (t:Int) ≤ (a:Int) + (q:Int) * 2 + 1:=by omega
 have hft:=hfs t
 obtain ⟨s0,hs0⟩:∃ x,x = f t:=⟨_,rfl⟩
 rw [← hs0] at hft z o
 obtain ⟨r,d⟩:=s0
 simp only at z o
 obtain ⟨Y,hY⟩:∃ Y,Y = xorNextN r.toNat:=⟨_,rfl⟩
 have lX:r.toNat < 18446744073709551616:=r.toNat_lt
 have lY:Y < 18446744073709551616:=by rw [hY]; exact xorNextN_lt _ lX
 have cx:=QQK r.toNat lX
 rw [QHd,← hY] at hft
 rw [← hY] at cx
 obtain ⟨O,hO⟩:∃ O,O = Y &&& (M - 1):=⟨_,rfl⟩
 have hO1:O ≤ M - 1:=by rw [hO]; exact Nat.and_le_right
 have ea:bits .and .u64 (Y:Int) ((M - 1:Nat):Int) = (O:Int):=by rw [bits_and_u64_nat _ _ lY (by omega),hO]
 have wO:IntKind.i64.wrap (O:Int) = (O:Int):=w64 (by omega) (by omega)
 obtain ⟨y,hy⟩:∃ y,y = a + QGb a l M Y:=⟨_,rfl⟩
 obtain ⟨x,hx⟩:∃ x,x = i0 + t:=⟨_,rfl⟩
 rw [← hy,← hx] at hft
 have hyl:=QNY (a:=a) (X:=Y) hM1 hM2
 have hxn:x < n:=by omega
 have hyn:y < n:=by omega
 have hle:(rows d).length = n:=by rw [QBl,z]
 have gx:=QAY (d:=d) (j:=x) (by omega) (by omega)
 have gy:=QAY (d:=d) (j:=y) (by omega) (by omega)
 have hsw:=QBq d x y
 have hxi:(i0:Int) + (t:Int) = (x:Int):=by omega
 have wx:IntKind.i64.wrap ((x:Int) + 1) = (i0:Int) + ((t:Int) + 1):=by rw [w64 (by omega) (by omega)]; omega
 rw [hxi] at hi
 have hxn2:(f (t + 1)).1.toNat = Y:=by rw [hft,hY,← xorNext_toNat]
 rw [← hs0]
 simp +decide -dsimp -implicitDefEqProofs [go_sem,wq,wq2,wq3,wq5,hi,hxi]
 refine QAL [1] cx rfl rfl (by simp) (by simp +decide -dsimp -implicitDefEqProofs [go_sem]) (by simp +decide -dsimp -implicitDefEqProofs [go_sem]) ?_
 by_cases hOl:O ≥ l
 ·have hOi:(l:Int) ≤ (O:Int):=by omega
  have hyo:QGb a l M Y = O - l:=by unfold QGb; rw [← hO,if_pos hOl]
  have wd:IntKind.i64.wrap ((O:Int) - (l:Int)) = ((O - l:Nat):Int):=by rw [w64 (by omega) (by omega)]; omega
  have wy:IntKind.i64.wrap ((a:Int) + ((O - l:Nat):Int)) = (y:Int):=by rw [w64 (by omega) (by omega)]; omega
  simp +decide -dsimp -implicitDefEqProofs [go_sem,wM,ea,wO,hOi,wd,wy,hle,hxn,hyn,gx,gy,QAt,QAt,QBj,QBx,QBg,wx]
  rw [hsw]
  refine QAG (t + 1) (by show t + 1 ≤ 3; omega) (by show 3 - (t + 1) < 3 - t; omega) (QAC (by simp) ?_)
  rw [hft] at hxn2 ⊢
  simp +decide -dsimp -implicitDefEqProofs [go_sem,hxn2]
  exact QAJ _ _
 ·have hOi:¬ (l:Int) ≤ (O:Int):=by omega
  have hyo:QGb a l M Y = O:=by unfold QGb; rw [← hO,if_neg hOl]
  have wy:IntKind.i64.wrap ((a:Int) + (O:Int)) = (y:Int):=by rw [w64 (by omega) (by omega)]; omega
  simp +decide -dsimp -implicitDefEqProofs [go_sem,wM,ea,wO,hOi,wy,hle,hxn,hyn,gx,gy,QAt,QAt,QBj,QBx,QBg,wx]
  rw [hsw]
  refine QAG (t + 1) (by show t + 1 ≤ 3; omega) (by show 3 - (t + 1) < 3 - t; omega) (QAC (by simp) ?_)
  rw [hft] at hxn2 ⊢
  simp +decide -dsimp -implicitDefEqProofs [go_sem,hxn2]
  exact QAJ _ _
end Go.Ab
namespace Go.Ab
open Go Go.Proofs Go.Sort
theorem QF7 {a b:Nat} {d d':Array Txt} (hb:b ≤ d.size) (h:PermIn a b d d') (ho:okP d):okP d' ∧ d'.size = d.size:=by
 refine ⟨fun x hx=>?_,h.1⟩
 obtain ⟨i,hi,rfl⟩:=List.getElem_of_mem hx
 have hi2:i < d'.size:=by simpa using hi
 have hd:i < d.size:=by rw [← h.1]; exact hi2
 have e:d'.toList[i] = d'[i]!:=by rw [getElem!_pos d' i hi2]; simp
 rw [e]
 by_cases hi3:a ≤ i ∧ i < b
 ·exact permIn_all d d' a b (fun x=>QAf x = true) hb h (fun j _ hj=>QBf ho (by omega)) i hi3.1 hi3.2
 ·rw [h.2.1 i (by omega)]
  exact QBf ho hd
theorem QYP (a b n:Nat) (hb:b ≤ n):∀ (s i:Nat) (d:Array Txt),a + 1 ≤ i → i ≤ b → d.size = n → okP d → okP (partialIns ltP a b s i d).1 ∧ (partialIns ltP a b s i d).1.size = n
 | 0,i,d,_,_,hd,ho=>⟨ho,hd⟩
 | s + 1,i,d,h1,h2,hd,ho=>by
  rw [partialIns_succ]
  obtain ⟨b1,b2⟩:=QVG (lt:=ltP) (d:=d) (b:=b) _ i (Nat.le_refl _) h2
  generalize scanSorted ltP d b i = k at b1 b2
  by_cases hk:k = b
  ·rw [if_pos hk]; exact ⟨ho,hd⟩
  ·rw [if_neg hk]
   by_cases h50:b - a < 50
   ·rw [if_pos h50]; exact ⟨ho,hd⟩
   ·rw [if_neg h50]
    have o1:okP (swp d k (k - 1)):=QCL ho (by omega) (by omega)
    have z1:(swp d k (k - 1)).size = n:=by rw [QBS,hd]
    generalize swp d k (k - 1) = e1 at o1 z1
    have o2:okP (fixDown ltP a k e1) ∧ (fixDown ltP a k e1).size = n:=by
     unfold fixDown
     split
     ·have:=QVE (k - 1) e1 (by omega) o1; rw [z1] at this; exact this
     ·exact ⟨o1,z1⟩
    generalize fixDown ltP a k e1 = e2 at o2
    have o3:okP (fixUp ltP b k e2) ∧ (fixUp ltP b k e2).size = n:=by
     unfold fixUp
     split
     ·have:=QVF b _ (k + 1) e2 (Nat.le_refl _) (by omega) (by omega) o2.1; rw [o2.2] at this; exact this
     ·exact o2
    exact QYP a b n hb s k _ (by omega) b2 o3.2 o3.1
theorem QTW (d:Array Txt) (a b p:Nat) (ho:okP d) (hap:a ≤ p) (hpb:p < b) (hb:b ≤ d.size):
  a < (partitionEqual ltP d a b p).1 ∧ (partitionEqual ltP d a b p).1 ≤ b ∧ okP (partitionEqual ltP d a b p).2 ∧ (partitionEqual ltP d a b p).2.size = d.size:=by
 have hz:b ≤ (swp d a p).size:=by rw [QBS]; exact hb
 obtain ⟨r1,r2,r3,_,_⟩:=partEqLoop_spec ltP a b _ (a + 1) (b - 1) (swp d a p) (Nat.le_refl _) (Nat.lt_succ_self a) (by omega) (by omega) hz (fun t h1 h2=>by omega) (fun t h1 h2=>by omega)
 have:=QF7 hz r3 (QCL ho (by omega) (by omega))
 rw [QBS] at this
 exact ⟨r1,r2,this.1,this.2⟩
theorem QYQ (d:Array Txt) (a b p:Nat) (ho:okP d) (hap:a ≤ p) (hpb:p < b) (hb:b ≤ d.size):
  a ≤ (Go.Sort.partition ltP d a b p).1 ∧ (Go.Sort.partition ltP d a b p).1 < b ∧ okP (Go.Sort.partition ltP d a b p).2.2 ∧ (Go.Sort.partition ltP d a b p).2.2.size = d.size:=by
 obtain ⟨r1,r2,r3,_,_⟩:=partition_holds ltP swo_ltP d a b p hap hpb hb
 have:=QF7 hb r3 ho
 exact ⟨r1,r2,this.1,this.2⟩
end Go.Ab
namespace Go.Ab
open Go Go.Proofs Go.Sort
theorem QYR (d:Array Txt) (a b limit:Nat) (wb wp:Bool) (ho:okP d) (hab:a < b) (hb:b ≤ d.size):
  okP (rd ltP d a b limit wb wp).d1 ∧ (rd ltP d a b limit wb wp).d1.size = d.size ∧ okP (rd ltP d a b limit wb wp).d2 ∧ (rd ltP d a b limit wb wp).d2.size = d.size ∧
  okP (rd ltP d a b limit wb wp).pi.1 ∧ (rd ltP d a b limit wb wp).pi.1.size = d.size ∧ a ≤ (rd ltP d a b limit wb wp).pivot ∧ (rd ltP d a b limit wb wp).pivot < b ∧ (rd ltP d a b limit wb wp).lim ≤ limit:=by
 unfold rd
 simp only
 have h1:okP (if (!wb) = true then breakPatterns d a b else d) ∧ (if (!wb) = true then breakPatterns d a b else d).size = d.size:=by
  split
  ·exact QF7 hb (breakPatterns_holds d a b (by omega) hb) ho
  ·exact ⟨ho,rfl⟩
 generalize (if (!wb) = true then breakPatterns d a b else d) = d1 at h1 ⊢
 obtain ⟨o1,z1⟩:=h1
 obtain ⟨c1,c2⟩:=choosePivot_holds ltP d1 a b hab
 generalize choosePivot ltP d1 a b = c at c1 c2 ⊢
 have h2:okP (if c.2 = .decreasing then reverseRange d1 a b else d1) ∧ (if c.2 = .decreasing then reverseRange d1 a b else d1).size = d.size:=by
  split
  ·have:=QF7 (by omega) (reverseRange_holds d1 a b (by omega) (by omega)) o1
   rw [z1] at this; exact this
  ·exact ⟨o1,z1⟩
 generalize (if c.2 = .decreasing then reverseRange d1 a b else d1) = d2 at h2 ⊢
 obtain ⟨o2,z2⟩:=h2
 refine ⟨o1,z1,o2,z2,?_⟩
 have h3:∀ (q:Bool),okP (if q = true then partialInsertionSort ltP d2 a b else (d2,false)).1 ∧ (if q = true then partialInsertionSort ltP d2 a b else (d2,false)).1.size = d.size:=by
  intro q
  split
  ·exact QYP a b d.size hb 5 (a + 1) d2 (Nat.le_refl _) (by omega) z2 o2
  ·exact ⟨o2,z2⟩
 refine ⟨(h3 _).1,(h3 _).2,?_,?_,?_⟩
 ·split <;> omega
 ·split <;> omega
 ·split <;> omega
theorem QSP {h:Hint} (hh:¬ h = .increasing):¬ (QEC h:Int) = 1:=by cases h <;> simp_all [QEC]
theorem QYS:∀ (N:Nat) (d0:Array Txt) (a0 b0 limit0:Nat),b0 - a0 < N → d0.size ≤ 100000 → okP d0 → a0 ≤ b0 → b0 ≤ d0.size → limit0 ≤ 1000 →
  ACalls Tryz.prog 108 [.own 0 d0.size,.int .i64 a0,.int .i64 b0,.int .i64 limit0,.fn (.func 54) [] []] [rgO d0] (.tup []) [rgO (pdq ltP d0 a0 b0 limit0 true true)] ∧
  okP (pdq ltP d0 a0 b0 limit0 true true) ∧ (pdq ltP d0 a0 b0 limit0 true true).size = d0.size:=by
 have hrr:=QD8
 intro N
 induction N with
 | zero=>intro d0 a b limit h; omega
 | succ N ih=>
 intro d0 a0 b0 limit0 hN hn h0 hab0 hb0 hl0
 have hok:∀ (k:Nat) (d:Array Txt) (a b limit:Nat) (wb wp:Bool),b - a ≤ k → b - a < N + 1 → okP d → d.size = d0.size → a ≤ b → b ≤ d0.size → limit ≤ 1000 → okP (pdq ltP d a b limit wb wp) ∧ (pdq ltP d a b limit wb wp).size = d0.size:=by
  intro k
  induction k with
  | zero=>
   intro d a b limit wb wp hk _ ho hz hab hb _
   rw [pdq_unfold,if_pos (by omega)]
   have:=QF7 (b:=b) (by omega) (insertionSort_holds swo_ltP d a b hab (by omega)).1 ho
   rw [hz] at this; exact this
  | succ k ihk=>
   intro d a b limit wb wp hk hkN ho hz hab hb hl
   rw [pdq_unfold]
   by_cases h12:b - a ≤ 12
   ·rw [if_pos h12]
    have:=QF7 (b:=b) (by omega) (insertionSort_holds swo_ltP d a b hab (by omega)).1 ho
    rw [hz] at this; exact this
   rw [if_neg h12]
   by_cases hl0:limit = 0
   ·rw [if_pos hl0]
    have:=QF7 (b:=b) (by omega) (heapSort_holds swo_ltP d a b hab (by omega)).1 ho
    rw [hz] at this; exact this
   rw [if_neg hl0]
   obtain ⟨_,_,_,_,o3,z3,p1,p2,l1⟩:=QYR d a b limit wb wp ho (by omega) (by omega)
   generalize rd ltP d a b limit wb wp = r at o3 z3 p1 p2 l1 ⊢
   rw [hz] at z3
   split
   ·exact ⟨o3,z3⟩
   split
   ·obtain ⟨m1,m2,o4,z4⟩:=QTW r.pi.1 a b r.pivot o3 p1 p2 (by omega)
    rw [if_pos ⟨m1,m2⟩]
    exact ihk _ _ _ _ _ _ (by omega) (by omega) o4 (by rw [z4,z3]) (by omega) hb (by omega)
   ·obtain ⟨m1,m2,o4,z4⟩:=QYQ r.pi.1 a b r.pivot o3 p1 p2 (by omega)
    rw [if_pos ⟨m1,m2⟩]
    generalize Go.Sort.partition ltP r.pi.1 a b r.pivot = t at m1 m2 o4 z4 ⊢
    rw [z3] at z4
    split
    ·obtain ⟨_,o5,z5⟩:=ih t.2.2 a t.1 r.lim (by omega) (by omega) o4 m1 (by omega) (by omega)
     exact ihk _ _ _ _ _ _ (by omega) (by omega) o5 (by rw [z5,z4]) (by omega) hb (by omega)
    ·obtain ⟨_,o5,z5⟩:=ih t.2.2 (t.1 + 1) b r.lim (by omega) (by omega) o4 (by omega) (by omega) (by omega)
     exact ihk _ _ _ _ _ _ (by omega) (by omega) o5 (by rw [z5,z4]) (by omega) (by omega) (by omega)
 refine ⟨?_,hok _ d0 a0 b0 limit0 true true (Nat.le_refl _) hN h0 rfl hab0 hb0 hl0⟩
 clear hok
 obtain ⟨n,hnn⟩:∃ n,n = d0.size:=⟨_,rfl⟩
 rw [← hnn] at hn hb0 ⊢
 obtain ⟨E,hE⟩:∃ E,E = pdq ltP d0 a0 b0 limit0 true true:=⟨_,rfl⟩
 rw [← hE]
 refine QA2 cqq rfl ?_
 unfold rgO
 refine QAP ⟨tmps 148 [(0,.own 0 n),(1,.int .i64 a0),(2,.int .i64 b0),(3,.int .i64 limit0),(4,.fn (.func 54) [] []),(10,.bool true)],[.reg 9 1 (rows d0)]⟩ (QAD ?_) ?_
 ·simp +decide -dsimp -implicitDefEqProofs [go_sem]
  refine QAN (by simp) ?_
  refine gs ?_
  exact QAJ _ _
 refine QAP ⟨tmps 148 [(0,.own 0 n),(1,.int .i64 a0),(2,.int .i64 b0),(3,.int .i64 limit0),(4,.fn (.func 54) [] []),(10,.bool true),(11,.bool true)],[.reg 9 1 (rows d0)]⟩ (QAD ?_) ?_
 ·simp +decide -dsimp -implicitDefEqProofs [go_sem]
  refine QAN (by simp) ?_
  refine gs ?_
  exact QAJ _ _
 refine QBZ (QAD ?_)
 refine gs ?_
 refine QBH (S:=Nat × Nat × Nat × Bool × Bool × Array Txt) (fun s=>⟨tmps 148 [(0,.own 0 n),(1,.int .i64 s.1),(2,.int .i64 s.2.1),(3,.int .i64 s.2.2.1),(4,.fn (.func 54) [] []),(10,.bool s.2.2.2.1),(11,.bool s.2.2.2.2.1)],[.reg 9 1 (rows s.2.2.2.2.2)]⟩) (fun s=>s.2.1 - s.1) (fun s=>s.1 ≤ s.2.1 ∧ s.2.1 ≤ n ∧ s.2.1 - s.1 ≤ N ∧ s.2.2.1 ≤ 1000 ∧ s.2.2.2.2.2.size = n ∧ okP s.2.2.2.2.2 ∧ E = pdq ltP s.2.2.2.2.2 s.1 s.2.1 s.2.2.1 s.2.2.2.1 s.2.2.2.2.1) (a0,b0,limit0,true,true,d0) ⟨hab0,hb0,by show b0 - a0 ≤ N; omega,hl0,hnn.symm,h0,hE⟩ (QAC (by simp) ?_) ?_
 ·
  refine gs ?_
  exact QAJ _ _
 rintro ⟨a,b,limit,wb,wp,d⟩ ⟨q1,q2,q3,q4,q5,q6,q7⟩
 simp only at q1 q2 q3 q4 q5 q6 q7
 clear hE hnn hab0 hb0 hl0 hN h0
 obtain ⟨l,hl⟩:∃ l,l = b - a:=⟨_,rfl⟩
 have wl:IntKind.i64.wrap ((b:Int) - (a:Int)) = (l:Int):=by rw [w64 (by omega) (by omega)]; omega
 rw [pdq_unfold] at q7
 refine QBZ ?_
 refine QAP ⟨tmps 148 [(0,.own 0 n),(1,.int .i64 a),(2,.int .i64 b),(3,.int .i64 limit),(4,.fn (.func 54) [] []),(10,.bool wb),(11,.bool wp),(12,.int .i64 l)],[.reg 9 1 (rows d)]⟩ (QAD ?_) ?_
 ·simp +decide -dsimp -implicitDefEqProofs [go_sem,wl]
  refine QAN (by simp) ?_
  refine gs ?_
  exact QAJ _ _
 by_cases h12:b - a ≤ 12
 ·rw [if_pos h12] at q7
  have h12i:(l:Int) ≤ 12:=by omega
  have ci:=QLb d a b (by omega) q6 q1 (by omega)
  rw [q5] at ci
  unfold rgO at ci
  subst q7
  refine QAD ?_
  simp +decide -dsimp -implicitDefEqProofs [go_sem,h12i]
  refine QAL [0] ci rfl rfl (by simp) (by simp +decide -dsimp -implicitDefEqProofs [go_sem]) (by simp +decide -dsimp -implicitDefEqProofs [go_sem,hrr]) ?_
  simp +decide -dsimp -implicitDefEqProofs [go_sem,hrr]
  exact QAJ _ _
 rw [if_neg h12] at q7
 have h12i:¬ (l:Int) ≤ 12:=by omega
 refine QAP ⟨tmps 148 [(0,.own 0 n),(1,.int .i64 a),(2,.int .i64 b),(3,.int .i64 limit),(4,.fn (.func 54) [] []),(10,.bool wb),(11,.bool wp),(12,.int .i64 l)],[.reg 9 1 (rows d)]⟩ (QAD ?_) ?_
 ·simp +decide -dsimp -implicitDefEqProofs [go_sem,h12i]
  refine QAN (by simp) ?_
  refine gs ?_
  exact QAJ _ _
 by_cases hz:limit = 0
 ·rw [if_pos hz] at q7
  have ci:=QOS d a b (by omega) q6 q1 (by omega)
  rw [q5] at ci
  unfold rgO at ci
  subst q7
  subst hz
  refine QAD ?_
  refine gs ?_
  refine QAL [0] ci rfl rfl (by simp) (by simp +decide -dsimp -implicitDefEqProofs [go_sem]) (by simp +decide -dsimp -implicitDefEqProofs [go_sem,hrr]) ?_
  simp +decide -dsimp -implicitDefEqProofs [go_sem,hrr]
  exact QAJ _ _
 rw [if_neg hz] at q7
 have hzi:¬ (limit:Int) = 0:=by omega
 refine QAP ⟨tmps 148 [(0,.own 0 n),(1,.int .i64 a),(2,.int .i64 b),(3,.int .i64 limit),(4,.fn (.func 54) [] []),(10,.bool wb),(11,.bool wp),(12,.int .i64 l)],[.reg 9 1 (rows d)]⟩ (QAD ?_) ?_
 ·simp +decide -dsimp -implicitDefEqProofs [go_sem,hz]
  refine QAN (by simp) ?_
  refine gs ?_
  exact QAJ _ _
 obtain ⟨o1,z1,o2,z2,o3,z3,p1,p2,l1⟩:=QYR d a b limit wb wp q6 (by omega) (by omega)
 rw [q5] at z1 z2 z3
 obtain ⟨d1,h_d1⟩:∃ x,x = (rd ltP d a b limit wb wp).d1:=⟨_,rfl⟩
 obtain ⟨lim,h_lim⟩:∃ x,x = (rd ltP d a b limit wb wp).lim:=⟨_,rfl⟩
 obtain ⟨c,h_c⟩:∃ x,x = (rd ltP d a b limit wb wp).c:=⟨_,rfl⟩
 obtain ⟨d2,h_d2⟩:∃ x,x = (rd ltP d a b limit wb wp).d2:=⟨_,rfl⟩
 obtain ⟨pv,h_pv⟩:∃ x,x = (rd ltP d a b limit wb wp).pivot:=⟨_,rfl⟩
 obtain ⟨hint,h_hint⟩:∃ x,x = (rd ltP d a b limit wb wp).hint:=⟨_,rfl⟩
 obtain ⟨pi,h_pi⟩:∃ x,x = (rd ltP d a b limit wb wp).pi:=⟨_,rfl⟩
 rw [← h_d1] at o1 z1
 rw [← h_d2] at o2 z2
 rw [← h_pi] at o3 z3 q7
 rw [← h_pv] at p1 p2 q7
 rw [← h_lim] at l1 q7
 have h_d1:d1 = (if (!wb) = true then breakPatterns d a b else d):=h_d1
 have h_lim:lim = (if (!wb) = true then limit - 1 else limit):=h_lim
 have h_c:c = choosePivot ltP (if (!wb) = true then breakPatterns d a b else d) a b:=h_c
 rw [← h_d1] at h_c
 have h_d2:d2 = (if (choosePivot ltP (if (!wb) = true then breakPatterns d a b else d) a b).2 = .decreasing then reverseRange (if (!wb) = true then breakPatterns d a b else d) a b else (if (!wb) = true then breakPatterns d a b else d)):=h_d2
 rw [← h_d1,← h_c] at h_d2
 have h_pv:pv = (if (choosePivot ltP (if (!wb) = true then breakPatterns d a b else d) a b).2 = .decreasing then (b - 1) - ((choosePivot ltP (if (!wb) = true then breakPatterns d a b else d) a b).1 - a) else (choosePivot ltP (if (!wb) = true then breakPatterns d a b else d) a b).1):=h_pv
 rw [← h_d1,← h_c] at h_pv
 have h_hint:hint = (if (choosePivot ltP (if (!wb) = true then breakPatterns d a b else d) a b).2 = .decreasing then Hint.increasing else (choosePivot ltP (if (!wb) = true then breakPatterns d a b else d) a b).2):=h_hint
 rw [← h_d1,← h_c] at h_hint
 have h_pi:pi = (if (wb && wp && decide ((rd ltP d a b limit wb wp).hint = .increasing)) = true then partialInsertionSort ltP (rd ltP d a b limit wb wp).d2 a b else ((rd ltP d a b limit wb wp).d2,false)):=h_pi
 have e_hint:(rd ltP d a b limit wb wp).hint = hint:=by rw [h_hint,h_c,h_d1]; rfl
 have e_d2:(rd ltP d a b limit wb wp).d2 = d2:=by rw [h_d2,h_c,h_d1]; rfl
 rw [e_hint,e_d2] at h_pi
 clear e_hint e_d2
 refine QAP ⟨tmps 148 [(0,.own 0 n),(1,.int .i64 a),(2,.int .i64 b),(3,.int .i64 lim),(4,.fn (.func 54) [] []),(10,.bool wb),(11,.bool wp),(12,.int .i64 l)],[.reg 9 1 (rows d1)]⟩ (QAD ?_) ?_
 ·cases wb with
  | true=>
   have h_d1:d1 = d:=h_d1
   have h_lim:lim = limit:=h_lim
   subst h_d1; subst h_lim
   refine gs ?_
   refine QAN (by simp) ?_
   refine gs ?_
   exact QAJ _ _
  | false=>
   have h_d1:d1 = breakPatterns d a b:=h_d1
   have h_lim:(lim:Int) = (limit:Int) - 1:=by have:lim = limit - 1:=h_lim; omega
   have wz:IntKind.i64.wrap ((limit:Int) - 1) = (lim:Int):=by rw [w64 (by omega) (by omega)]; omega
   have cb:=QSO d a b (by omega) q6 q1 (by omega)
   rw [q5,← h_d1] at cb
   unfold rgO at cb
   refine gs ?_
   refine QAL [0] cb rfl rfl (by simp) (by simp +decide -dsimp -implicitDefEqProofs [go_sem]) (by simp +decide -dsimp -implicitDefEqProofs [go_sem,hrr]) ?_
   simp +decide -dsimp -implicitDefEqProofs [go_sem,hrr,wz]
   refine QAN (by simp) ?_
   refine gs ?_
   exact QAJ _ _
 obtain ⟨cp,cp1⟩:=QVD d1 a b (by omega) o1 (by omega) (by omega)
 obtain ⟨cq1,cq2⟩:=choosePivot_holds ltP d1 a b (by omega)
 rw [z1,← h_c] at cp
 rw [← h_c] at cq1 cq2
 unfold rgO at cp
 refine QAP ⟨tmps 148 [(0,.own 0 n),(1,.int .i64 a),(2,.int .i64 b),(3,.int .i64 lim),(4,.fn (.func 54) [] []),(10,.bool wb),(11,.bool wp),(12,.int .i64 l),(13,.int .i64 c.1),(14,.int .i64 (QEC c.2:Nat))],[.reg 9 1 (rows d1)]⟩ (QAD ?_) ?_
 ·simp +decide -dsimp -implicitDefEqProofs [go_sem]
  refine QAL [0] cp rfl rfl (by simp) (by simp +decide -dsimp -implicitDefEqProofs [go_sem]) (by simp +decide -dsimp -implicitDefEqProofs [go_sem,hrr]) ?_
  simp +decide -dsimp -implicitDefEqProofs [go_sem,hrr]
  refine QAN (by simp) ?_
  refine gs ?_
  exact QAJ _ _
 refine QAP ⟨tmps 148 [(0,.own 0 n),(1,.int .i64 a),(2,.int .i64 b),(3,.int .i64 lim),(4,.fn (.func 54) [] []),(10,.bool wb),(11,.bool wp),(12,.int .i64 l),(13,.int .i64 pv),(14,.int .i64 (QEC hint:Nat))],[.reg 9 1 (rows d2)]⟩ (QAD ?_) ?_
 ·by_cases hdec:c.2 = .decreasing
  ·rw [if_pos hdec] at h_d2 h_pv h_hint
   obtain ⟨cr,_⟩:=QQI d1 a b (by omega) o1 (by omega) (by omega)
   rw [z1,← h_d2] at cr
   unfold rgO at cr
   have w1:IntKind.i64.wrap ((b:Int) - 1) = (b:Int) - 1:=w64 (by omega) (by omega)
   have w2:IntKind.i64.wrap ((c.1:Int) - (a:Int)) = (c.1:Int) - a:=w64 (by omega) (by omega)
   have w3:IntKind.i64.wrap ((b:Int) - 1 - ((c.1:Int) - (a:Int))) = (pv:Int):=by rw [w64 (by omega) (by omega)]; omega
   subst h_hint
   simp +decide -dsimp -implicitDefEqProofs [go_sem,hdec,QEC]
   refine QAL [0] cr rfl rfl (by simp) (by simp +decide -dsimp -implicitDefEqProofs [go_sem]) (by simp +decide -dsimp -implicitDefEqProofs [go_sem,hrr]) ?_
   simp +decide -dsimp -implicitDefEqProofs [go_sem,hrr,w1,w2,w3,QEC]
   refine QAN (by simp) ?_
   refine gs ?_
   exact QAJ _ _
  ·rw [if_neg hdec] at h_d2 h_pv h_hint
   have hn2:¬ (QEC c.2:Int) = 2:=by generalize c.2 = hh at hdec; cases hh <;> simp_all [QEC]
   subst h_d2; subst h_pv; subst h_hint
   simp +decide -dsimp -implicitDefEqProofs [go_sem,hn2]
   refine QAN (by simp) ?_
   refine gs ?_
   exact QAJ _ _
 clear cp cp1 h_d2 h_pv h_hint h_c
 obtain ⟨dn,hdn⟩:∃ x,x = pi.2:=⟨_,rfl⟩
 rw [← hdn] at q7
 cases dn with
 | true=>
  rw [if_pos rfl] at q7
  by_cases hcc:wb = true ∧ wp = true ∧ hint = .increasing
  rotate_left
  ·rw [if_neg (by simp only [Bool.and_eq_true,decide_eq_true_eq]; exact fun hx=>hcc ⟨hx.1.1,hx.1.2,hx.2⟩)] at h_pi
   rw [h_pi] at hdn; cases hdn
  obtain ⟨rfl,rfl,rfl⟩:=hcc
  have h_pi:pi = partialInsertionSort ltP d2 a b:=h_pi
  have cs:=QHc d2 a b (by omega) o2 (by omega) (by omega)
  rw [z2,← h_pi,← hdn,← q7] at cs
  unfold rgO at cs
  refine QAD ?_
  simp +decide -dsimp -implicitDefEqProofs [go_sem,QEC]
  refine QAL [0] cs rfl rfl (by simp) (by simp +decide -dsimp -implicitDefEqProofs [go_sem]) (by simp +decide -dsimp -implicitDefEqProofs [go_sem,hrr]) ?_
  simp +decide -dsimp -implicitDefEqProofs [go_sem,hrr]
  exact QAJ _ _
 | false=>
 rw [if_neg (by decide)] at q7
 obtain ⟨d3,h_d3⟩:∃ x,x = pi.1:=⟨_,rfl⟩
 rw [← h_d3] at q7 o3 z3
 refine QAP ⟨tmps 148 [(0,.own 0 n),(1,.int .i64 a),(2,.int .i64 b),(3,.int .i64 lim),(4,.fn (.func 54) [] []),(10,.bool wb),(11,.bool wp),(12,.int .i64 l),(13,.int .i64 pv),(14,.int .i64 (QEC hint:Nat))],[.reg 9 1 (rows d3)]⟩ (QAD ?_) ?_
 ·by_cases hcc:wb = true ∧ wp = true ∧ hint = .increasing
  ·obtain ⟨rfl,rfl,rfl⟩:=hcc
   have h_pi:pi = partialInsertionSort ltP d2 a b:=h_pi
   have cs:=QHc d2 a b (by omega) o2 (by omega) (by omega)
   rw [z2,← h_pi,← hdn,← h_d3] at cs
   unfold rgO at cs
   simp +decide -dsimp -implicitDefEqProofs [go_sem,QEC]
   refine QAL [0] cs rfl rfl (by simp) (by simp +decide -dsimp -implicitDefEqProofs [go_sem]) (by simp +decide -dsimp -implicitDefEqProofs [go_sem,hrr]) ?_
   simp +decide -dsimp -implicitDefEqProofs [go_sem,hrr]
   refine QAN (by simp) ?_
   simp +decide -dsimp -implicitDefEqProofs [go_sem,QEC]
   exact QAJ _ _
  ·rw [if_neg (by simp only [Bool.and_eq_true,decide_eq_true_eq]; exact fun hx=>hcc ⟨hx.1.1,hx.1.2,hx.2⟩)] at h_pi
   rw [h_pi] at h_d3
   have h_d3:d3 = d2:=h_d3
   subst h_d3
   cases wb with
   | false=>
    refine gs ?_
    refine QAN (by simp) ?_
    refine gs ?_
    exact QAJ _ _
   | true=>
    cases wp with
    | false=>
     refine gs ?_
     refine QAN (by simp) ?_
     refine gs ?_
     exact QAJ _ _
    | true=>
     have hn1:¬ (QEC hint:Int) = 1:=QSP fun hx=>hcc ⟨rfl,rfl,hx⟩
     simp +decide -dsimp -implicitDefEqProofs [go_sem,hn1]
     refine QAN (by simp) ?_
     refine gs ?_
     exact QAJ _ _
 clear h_pi h_d3 hdn o1 o2 z1 z2
 have hle:(rows d3).length = n:=by rw [QBl,z3]
 have hpn:pv < n:=by omega
 have wa1:0 < a → IntKind.i64.wrap ((a:Int) - 1) = ((a - 1:Nat):Int):=fun _=>by rw [w64 (by omega) (by omega)]; omega
 have gy:=QAY (d:=d3) (j:=pv) (by omega) (by omega)
 by_cases heq:(decide (a > 0) && !ltP d3[a - 1]! d3[pv]!) = true
 ·rw [if_pos heq] at q7
  obtain ⟨m1,m2,o4,z4⟩:=QTW d3 a b pv o3 p1 p2 (by omega)
  rw [if_pos ⟨m1,m2⟩] at q7
  have ce:=QKV d3 a b pv (by omega) o3 p1 p2 (by omega)
  rw [z3] at ce z4
  generalize partitionEqual ltP d3 a b pv = t at q7 m1 m2 o4 z4 ce
  obtain ⟨mid,d4⟩:=t
  simp only at q7 m1 m2 o4 z4 ce
  unfold rgO at ce
  simp only [Bool.and_eq_true,decide_eq_true_eq] at heq
  obtain ⟨ha,hnl⟩:=heq
  have wa1:=wa1 ha
  have han:a - 1 < n:=by omega
  have gx:=QAY (d:=d3) (j:=a - 1) (by omega) (by omega)
  have cl:=QCu _ _ (QBf o3 (j:=a - 1) (by omega)) (QBf o3 (j:=pv) (by omega))
  have hlt:¬ QFA d3[a - 1]! d3[pv]! < 0:=by simpa [ltP] using hnl
  refine QAD ?_
  simp +decide -dsimp -implicitDefEqProofs [go_sem,ha,wa1,hle,han,hpn,gx,gy]
  refine QAK cl (by simp +decide -dsimp -implicitDefEqProofs [go_sem]) rfl ?_
  simp +decide -dsimp -implicitDefEqProofs [go_sem,hlt]
  refine QAL [0] ce rfl rfl (by simp) (by simp +decide -dsimp -implicitDefEqProofs [go_sem]) (by simp +decide -dsimp -implicitDefEqProofs [go_sem,hrr]) ?_
  simp +decide -dsimp -implicitDefEqProofs [go_sem,hrr]
  refine QAG (mid,b,lim,wb,wp,d4) ⟨by show mid ≤ b; omega,q2,by show b - mid ≤ N; omega,by show lim ≤ 1000; omega,z4,o4,q7⟩ (by show b - mid < b - a; omega) (QAC (by simp) ?_)
  refine gs ?_
  exact QAJ _ _
 rw [if_neg heq] at q7
 refine QAP ⟨tmps 148 [(0,.own 0 n),(1,.int .i64 a),(2,.int .i64 b),(3,.int .i64 lim),(4,.fn (.func 54) [] []),(10,.bool wb),(11,.bool wp),(12,.int .i64 l),(13,.int .i64 pv),(14,.int .i64 (QEC hint:Nat))],[.reg 9 1 (rows d3)]⟩ (QAD ?_) ?_
 ·by_cases ha:0 < a
  rotate_left
  ·obtain rfl:a = 0:=by omega
   refine gs ?_
   refine QAN (by simp) ?_
   refine gs ?_
   exact QAJ _ _
  have wa1:=wa1 ha
  have han:a - 1 < n:=by omega
  have gx:=QAY (d:=d3) (j:=a - 1) (by omega) (by omega)
  have cl:=QCu _ _ (QBf o3 (j:=a - 1) (by omega)) (QBf o3 (j:=pv) (by omega))
  have hlt:QFA d3[a - 1]! d3[pv]! < 0:=by
   cases hb:ltP d3[a - 1]! d3[pv]! with
   | true=>simpa [ltP] using hb
   | false=>rw [hb] at heq; exact absurd (by simp [ha]) heq
  simp +decide -dsimp -implicitDefEqProofs [go_sem,ha,wa1,hle,han,hpn,gx,gy]
  refine QAK cl (by simp +decide -dsimp -implicitDefEqProofs [go_sem]) rfl ?_
  simp +decide -dsimp -implicitDefEqProofs [go_sem,hlt]
  refine QAN (by simp) ?_
  refine gs ?_
  exact QAJ _ _
 obtain ⟨m1,m2,o4,z4⟩:=QYQ d3 a b pv o3 p1 p2 (by omega)
 rw [if_pos ⟨m1,m2⟩] at q7
 have ct:=QMY d3 a b pv (by omega) o3 p1 p2 (by omega)
 rw [z3] at ct z4
 generalize Go.Sort.partition ltP d3 a b pv = t at q7 m1 m2 o4 z4 ct
 obtain ⟨mid,ap,d4⟩:=t
 simp only at q7 m1 m2 o4 z4 ct
 obtain ⟨L1,hL1⟩:∃ x,x = mid - a:=⟨_,rfl⟩
 obtain ⟨L2,hL2⟩:∃ x,x = b - mid:=⟨_,rfl⟩
 obtain ⟨e,he⟩:∃ x,x = (b - a) / 8:=⟨_,rfl⟩
 rw [← hL1,← hL2,← he] at q7
 have wL1:IntKind.i64.wrap ((mid:Int) - (a:Int)) = (L1:Int):=by rw [w64 (by omega) (by omega)]; omega
 have wL2:IntKind.i64.wrap ((b:Int) - (mid:Int)) = (L2:Int):=by rw [w64 (by omega) (by omega)]; omega
 have we:IntKind.i64.wrap ((l:Int) / 8) = (e:Int):=by
  rw [show (l:Int) / 8 = ((l / 8:Nat):Int) from rfl,hl,← he]; exact w64 (by omega) (by omega)
 have wm:IntKind.i64.wrap ((mid:Int) + 1) = (mid:Int) + 1:=w64 (by omega) (by omega)
 unfold rgO at ct
 refine QAD ?_
 refine gs ?_
 refine QAL [0] ct rfl rfl (by simp) (by simp +decide -dsimp -implicitDefEqProofs [go_sem]) (by simp +decide -dsimp -implicitDefEqProofs [go_sem,hrr]) ?_
 by_cases hLL:L1 < L2
 ·rw [if_pos hLL] at q7
  obtain ⟨cr,o5,z5⟩:=ih d4 a mid lim (by omega) (by omega) o4 m1 (by omega) (by omega)
  rw [z4] at cr z5
  generalize pdq ltP d4 a mid lim true true = d5 at cr o5 z5 q7
  unfold rgO at cr
  simp +decide -dsimp -implicitDefEqProofs [go_sem,hrr,wL1,wL2,we,hLL]
  refine QAL [0] cr rfl rfl (by simp) (by simp +decide -dsimp -implicitDefEqProofs [go_sem]) (by simp +decide -dsimp -implicitDefEqProofs [go_sem,hrr]) ?_
  simp +decide -dsimp -implicitDefEqProofs [go_sem,hrr,wm]
  refine QAG (mid + 1,b,lim,decide (L1 ≥ e),ap,d5) ⟨by show mid + 1 ≤ b; omega,q2,by show b - (mid + 1) ≤ N; omega,by show lim ≤ 1000; omega,z5,o5,q7⟩ (by show b - (mid + 1) < b - a; omega) (QAC (by simp) ?_)
  refine gs ?_
  exact QAJ _ _
 ·rw [if_neg hLL] at q7
  obtain ⟨cr,o5,z5⟩:=ih d4 (mid + 1) b lim (by omega) (by omega) o4 (by omega) (by omega) (by omega)
  rw [z4] at cr z5
  generalize pdq ltP d4 (mid + 1) b lim true true = d5 at cr o5 z5 q7
  unfold rgO at cr
  rw [show ((mid + 1:Nat):Int) = (mid:Int) + 1 by omega] at cr
  simp +decide -dsimp -implicitDefEqProofs [go_sem,hrr,wL1,wL2,we,wm,hLL]
  refine QAL [0] cr rfl rfl (by simp) (by simp +decide -dsimp -implicitDefEqProofs [go_sem]) (by simp +decide -dsimp -implicitDefEqProofs [go_sem,hrr]) ?_
  simp +decide -dsimp -implicitDefEqProofs [go_sem,hrr]
  refine QAG (a,mid,lim,decide (L2 ≥ e),ap,d5) ⟨m1,by show mid ≤ n; omega,by show mid - a ≤ N; omega,by show lim ≤ 1000; omega,z5,o5,q7⟩ (by show mid - a < b - a; omega) (QAC (by simp) ?_)
  refine gs ?_
  exact QAJ _ _
end Go.Ab
namespace Go.Ab
open Go Go.Proofs Go.Sort
theorem QMZ (d:Array Txt) (hn:d.size ≤ 100000) (h0:okP d):
  ACalls Tryz.prog 72 [.own 0 d.size,.fn (.func 54) [] []] [rgO d] (.tup []) [rgO (Go.Sort.sort ltP d)]:=by
 have w:IntKind.u64.wrap (d.size:Int) = d.size:=QZU (by omega) (by omega)
 have hk:bitsLen d.size ≤ 62:=(bitsLen_le_iff d.size 62).2 (by omega)
 have cl:=QX9 d.size (by omega)
 rw [QJY d.size (by omega)] at cl
 obtain ⟨cp,_,_⟩:=QYS (d.size + 1) d 0 d.size (bitsLen d.size) (by omega) hn h0 (Nat.zero_le _) (Nat.le_refl _) (by omega)
 unfold Go.Sort.sort
 generalize pdq ltP d 0 d.size (bitsLen d.size) true true = e at cp ⊢
 refine QAH cqq rfl ?_
 unfold rgO at cp ⊢
 have hle:(rows d).length = d.size:=QBl d
 simp +decide -dsimp -implicitDefEqProofs [go_sem,w,hle]
 refine QAA cl rfl rfl ?_
 refine gs ?_
 refine QAL [0] cp rfl rfl (by simp) (by simp +decide -dsimp -implicitDefEqProofs [go_sem]) (by simp +decide -dsimp -implicitDefEqProofs [go_sem,QD8]) ?_
 simp +decide -dsimp -implicitDefEqProofs [go_sem,QD8]
 exact QAJ _ _
theorem QMa {d:Array Txt} (h0:okP d) (hn:d.toList.Nodup):(Go.Sort.sort ltP d).toList.Perm d.toList ∧ (Go.Sort.sort ltP d).toList.Pairwise fun a b=>ltP a b = true:=by
 obtain ⟨⟨hsz,_,hperm⟩,hs⟩:=sort_sorts ltP swo_ltP d
 generalize Go.Sort.sort ltP d = d' at *
 have e1:d'.extract 0 d.size = d':=by rw [← hsz]; exact Array.extract_size
 rw [e1,Array.extract_size] at hperm
 refine ⟨hperm,?_⟩
 have hn':d'.toList.Nodup:=hperm.nodup_iff.2 hn
 unfold List.Nodup at hn'
 rw [List.pairwise_iff_getElem] at hn' ⊢
 intro i j hi hj hij
 have hi':i < d'.size:=by simpa using hi
 have hj':j < d'.size:=by simpa using hj
 have h3:=hs i j (Nat.zero_le _) hij (by omega)
 rw [getElem!_pos _ j hj',getElem!_pos _ i hi'] at h3
 have hne:=hn' i j hi hj hij
 simp only [Array.getElem_toList] at hne ⊢
 have hm:∀ (k:Nat) (hk:k < d'.size),QAf d'[k] = true:=fun k hk=>h0 _ (hperm.mem_iff.1 (by simp))
 cases h4:ltP d'[i] d'[j] with
 | true=>rfl
 | false=>exact absurd (QLa (hm i hi') (hm j hj') (by simpa [ltP] using h4) (by simpa [ltP] using h3)) hne
theorem QJZ (l:List Txt) (hn:l.length ≤ 100000) (h0:∀ x ∈ l,QAf x = true) (hd:l.Nodup):
  ACallsR Tryz.prog 72 [.own 0 l.length,.fn (.func 54) [] []] [.reg 9 1 (l.map QAT)] (fun v G=>v = .tup [] ∧ ∃ l':List Txt,l'.Perm l ∧ (l'.Pairwise fun a b=>ltP a b = true) ∧ G = [.reg 9 1 (l'.map QAT)]):=by
 have h1:=QMZ l.toArray (by simpa using hn) (by simpa [okP] using h0)
 obtain ⟨h2,h3⟩:=QMa (d:=l.toArray) (by simpa [okP] using h0) (by simpa using hd)
 simp only [List.size_toArray] at h1 h2 h3
 exact h1.toR.mono fun v G ⟨e1,e2⟩=>⟨e1,_,by simpa using h2,h3,e2⟩
end Go.Ab
