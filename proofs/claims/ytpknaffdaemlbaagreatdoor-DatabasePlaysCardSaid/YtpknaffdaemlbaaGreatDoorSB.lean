/- pdqsort at records: siftDown. (Printed by gS11.py.) -/
import Derived.Test.YtpknaffdaemlbaaGreatDoorSA
import Derived.Sort.LotD5
import Derived.Laws.Bits64
import Derived.Laws.Bits64b
import Derived.Sort.Walk13a
import Derived.Sort.AssemblyPlain
set_option maxRecDepth 20000
set_option maxHeartbeats 8000000
namespace Go.Ab
open Go Go.Proofs Go.Sort
def kid {α:Type} [Inhabited α] (lt:α → α → Bool) (hi F r:Nat) (d:Array α):Nat:=if (decide (2 * r + 2 < hi) && lt d[F + (2 * r + 1)]! d[F + (2 * r + 2)]!) = true then 2 * r + 2 else 2 * r + 1
theorem QRX {α:Type} [Inhabited α] {lt:α → α → Bool} {hi F r:Nat} {d:Array α} (h:2 * r + 1 < hi):r < kid lt hi F r d ∧ kid lt hi F r d < hi:=by
 unfold kid
 split
 ·rename_i h2
  simp only [Bool.and_eq_true,decide_eq_true_eq] at h2
  omega
 ·omega
theorem QHy {α:Type} [Inhabited α] {lt:α → α → Bool} {hi F r:Nat} {d:Array α} (h:2 * r + 1 < hi):
  siftDown lt hi F r d = if lt d[F + r]! d[F + kid lt hi F r d]! = true then siftDown lt hi F (kid lt hi F r d) (swp d (F + r) (F + kid lt hi F r d)) else d:=by
 rw [siftDown,dif_neg (by omega)]
 unfold kid
 have e:2 * r + 1 + 1 = 2 * r + 2:=rfl
 have e2:F + (2 * r + 1) + 1 = F + (2 * r + 2):=rfl
 rw [e,e2]
 by_cases hc:(decide (2 * r + 2 < hi) && lt d[F + (2 * r + 1)]! d[F + (2 * r + 2)]!) = true
 ·rw [if_pos hc,if_pos hc]
  have h2:2 * r + 2 < hi:=by simp only [Bool.and_eq_true,decide_eq_true_eq] at hc; exact hc.1
  rw [dif_pos h2]
  cases lt d[F + r]! d[F + (2 * r + 2)]! <;> simp
 ·rw [if_neg hc,if_neg hc]
  cases lt d[F + r]! d[F + (2 * r + 1)]! <;> simp
theorem QIn (d0:Array Rcd) (lo hi F:Nat) (hn:d0.size ≤ 100000) (h0:okP d0) (hlo:lo ≤ 100000) (hb:F + hi ≤ d0.size):
  ACalls Tryz.prog 170 [.own 0 d0.size,.int .i64 lo,.int .i64 hi,.int .i64 F,.fn (.func 60) [] []] [rgO d0] (.tup []) [rgO (siftDown ltR hi F lo d0)] ∧ okP (siftDown ltR hi F lo d0) ∧ (siftDown ltR hi F lo d0).size = d0.size:=by
 obtain ⟨n,hN⟩:∃ n,n = d0.size:=⟨_,rfl⟩
 rw [← hN] at hn hb ⊢
 have hok:∀ (k r:Nat) (d:Array Rcd),hi - r ≤ k → d.size = n → okP d → okP (siftDown ltR hi F r d) ∧ (siftDown ltR hi F r d).size = n:=by
  intro k
  induction k with
  | zero=>intro r d hk hd h; rw [siftDown,dif_pos (by omega)]; exact ⟨h,hd⟩
  | succ k ih=>
   intro r d hk hd h
   by_cases h1:2 * r + 1 < hi
   ·rw [QHy h1]
    obtain ⟨b1,b2⟩:=QRX (lt:=ltR) (F:=F) (d:=d) h1
    split
    ·exact ih _ _ (by omega) (by rw [QA2,hd]) (QBj h (by omega) (by omega))
    ·exact ⟨h,hd⟩
   ·rw [siftDown,dif_pos (by omega)]; exact ⟨h,hd⟩
 refine ⟨?_,hok _ _ _ (Nat.le_refl _) hN.symm h0⟩
 clear hok
 obtain ⟨e,he⟩:∃ x,x = siftDown ltR hi F lo d0:=⟨_,rfl⟩
 rw [← he]
 refine QBw c170_ok rfl ?_
 unfold c170 rgO
 refine QAL ⟨tmps 82 [(0,.own 0 n),(1,.int .i64 lo),(2,.int .i64 hi),(3,.int .i64 F),(4,.fn (.func 60) [] []),(10,.int .i64 lo)],[.reg 34 12 (rows d0)]⟩ (QAJ ?_) ?_
 ·
  simp +decide -dsimp -implicitDefEqProofs [go_sem]
  refine QAH (by simp) ?_
  simp +decide -dsimp -implicitDefEqProofs [go_sem]
  exact QAG _ _
 refine QBm (QAJ ?_)
 simp +decide -dsimp -implicitDefEqProofs [go_sem]
 refine QFp (S:=Nat × Array Rcd) (fun s=>⟨tmps 82 [(0,.own 0 n),(1,.int .i64 lo),(2,.int .i64 hi),(3,.int .i64 F),(4,.fn (.func 60) [] []),(10,.int .i64 s.1)],[.reg 34 12 (rows s.2)]⟩) (fun s=>hi - s.1) (fun s=>s.1 ≤ 100000 ∧ s.2.size = n ∧ okP s.2 ∧ e = siftDown ltR hi F s.1 s.2) (lo,d0) ⟨hlo,hN.symm,h0,he⟩ (QAD (by simp) ?_) ?_
 ·
  simp +decide -dsimp -implicitDefEqProofs [go_sem]
  exact QAG _ _
 rintro ⟨r,d⟩ ⟨q1,q2,q3,q4⟩
 simp only at q1 q2 q3 q4
 have w1:IntKind.i64.wrap (2 * (r:Int)) = 2 * (r:Int):=w64 (by omega) (by omega)
 have w2:IntKind.i64.wrap (2 * (r:Int) + 1) = 2 * (r:Int) + 1:=w64 (by omega) (by omega)
 refine QBm ?_
 refine QAL ⟨tmps 82 [(0,.own 0 n),(1,.int .i64 lo),(2,.int .i64 hi),(3,.int .i64 F),(4,.fn (.func 60) [] []),(10,.int .i64 r),(11,.int .i64 (2 * (r:Int) + 1))],[.reg 34 12 (rows d)]⟩ (QAJ ?_) ?_
 ·simp +decide -dsimp -implicitDefEqProofs [go_sem,w1,w2]
  refine QAH (by simp) ?_
  simp +decide -dsimp -implicitDefEqProofs [go_sem]
  exact QAG _ _
 by_cases h1:2 * r + 1 < hi
 rotate_left
 ·rw [siftDown,dif_pos (by omega)] at q4
  subst q4
  have h2:(hi:Int) ≤ 2 * (r:Int) + 1:=by omega
  refine QAJ ?_
  simp +decide -dsimp -implicitDefEqProofs [go_sem,h2]
  exact QAG _ _
 have h2:¬ (hi:Int) ≤ 2 * (r:Int) + 1:=by omega
 refine QAL ⟨tmps 82 [(0,.own 0 n),(1,.int .i64 lo),(2,.int .i64 hi),(3,.int .i64 F),(4,.fn (.func 60) [] []),(10,.int .i64 r),(11,.int .i64 (2 * (r:Int) + 1))],[.reg 34 12 (rows d)]⟩ (QAJ ?_) ?_
 ·
  simp +decide -dsimp -implicitDefEqProofs [go_sem,h2]
  refine QAH (by simp) ?_
  simp +decide -dsimp -implicitDefEqProofs [go_sem]
  exact QAG _ _
 rw [QHy h1] at q4
 obtain ⟨b1,b2⟩:=QRX (lt:=ltR) (F:=F) (d:=d) h1
 obtain ⟨c,hc⟩:∃ x,x = kid ltR hi F r d:=⟨_,rfl⟩
 rw [← hc] at q4 b1 b2
 have hle:(rows d).length = n:=by rw [QBH,q2]
 refine QAL ⟨tmps 82 [(0,.own 0 n),(1,.int .i64 lo),(2,.int .i64 hi),(3,.int .i64 F),(4,.fn (.func 60) [] []),(10,.int .i64 r),(11,.int .i64 c)],[.reg 34 12 (rows d)]⟩ (QAJ ?_) ?_
 ·have w3:IntKind.i64.wrap (2 * (r:Int) + 1 + 1) = 2 * (r:Int) + 1 + 1:=w64 (by omega) (by omega)
  by_cases hr:2 * r + 2 < hi
  rotate_left
  ·have hr2:¬ 2 * (r:Int) + 1 + 1 < (hi:Int):=by omega
   have hck:(c:Int) = 2 * (r:Int) + 1:=by
    have:c = 2 * r + 1:=by rw [hc,kid,if_neg (by simp [hr])]
    omega
   simp +decide -dsimp -implicitDefEqProofs [go_sem,w3,hr2]
   refine QAH (by simp) ?_
   simp +decide -dsimp -implicitDefEqProofs [go_sem,hck]
   exact QAG _ _
  have hr2:2 * (r:Int) + 1 + 1 < (hi:Int):=by omega
  obtain ⟨x,hx⟩:∃ x,x = F + (2 * r + 1):=⟨_,rfl⟩
  obtain ⟨y,hy⟩:∃ y,y = F + (2 * r + 2):=⟨_,rfl⟩
  have hxn:x < n:=by omega
  have hyn:y < n:=by omega
  have wx:IntKind.i64.wrap ((F:Int) + (2 * (r:Int) + 1)) = (x:Int):=by rw [w64 (by omega) (by omega)]; omega
  have wy:IntKind.i64.wrap ((x:Int) + 1) = (y:Int):=by rw [w64 (by omega) (by omega)]; omega
  have gx:=QAW (d:=d) (j:=x) (by omega) (by omega)
  have gy:=QAW (d:=d) (j:=y) (by omega) (by omega)
  have cl:=QDH _ _ (QA9 q3 (j:=x) (by omega)) (QA9 q3 (j:=y) (by omega))
  simp +decide -dsimp -implicitDefEqProofs [go_sem,w3,hr2,wx,wy,hle,hxn,hyn,gx,gy,QAN,QAP]
  refine QAO cl (by simp +decide -dsimp -implicitDefEqProofs [go_sem,QAg]) rfl ?_
  by_cases hlt:QEv d[x]!.path d[y]!.path < 0
  ·have hck:(c:Int) = 2 * (r:Int) + 1 + 1:=by
    have:c = 2 * r + 2:=by rw [hc,kid,← hx,← hy,if_pos (by simp [hr,ltR,hlt])]
    omega
   simp +decide -dsimp -implicitDefEqProofs [go_sem,w3,hlt]
   refine QAH (by simp) ?_
   simp +decide -dsimp -implicitDefEqProofs [go_sem,hck]
   exact QAG _ _
  ·have hck:(c:Int) = 2 * (r:Int) + 1:=by
    have:c = 2 * r + 1:=by rw [hc,kid,← hx,← hy,if_neg (by simp [ltR,hlt])]
    omega
   simp +decide -dsimp -implicitDefEqProofs [go_sem,hlt]
   refine QAH (by simp) ?_
   simp +decide -dsimp -implicitDefEqProofs [go_sem,hck]
   exact QAG _ _
 clear hc
 obtain ⟨x,hx⟩:∃ x,x = F + r:=⟨_,rfl⟩
 obtain ⟨y,hy⟩:∃ y,y = F + c:=⟨_,rfl⟩
 rw [← hx,← hy] at q4
 have hxn:x < n:=by omega
 have hyn:y < n:=by omega
 have wx:IntKind.i64.wrap ((F:Int) + (r:Int)) = (x:Int):=by rw [w64 (by omega) (by omega)]; omega
 have wy:IntKind.i64.wrap ((F:Int) + (c:Int)) = (y:Int):=by rw [w64 (by omega) (by omega)]; omega
 have gx:=QAW (d:=d) (j:=x) (by omega) (by omega)
 have gy:=QAW (d:=d) (j:=y) (by omega) (by omega)
 have cl:=QDH _ _ (QA9 q3 (j:=x) (by omega)) (QA9 q3 (j:=y) (by omega))
 have hsw:=QBd d x y
 refine QAJ ?_
 simp +decide -dsimp -implicitDefEqProofs [go_sem,wx,wy,hle,hxn,hyn,gx,gy,QAN,QAP]
 refine QAO cl (by simp +decide -dsimp -implicitDefEqProofs [go_sem,QAg]) rfl ?_
 by_cases hlt:QEv d[x]!.path d[y]!.path < 0
 ·rw [if_pos (by simp [ltR,hlt])] at q4
  simp +decide -dsimp -implicitDefEqProofs [go_sem,wx,wy,hle,hxn,hyn,gx,gy,QAN,QAP,QA3,QAq,QAm,hlt]
  rw [hsw]
  refine QAI (c,swp d x y) ⟨by show c ≤ 100000; omega,by show (swp d x y).size = n; rw [QA2,q2],QBj q3 (by omega) (by omega),q4⟩ (by show hi - c < hi - r; omega) (QAD (by simp) ?_)
  simp +decide -dsimp -implicitDefEqProofs [go_sem]
  exact QAG _ _
 ·rw [if_neg (by simp [ltR,hlt])] at q4
  subst q4
  simp +decide -dsimp -implicitDefEqProofs [go_sem,hlt]
  exact QAG _ _
theorem QNE (d0:Array Rcd) (a b:Nat) (hn:d0.size ≤ 100000) (h0:okP d0) (hab:a ≤ b) (hb:b ≤ d0.size):
  ACalls Tryz.prog 130 [.own 0 d0.size,.int .i64 a,.int .i64 b,.fn (.func 60) [] []] [rgO d0] (.tup []) [rgO (heapSort ltR d0 a b)]:=by
 obtain ⟨n,hN⟩:∃ n,n = d0.size:=⟨_,rfl⟩
 rw [← hN] at hn hb ⊢
 unfold heapSort
 obtain ⟨hi,hh⟩:∃ x,x = b - a:=⟨_,rfl⟩
 rw [← hh]
 obtain ⟨r1,hr1⟩:∃ x,x = heapBuild ltR hi a ((hi - 1) / 2 + 1) d0:=⟨_,rfl⟩
 rw [← hr1]
 obtain ⟨r2,hr2⟩:∃ x,x = heapPop ltR a hi r1:=⟨_,rfl⟩
 rw [← hr2]
 have wh:IntKind.i64.wrap ((b:Int) - (a:Int)) = (hi:Int):=by rw [w64 (by omega) (by omega)]; omega
 have wq:IntKind.i64.wrap (Int.tdiv (IntKind.i64.wrap ((hi:Int) - 1)) 2) = (((hi - 1) / 2 + 1:Nat):Int) - 1:=by
  rw [show IntKind.i64.wrap ((hi:Int) - 1) = (hi:Int) - 1 from w64 (by omega) (by omega)]
  have:Int.tdiv ((hi:Int) - 1) 2 = (((hi - 1) / 2 + 1:Nat):Int) - 1:=by
   cases hi with
   | zero=>decide
   | succ k=>
    rw [show ((k + 1:Nat):Int) - 1 = (k:Int) by omega,show k + 1 - 1 = k by omega,show ((k / 2 + 1:Nat):Int) - 1 = ((k / 2:Nat):Int) by omega]
    rfl
  rw [this]
  exact w64 (by omega) (by omega)
 have hrr:=QDQ
 refine QBw c130_ok rfl ?_
 unfold c130 rgO
 refine QAL ⟨tmps 60 [(0,.own 0 n),(1,.int .i64 a),(2,.int .i64 b),(3,.fn (.func 60) [] []),(8,.int .i64 a)],[.reg 34 12 (rows d0)]⟩ (QAJ ?_) ?_
 ·
  simp +decide -dsimp -implicitDefEqProofs [go_sem]
  refine QAH (by simp) ?_
  simp +decide -dsimp -implicitDefEqProofs [go_sem]
  exact QAG _ _
 refine QAL ⟨tmps 60 [(0,.own 0 n),(1,.int .i64 a),(2,.int .i64 b),(3,.fn (.func 60) [] []),(8,.int .i64 a),(9,.int .i64 0)],[.reg 34 12 (rows d0)]⟩ (QAJ ?_) ?_
 ·
  simp +decide -dsimp -implicitDefEqProofs [go_sem]
  refine QAH (by simp) ?_
  simp +decide -dsimp -implicitDefEqProofs [go_sem]
  exact QAG _ _
 refine QAL ⟨tmps 60 [(0,.own 0 n),(1,.int .i64 a),(2,.int .i64 b),(3,.fn (.func 60) [] []),(8,.int .i64 a),(9,.int .i64 0),(10,.int .i64 hi)],[.reg 34 12 (rows d0)]⟩ (QAJ ?_) ?_
 ·
  simp +decide -dsimp -implicitDefEqProofs [go_sem,wh]
  refine QAH (by simp) ?_
  simp +decide -dsimp -implicitDefEqProofs [go_sem]
  exact QAG _ _
 refine QCk (S:=Unit) (fun _=>⟨tmps 60 [(0,.own 0 n),(1,.int .i64 a),(2,.int .i64 b),(3,.fn (.func 60) [] []),(8,.int .i64 a),(9,.int .i64 0),(10,.int .i64 hi)],[.reg 34 12 (rows r1)]⟩) (fun _=>r1.size = n ∧ okP r1) (QAJ ?_) ?_
 ·simp +decide -dsimp -implicitDefEqProofs [go_sem,wq]
  refine QAR (S:=Nat × Array Rcd) (fun s=>⟨tmps 60 [(0,.own 0 n),(1,.int .i64 a),(2,.int .i64 b),(3,.fn (.func 60) [] []),(8,.int .i64 a),(9,.int .i64 0),(10,.int .i64 hi),(11,.int .i64 ((s.1:Int) - 1))],[.reg 34 12 (rows s.2)]⟩) (fun s=>s.1) (fun s=>s.1 ≤ 100000 ∧ s.2.size = n ∧ okP s.2 ∧ r1 = heapBuild ltR hi a s.1 s.2) ((hi - 1) / 2 + 1,d0) ⟨by show (hi - 1) / 2 + 1 ≤ 100000; omega,hN.symm,h0,hr1⟩ (QAD (by simp) ?_) ?_
  ·
   simp +decide -dsimp -implicitDefEqProofs [go_sem]
   exact QAG _ _
  rintro ⟨k,d⟩ ⟨q1,q2,q3,q4⟩
  simp only at q1 q2 q3 q4
  cases k with
  | zero=>
   have q4:r1 = d:=q4
   subst q4
   simp +decide -dsimp -implicitDefEqProofs [go_sem]
   refine QBt () ⟨q2,q3⟩ (QAD (by simp) ?_)
   simp +decide -dsimp -implicitDefEqProofs [go_sem]
   exact QAG _ _
  | succ k=>
   have q4:r1 = heapBuild ltR hi a k (siftDown ltR hi a k d):=q4
   obtain ⟨c1,o1,z1⟩:=QIn d k hi a (by omega) q3 (by omega) (by omega)
   rw [q2] at c1 z1
   have hk:(0:Int) ≤ ((k + 1:Nat):Int) - 1:=by omega
   have hk0:((k + 1:Nat):Int) - 1 = (k:Int):=by omega
   have wk:IntKind.i64.wrap ((k:Int) - 1) = (k:Int) - 1:=w64 (by omega) (by omega)
   unfold rgO at c1
   rw [hk0]
   simp +decide -dsimp -implicitDefEqProofs [go_sem]
   refine QAB [0] c1 rfl rfl (by simp) (by simp +decide -dsimp -implicitDefEqProofs [go_sem]) (by simp +decide -dsimp -implicitDefEqProofs [go_sem,hrr]) ?_
   simp +decide -dsimp -implicitDefEqProofs [go_sem,wk,hrr]
   refine QAI (k,siftDown ltR hi a k d) ⟨by show k ≤ 100000; omega,z1,o1,q4⟩ (Nat.lt_succ_self k) (QAD (by simp) ?_)
   simp +decide -dsimp -implicitDefEqProofs [go_sem]
   exact QAG _ _
 rintro _ ⟨z0,o0⟩
 have wz:IntKind.i64.wrap ((hi:Int) - 1) = (hi:Int) - 1:=w64 (by omega) (by omega)
 refine QAJ ?_
 simp +decide -dsimp -implicitDefEqProofs [go_sem,wz]
 refine QAR (S:=Nat × Array Rcd) (fun s=>⟨tmps 60 [(0,.own 0 n),(1,.int .i64 a),(2,.int .i64 b),(3,.fn (.func 60) [] []),(8,.int .i64 a),(9,.int .i64 0),(10,.int .i64 hi),(12,.int .i64 ((s.1:Int) - 1))],[.reg 34 12 (rows s.2)]⟩) (fun s=>s.1) (fun s=>s.1 ≤ hi ∧ s.2.size = n ∧ okP s.2 ∧ r2 = heapPop ltR a s.1 s.2) (hi,r1) ⟨Nat.le_refl _,z0,o0,hr2⟩ (QAD (by simp) ?_) ?_
 ·
  simp +decide -dsimp -implicitDefEqProofs [go_sem]
  exact QAG _ _
 rintro ⟨k,d⟩ ⟨q1,q2,q3,q4⟩
 simp only at q1 q2 q3 q4
 cases k with
 | zero=>
  have q4:r2 = d:=q4
  subst q4
  simp +decide -dsimp -implicitDefEqProofs [go_sem]
  exact QAG _ _
 | succ k=>
  have q4:r2 = heapPop ltR a k (siftDown ltR k a 0 (swp d a (a + k))):=q4
  obtain ⟨x,hx⟩:∃ x,x = a + k:=⟨_,rfl⟩
  rw [← hx] at q4
  have hxn:x < n:=by omega
  have han:a < n:=by omega
  have hle:(rows d).length = n:=by rw [QBH,q2]
  have wx:IntKind.i64.wrap ((a:Int) + (k:Int)) = (x:Int):=by rw [w64 (by omega) (by omega)]; omega
  have gx:=QAW (d:=d) (j:=a) (by omega) (by omega)
  have gy:=QAW (d:=d) (j:=x) (by omega) (by omega)
  have hsw:=QBd d a x
  have os:=QBj q3 (i:=a) (j:=x) (by omega) (by omega)
  have zs:(swp d a x).size = n:=by rw [QA2,q2]
  obtain ⟨c1,o1,z1⟩:=QIn (swp d a x) 0 k a (by omega) os (by omega) (by omega)
  rw [zs] at c1 z1
  have hk0:((k + 1:Nat):Int) - 1 = (k:Int):=by omega
  have wk:IntKind.i64.wrap ((k:Int) - 1) = (k:Int) - 1:=w64 (by omega) (by omega)
  unfold rgO at c1
  rw [hk0]
  simp +decide -dsimp -implicitDefEqProofs [go_sem,wx,hle,hxn,han,gx,gy,QAN,QAP,QA3,QAq,QAm]
  rw [hsw]
  refine QAB [0] c1 rfl rfl (by simp) (by simp +decide -dsimp -implicitDefEqProofs [go_sem]) (by simp +decide -dsimp -implicitDefEqProofs [go_sem,hrr]) ?_
  simp +decide -dsimp -implicitDefEqProofs [go_sem,wk,hrr]
  refine QAI (k,siftDown ltR k a 0 (swp d a x)) ⟨by show k ≤ hi; omega,z1,o1,q4⟩ (Nat.lt_succ_self k) (QAD (by simp) ?_)
  simp +decide -dsimp -implicitDefEqProofs [go_sem]
  exact QAG _ _
end Go.Ab
namespace Go.Ab
open Go Go.Proofs Go.Sort
theorem QO2 (X:Nat) (hX:X < 18446744073709551616):
  ACalls Tryz.prog 172 [.ptr 0 0] [.box 208 [.int .u64 X]] (.int .u64 (xorNextN X:Nat)) [.box 208 [.int .u64 (xorNextN X:Nat)]]:=by
 obtain ⟨A,hA⟩:∃ A,A = X ^^^ (X * 8192 % 18446744073709551616):=⟨_,rfl⟩
 obtain ⟨B,hB⟩:∃ B,B = A ^^^ (A / 128):=⟨_,rfl⟩
 obtain ⟨C,hC⟩:∃ C,C = B ^^^ (B * 131072 % 18446744073709551616):=⟨_,rfl⟩
 have hr:xorNextN X = C:=by subst hC; subst hB; subst hA; rfl
 have lA:A < 18446744073709551616:=by rw [hA]; exact Nat.xor_lt_two_pow (n:=64) (by omega) (by omega)
 have lB:B < 18446744073709551616:=by rw [hB]; exact Nat.xor_lt_two_pow (n:=64) (by omega) (by omega)
 have e1:bits .xor .u64 (X:Int) (IntKind.u64.wrap ((X:Int) * 8192)) = (A:Int):=by
  rw [IntKind.wrap_u64,show ((X:Int) * 8192 % 18446744073709551616) = ((X * 8192 % 18446744073709551616:Nat):Int) by omega,bits_xor_u64_nat _ _ hX (by omega),hA]
 have e2:bits .xor .u64 (A:Int) (Int.fdiv (A:Int) 128) = (B:Int):=by
  rw [show Int.fdiv (A:Int) 128 = ((A / 128:Nat):Int) by rw [Int.fdiv_eq_ediv_of_nonneg _ (by omega)]; omega,bits_xor_u64_nat _ _ lA (by omega),hB]
 have e3:bits .xor .u64 (B:Int) (IntKind.u64.wrap ((B:Int) * 131072)) = (C:Int):=by
  rw [IntKind.wrap_u64,show ((B:Int) * 131072 % 18446744073709551616) = ((B * 131072 % 18446744073709551616:Nat):Int) by omega,bits_xor_u64_nat _ _ lB (by omega),hC]
 rw [hr]
 refine QAF c172_ok rfl ?_
 unfold c172
 simp +decide -dsimp -implicitDefEqProofs [go_sem,e1,e2,e3]
theorem QIo (x:Nat) (h:x < 2 ^ 64):Lib.bitLen x = bitsLen x:=by
 induction x using Nat.strongRecOn with
 | _ x ih=>
  by_cases h0:x = 0
  ·subst h0; rfl
  ·rw [Lib.bitLen_half x h0 h,ih (x / 2) (by omega) (by omega)]
   unfold bitsLen
   rw [if_neg h0,Nat.log2_def x]
   by_cases h2:2 ≤ x
   ·rw [if_pos h2,if_neg (by omega)]; omega
   ·obtain rfl:x = 1:=by omega
    simp
theorem QJb (k:Nat) (hk:k ≤ 62):IntKind.u64.wrap ((2:Int) ^ k) = ((1 <<< k:Nat):Int):=by
 have h:(2:Nat) ^ k ≤ 2 ^ 62:=Nat.pow_le_pow_right (by decide) hk
 rw [IntKind.wrap_u64,Nat.one_shiftLeft,show ((2:Int) ^ k) = ((2 ^ k:Nat):Int) by push_cast; rfl]
 generalize (2:Nat) ^ k = p at h
 omega
theorem QO3 (n:Nat) (h:n ≤ 1000000):ACalls Tryz.prog 171 [.int .i64 n] [] (.int .u64 ((1 <<< bitsLen n:Nat):Int)) []:=by
 have cl:=QVq n h
 rw [QIo n (by omega)] at cl
 have hk:bitsLen n ≤ 62:=(bitsLen_le_iff n 62).2 (by omega)
 have hp:=QJb (bitsLen n) hk
 have hm:min (bitsLen n) 64 = bitsLen n:=by omega
 have w:IntKind.u64.wrap (n:Int) = n:=QNN (by omega) (by omega)
 refine QAF c171_ok rfl ?_
 unfold c171
 simp +decide -dsimp -implicitDefEqProofs [go_sem,w]
 refine QAA cl rfl rfl ?_
 simp +decide -dsimp -implicitDefEqProofs [go_sem,hm,hp]
end Go.Ab
namespace Go.Ab
open Go Go.Proofs Go.Sort
def bkS (d:Array Rcd) (a l M i0:Nat):Nat → UInt64 × Array Rcd
 | 0=>(UInt64.ofNat l,d)
 | t + 1=>breakStep a l M (bkS d a l M i0 t) (i0 + t)
def QFz (_a l M X:Nat):Nat:=if X &&& (M - 1) ≥ l then (X &&& (M - 1)) - l else X &&& (M - 1)
theorem QGm (d:Array Rcd) (a l M:Nat) (r:UInt64) (idx:Nat):breakStep a l M (r,d) idx = (xorNext r,swp d idx (a + QFz a l M (xorNextN r.toNat))):=by
 unfold breakStep QFz
 rw [← xorNext_toNat]
theorem QMX {a l M X:Nat} (h1:1 ≤ M) (h2:M ≤ 2 * l):QFz a l M X < l:=by
 have h:X &&& (M - 1) ≤ M - 1:=Nat.and_le_right
 unfold QFz
 split <;> omega
theorem QQe (d0:Array Rcd) (a b:Nat) (hn:d0.size ≤ 100000) (h0:okP d0) (hab:a ≤ b) (hb:b ≤ d0.size):
  ACalls Tryz.prog 131 [.own 0 d0.size,.int .i64 a,.int .i64 b,.fn (.func 60) [] []] [rgO d0] (.tup []) [rgO (breakPatterns d0 a b)]:=by
 obtain ⟨n,hN⟩:∃ n,n = d0.size:=⟨_,rfl⟩
 rw [← hN] at hn hb ⊢
 obtain ⟨l,hl⟩:∃ x,x = b - a:=⟨_,rfl⟩
 have wl:IntKind.i64.wrap ((b:Int) - (a:Int)) = (l:Int):=by rw [w64 (by omega) (by omega)]; omega
 by_cases h8:l ≥ 8
 rotate_left
 ·have h8i:¬ (8:Int) ≤ (l:Int):=by omega
  have:breakPatterns d0 a b = d0:=by unfold breakPatterns; rw [← hl]; simp only [if_neg h8]
  rw [this]
  refine QAF c131_ok rfl ?_
  unfold c131 rgO
  simp +decide -dsimp -implicitDefEqProofs [go_sem,wl,h8i]
  exact QAG _ _
 have h8i:(8:Int) ≤ (l:Int):=by omega
 obtain ⟨M,hM⟩:∃ M,M = 1 <<< bitsLen l:=⟨_,rfl⟩
 have hM1:1 ≤ M:=by rw [hM,Nat.one_shiftLeft]; exact Nat.one_le_two_pow
 have hM2:M ≤ 2 * l:=by rw [hM,Nat.one_shiftLeft]; exact two_pow_bitsLen_le (by omega)
 obtain ⟨q,hq⟩:∃ x,x = l / 4:=⟨_,rfl⟩
 obtain ⟨i0,hi0⟩:∃ x,x = a + q * 2 - 1:=⟨_,rfl⟩
 have hbp:breakPatterns d0 a b = (bkS d0 a l M i0 3).2:=by
  unfold breakPatterns
  simp only [← hl,if_pos h8,← hM,← hq,← hi0,bkS,Nat.add_zero]
 rw [hbp]
 have cn:=QO3 l (by omega)
 rw [← hM] at cn
 have hq1:l ≤ q * 4 + 3:=by omega
 have hq2:2 ≤ q:=by omega
 have hq4:q * 4 ≤ l:=by omega
 have wq:IntKind.i64.wrap ((l:Int) / 4) = (q:Int):=by
  rw [show (l:Int) / 4 = ((l / 4:Nat):Int) from rfl,← hq]; exact w64 (by omega) (by omega)
 have wq2:IntKind.i64.wrap ((q:Int) * 2) = (q:Int) * 2:=w64 (by omega) (by omega)
 have wq3:IntKind.i64.wrap ((a:Int) + (q:Int) * 2) = (a:Int) + (q:Int) * 2:=w64 (by omega) (by omega)
 have wq4:IntKind.i64.wrap ((a:Int) + (q:Int) * 2 - 1) = (i0:Int):=by rw [w64 (by omega) (by omega)]; omega
 have wq5:IntKind.i64.wrap ((a:Int) + (q:Int) * 2 + 1) = (a:Int) + (q:Int) * 2 + 1:=w64 (by omega) (by omega)
 have wu:IntKind.u64.wrap (l:Int) = l:=QNN (by omega) (by omega)
 have wM:IntKind.u64.wrap ((M:Int) - 1) = ((M - 1:Nat):Int):=by rw [QNN (by omega) (by omega)]; omega
 have hln:(UInt64.ofNat l).toNat = l:=by rw [UInt64.toNat_ofNat']; exact Nat.mod_eq_of_lt (by omega)
 have hrr:=QDQ
 have hok:∀ t,t ≤ 3 → (bkS d0 a l M i0 t).2.size = n ∧ okP (bkS d0 a l M i0 t).2:=by
  intro t
  induction t with
  | zero=>intro _; exact ⟨hN.symm,h0⟩
  | succ t ih=>
   intro ht
   obtain ⟨z,o⟩:=ih (by omega)
   rw [bkS]
   generalize bkS d0 a l M i0 t = s at z o
   obtain ⟨r,d⟩:=s
   simp only at z o
   have:=QMX (a:=a) (X:=xorNextN r.toNat) hM1 hM2
   rw [QGm]
   exact ⟨by show (swp d _ _).size = n; rw [QA2,z],QBj o (by omega) (by omega)⟩
 have hf0:bkS d0 a l M i0 0 = (UInt64.ofNat l,d0):=rfl
 have hfs:∀ t,bkS d0 a l M i0 (t + 1) = breakStep a l M (bkS d0 a l M i0 t) (i0 + t):=fun t=>rfl
 generalize bkS d0 a l M i0 = f at hok hf0 hfs ⊢
 obtain ⟨R,hR⟩:∃ R,R = (f 3).2:=⟨_,rfl⟩
 rw [← hR]
 clear hbp hM hq
 refine QAF c131_ok rfl ?_
 unfold c131 rgO
 simp +decide -dsimp -implicitDefEqProofs [go_sem,wl,h8i,wu]
 refine QAA cn rfl rfl ?_
 simp +decide -dsimp -implicitDefEqProofs [go_sem,wq,wq2,wq3,wq4]
 refine QAR (S:=Nat) (fun t=>⟨tmps 67 [(0,.own 0 n),(1,.int .i64 a),(2,.int .i64 b),(3,.fn (.func 60) [] []),(8,.int .i64 l),(9,.ptr 1 0),(10,.int .u64 M),(11,.int .i64 ((i0 + t:Nat):Int))],[.reg 34 12 (rows (f t).2),.box 208 [.int .u64 ((f t).1.toNat:Nat)]]⟩) (fun t=>3 - t)
  (fun t=>t ≤ 3) 0 (by omega) (QAD (by simp) ?_) ?_
 ·simp +decide -dsimp -implicitDefEqProofs [go_sem,hf0,hln]
  exact QAG _ _
 intro t ht
 obtain ⟨z,o⟩:=hok t ht
 by_cases h3:t < 3
 rotate_left
 ·obtain rfl:t = 3:=by omega
  have hi:¬ (i0:Int) + 3 ≤ (a:Int) + (q:Int) * 2 + 1:=by omega
  rw [← hR]
  simp +decide -dsimp -implicitDefEqProofs [go_sem,wq,wq2,wq3,wq5,hi]
  exact QAG _ _
 have hi:(i0:Int) + (t:Int) ≤ (a:Int) + (q:Int) * 2 + 1:=by omega
 have hft:=hfs t
 obtain ⟨s0,hs0⟩:∃ x,x = f t:=⟨_,rfl⟩
 rw [← hs0] at hft z o
 obtain ⟨r,d⟩:=s0
 simp only at z o
 obtain ⟨Y,hY⟩:∃ Y,Y = xorNextN r.toNat:=⟨_,rfl⟩
 have lX:r.toNat < 18446744073709551616:=r.toNat_lt
 have lY:Y < 18446744073709551616:=by rw [hY]; exact xorNextN_lt _ lX
 have cx:=QO2 r.toNat lX
 rw [QGm,← hY] at hft
 rw [← hY] at cx
 obtain ⟨O,hO⟩:∃ O,O = Y &&& (M - 1):=⟨_,rfl⟩
 have hO1:O ≤ M - 1:=by rw [hO]; exact Nat.and_le_right
 have ea:bits .and .u64 (Y:Int) ((M - 1:Nat):Int) = (O:Int):=by rw [bits_and_u64_nat _ _ lY (by omega),hO]
 have wO:IntKind.i64.wrap (O:Int) = (O:Int):=w64 (by omega) (by omega)
 obtain ⟨y,hy⟩:∃ y,y = a + QFz a l M Y:=⟨_,rfl⟩
 obtain ⟨x,hx⟩:∃ x,x = i0 + t:=⟨_,rfl⟩
 rw [← hy,← hx] at hft
 have hyl:=QMX (a:=a) (X:=Y) hM1 hM2
 have hxn:x < n:=by omega
 have hyn:y < n:=by omega
 have hle:(rows d).length = n:=by rw [QBH,z]
 have gx:=QAW (d:=d) (j:=x) (by omega) (by omega)
 have gy:=QAW (d:=d) (j:=y) (by omega) (by omega)
 have hsw:=QBd d x y
 have hxi:(i0:Int) + (t:Int) = (x:Int):=by omega
 have wx:IntKind.i64.wrap ((x:Int) + 1) = (i0:Int) + ((t:Int) + 1):=by rw [w64 (by omega) (by omega)]; omega
 rw [hxi] at hi
 have hxn2:(f (t + 1)).1.toNat = Y:=by rw [hft,hY,← xorNext_toNat]
 rw [← hs0]
 simp +decide -dsimp -implicitDefEqProofs [go_sem,wq,wq2,wq3,wq5,hi,hxi]
 refine QAB [1] cx rfl rfl (by simp) (by simp +decide -dsimp -implicitDefEqProofs [go_sem]) (by simp +decide -dsimp -implicitDefEqProofs [go_sem]) ?_
 by_cases hOl:O ≥ l
 ·have hOi:(l:Int) ≤ (O:Int):=by omega
  have hyo:QFz a l M Y = O - l:=by unfold QFz; rw [← hO,if_pos hOl]
  have wd:IntKind.i64.wrap ((O:Int) - (l:Int)) = ((O - l:Nat):Int):=by rw [w64 (by omega) (by omega)]; omega
  have wy:IntKind.i64.wrap ((a:Int) + ((O - l:Nat):Int)) = (y:Int):=by rw [w64 (by omega) (by omega)]; omega
  simp +decide -dsimp -implicitDefEqProofs [go_sem,wM,ea,wO,hOi,wd,wy,hle,hxn,hyn,gx,gy,QAN,QAP,QA3,QAq,QAm,wx]
  rw [hsw]
  refine QAI (t + 1) (by show t + 1 ≤ 3; omega) (by show 3 - (t + 1) < 3 - t; omega) (QAD (by simp) ?_)
  rw [hft] at hxn2 ⊢
  simp +decide -dsimp -implicitDefEqProofs [go_sem,hxn2]
  exact QAG _ _
 ·have hOi:¬ (l:Int) ≤ (O:Int):=by omega
  have hyo:QFz a l M Y = O:=by unfold QFz; rw [← hO,if_neg hOl]
  have wy:IntKind.i64.wrap ((a:Int) + (O:Int)) = (y:Int):=by rw [w64 (by omega) (by omega)]; omega
  simp +decide -dsimp -implicitDefEqProofs [go_sem,wM,ea,wO,hOi,wy,hle,hxn,hyn,gx,gy,QAN,QAP,QA3,QAq,QAm,wx]
  rw [hsw]
  refine QAI (t + 1) (by show t + 1 ≤ 3; omega) (by show 3 - (t + 1) < 3 - t; omega) (QAD (by simp) ?_)
  rw [hft] at hxn2 ⊢
  simp +decide -dsimp -implicitDefEqProofs [go_sem,hxn2]
  exact QAG _ _
end Go.Ab
namespace Go.Ab
open Go Go.Proofs Go.Sort
theorem QFI {a b:Nat} {d d':Array Rcd} (hb:b ≤ d.size) (h:PermIn a b d d') (ho:okP d):okP d' ∧ d'.size = d.size:=by
 refine ⟨fun x hx=>?_,h.1⟩
 obtain ⟨i,hi,rfl⟩:=List.getElem_of_mem hx
 have hi2:i < d'.size:=by simpa using hi
 have hd:i < d.size:=by rw [← h.1]; exact hi2
 have e:d'.toList[i] = d'[i]!:=by rw [getElem!_pos d' i hi2]; simp
 rw [e]
 by_cases hi3:a ≤ i ∧ i < b
 ·exact permIn_all d d' a b (fun x=>QAd x.path = true) hb h (fun j _ hj=>QA9 ho (by omega)) i hi3.1 hi3.2
 ·rw [h.2.1 i (by omega)]
  exact QA9 ho hd
theorem QV1 (a b n:Nat) (hb:b ≤ n):∀ (s i:Nat) (d:Array Rcd),a + 1 ≤ i → i ≤ b → d.size = n → okP d → okP (partialIns ltR a b s i d).1 ∧ (partialIns ltR a b s i d).1.size = n
 | 0,i,d,_,_,hd,ho=>⟨ho,hd⟩
 | s + 1,i,d,h1,h2,hd,ho=>by
  rw [partialIns_succ]
  obtain ⟨b1,b2⟩:=QR5 (lt:=ltR) (d:=d) (b:=b) _ i (Nat.le_refl _) h2
  generalize scanSorted ltR d b i = k at b1 b2
  by_cases hk:k = b
  ·rw [if_pos hk]; exact ⟨ho,hd⟩
  ·rw [if_neg hk]
   by_cases h50:b - a < 50
   ·rw [if_pos h50]; exact ⟨ho,hd⟩
   ·rw [if_neg h50]
    have o1:okP (swp d k (k - 1)):=QBj ho (by omega) (by omega)
    have z1:(swp d k (k - 1)).size = n:=by rw [QA2,hd]
    generalize swp d k (k - 1) = e1 at o1 z1
    have o2:okP (fixDown ltR a k e1) ∧ (fixDown ltR a k e1).size = n:=by
     unfold fixDown
     split
     ·have:=QR3 (k - 1) e1 (by omega) o1; rw [z1] at this; exact this
     ·exact ⟨o1,z1⟩
    generalize fixDown ltR a k e1 = e2 at o2
    have o3:okP (fixUp ltR b k e2) ∧ (fixUp ltR b k e2).size = n:=by
     unfold fixUp
     split
     ·have:=QR4 b _ (k + 1) e2 (Nat.le_refl _) (by omega) (by omega) o2.1; rw [o2.2] at this; exact this
     ·exact o2
    exact QV1 a b n hb s k _ (by omega) b2 o3.2 o3.1
theorem QRY (d:Array Rcd) (a b p:Nat) (ho:okP d) (hap:a ≤ p) (hpb:p < b) (hb:b ≤ d.size):
  a < (partitionEqual ltR d a b p).1 ∧ (partitionEqual ltR d a b p).1 ≤ b ∧ okP (partitionEqual ltR d a b p).2 ∧ (partitionEqual ltR d a b p).2.size = d.size:=by
 have hz:b ≤ (swp d a p).size:=by rw [QA2]; exact hb
 obtain ⟨r1,r2,r3,_,_⟩:=partEqLoop_spec ltR a b _ (a + 1) (b - 1) (swp d a p) (Nat.le_refl _) (Nat.lt_succ_self a) (by omega) (by omega) hz (fun t h1 h2=>by omega) (fun t h1 h2=>by omega)
 have:=QFI hz r3 (QBj ho (by omega) (by omega))
 rw [QA2] at this
 exact ⟨r1,r2,this.1,this.2⟩
theorem QV2 (d:Array Rcd) (a b p:Nat) (ho:okP d) (hap:a ≤ p) (hpb:p < b) (hb:b ≤ d.size):
  a ≤ (Go.Sort.partition ltR d a b p).1 ∧ (Go.Sort.partition ltR d a b p).1 < b ∧ okP (Go.Sort.partition ltR d a b p).2.2 ∧ (Go.Sort.partition ltR d a b p).2.2.size = d.size:=by
 obtain ⟨r1,r2,r3,_,_⟩:=partition_holds ltR QEh d a b p hap hpb hb
 have:=QFI hb r3 ho
 exact ⟨r1,r2,this.1,this.2⟩
end Go.Ab
namespace Go.Ab
open Go Go.Proofs Go.Sort
theorem QV3 (d:Array Rcd) (a b limit:Nat) (wb wp:Bool) (ho:okP d) (hab:a < b) (hb:b ≤ d.size):
  okP (rd ltR d a b limit wb wp).d1 ∧ (rd ltR d a b limit wb wp).d1.size = d.size ∧ okP (rd ltR d a b limit wb wp).d2 ∧ (rd ltR d a b limit wb wp).d2.size = d.size ∧
  okP (rd ltR d a b limit wb wp).pi.1 ∧ (rd ltR d a b limit wb wp).pi.1.size = d.size ∧ a ≤ (rd ltR d a b limit wb wp).pivot ∧ (rd ltR d a b limit wb wp).pivot < b ∧ (rd ltR d a b limit wb wp).lim ≤ limit:=by
 unfold rd
 simp only
 have h1:okP (if (!wb) = true then breakPatterns d a b else d) ∧ (if (!wb) = true then breakPatterns d a b else d).size = d.size:=by
  split
  ·exact QFI hb (breakPatterns_holds d a b (by omega) hb) ho
  ·exact ⟨ho,rfl⟩
 generalize (if (!wb) = true then breakPatterns d a b else d) = d1 at h1 ⊢
 obtain ⟨o1,z1⟩:=h1
 obtain ⟨c1,c2⟩:=choosePivot_holds ltR d1 a b hab
 generalize choosePivot ltR d1 a b = c at c1 c2 ⊢
 have h2:okP (if c.2 = .decreasing then reverseRange d1 a b else d1) ∧ (if c.2 = .decreasing then reverseRange d1 a b else d1).size = d.size:=by
  split
  ·have:=QFI (by omega) (reverseRange_holds d1 a b (by omega) (by omega)) o1
   rw [z1] at this; exact this
  ·exact ⟨o1,z1⟩
 generalize (if c.2 = .decreasing then reverseRange d1 a b else d1) = d2 at h2 ⊢
 obtain ⟨o2,z2⟩:=h2
 refine ⟨o1,z1,o2,z2,?_⟩
 have h3:∀ (q:Bool),okP (if q = true then partialInsertionSort ltR d2 a b else (d2,false)).1 ∧ (if q = true then partialInsertionSort ltR d2 a b else (d2,false)).1.size = d.size:=by
  intro q
  split
  ·exact QV1 a b d.size hb 5 (a + 1) d2 (Nat.le_refl _) (by omega) z2 o2
  ·exact ⟨o2,z2⟩
 refine ⟨(h3 _).1,(h3 _).2,?_,?_,?_⟩
 ·split <;> omega
 ·split <;> omega
 ·split <;> omega
theorem QQf {h:Hint} (hh:¬ h = .increasing):¬ (QDW h:Int) = 1:=by cases h <;> simp_all [QDW]
theorem QV4:∀ (N:Nat) (d0:Array Rcd) (a0 b0 limit0:Nat),b0 - a0 < N → d0.size ≤ 100000 → okP d0 → a0 ≤ b0 → b0 ≤ d0.size → limit0 ≤ 1000 →
  ACalls Tryz.prog 94 [.own 0 d0.size,.int .i64 a0,.int .i64 b0,.int .i64 limit0,.fn (.func 60) [] []] [rgO d0] (.tup []) [rgO (pdq ltR d0 a0 b0 limit0 true true)] ∧
  okP (pdq ltR d0 a0 b0 limit0 true true) ∧ (pdq ltR d0 a0 b0 limit0 true true).size = d0.size:=by
 have hrr:=QDQ
 intro N
 induction N with
 | zero=>intro d0 a b limit h; omega
 | succ N ih=>
 intro d0 a0 b0 limit0 hN hn h0 hab0 hb0 hl0
 have hok:∀ (k:Nat) (d:Array Rcd) (a b limit:Nat) (wb wp:Bool),b - a ≤ k → b - a < N + 1 → okP d → d.size = d0.size → a ≤ b → b ≤ d0.size → limit ≤ 1000 → okP (pdq ltR d a b limit wb wp) ∧ (pdq ltR d a b limit wb wp).size = d0.size:=by
  intro k
  induction k with
  | zero=>
   intro d a b limit wb wp hk _ ho hz hab hb _
   rw [pdq_unfold,if_pos (by omega)]
   have:=QFI (b:=b) (by omega) (insertionSort_holds QEh d a b hab (by omega)).1 ho
   rw [hz] at this; exact this
  | succ k ihk=>
   intro d a b limit wb wp hk hkN ho hz hab hb hl
   rw [pdq_unfold]
   by_cases h12:b - a ≤ 12
   ·rw [if_pos h12]
    have:=QFI (b:=b) (by omega) (insertionSort_holds QEh d a b hab (by omega)).1 ho
    rw [hz] at this; exact this
   rw [if_neg h12]
   by_cases hl0:limit = 0
   ·rw [if_pos hl0]
    have:=QFI (b:=b) (by omega) (heapSort_holds QEh d a b hab (by omega)).1 ho
    rw [hz] at this; exact this
   rw [if_neg hl0]
   obtain ⟨_,_,_,_,o3,z3,p1,p2,l1⟩:=QV3 d a b limit wb wp ho (by omega) (by omega)
   generalize rd ltR d a b limit wb wp = r at o3 z3 p1 p2 l1 ⊢
   rw [hz] at z3
   split
   ·exact ⟨o3,z3⟩
   split
   ·obtain ⟨m1,m2,o4,z4⟩:=QRY r.pi.1 a b r.pivot o3 p1 p2 (by omega)
    rw [if_pos ⟨m1,m2⟩]
    exact ihk _ _ _ _ _ _ (by omega) (by omega) o4 (by rw [z4,z3]) (by omega) hb (by omega)
   ·obtain ⟨m1,m2,o4,z4⟩:=QV2 r.pi.1 a b r.pivot o3 p1 p2 (by omega)
    rw [if_pos ⟨m1,m2⟩]
    generalize Go.Sort.partition ltR r.pi.1 a b r.pivot = t at m1 m2 o4 z4 ⊢
    rw [z3] at z4
    split
    ·obtain ⟨_,o5,z5⟩:=ih t.2.2 a t.1 r.lim (by omega) (by omega) o4 m1 (by omega) (by omega)
     exact ihk _ _ _ _ _ _ (by omega) (by omega) o5 (by rw [z5,z4]) (by omega) hb (by omega)
    ·obtain ⟨_,o5,z5⟩:=ih t.2.2 (t.1 + 1) b r.lim (by omega) (by omega) o4 (by omega) (by omega) (by omega)
     exact ihk _ _ _ _ _ _ (by omega) (by omega) o5 (by rw [z5,z4]) (by omega) (by omega) (by omega)
 refine ⟨?_,hok _ d0 a0 b0 limit0 true true (Nat.le_refl _) hN h0 rfl hab0 hb0 hl0⟩
 clear hok
 obtain ⟨n,hnn⟩:∃ n,n = d0.size:=⟨_,rfl⟩
 rw [← hnn] at hn hb0 ⊢
 obtain ⟨E,hE⟩:∃ E,E = pdq ltR d0 a0 b0 limit0 true true:=⟨_,rfl⟩
 rw [← hE]
 refine QBw c94_ok rfl ?_
 unfold c94 rgO
 refine QAL ⟨tmps 148 [(0,.own 0 n),(1,.int .i64 a0),(2,.int .i64 b0),(3,.int .i64 limit0),(4,.fn (.func 60) [] []),(10,.bool true)],[.reg 34 12 (rows d0)]⟩ (QAJ ?_) ?_
 ·simp +decide -dsimp -implicitDefEqProofs [go_sem]
  refine QAH (by simp) ?_
  simp +decide -dsimp -implicitDefEqProofs [go_sem]
  exact QAG _ _
 refine QAL ⟨tmps 148 [(0,.own 0 n),(1,.int .i64 a0),(2,.int .i64 b0),(3,.int .i64 limit0),(4,.fn (.func 60) [] []),(10,.bool true),(11,.bool true)],[.reg 34 12 (rows d0)]⟩ (QAJ ?_) ?_
 ·simp +decide -dsimp -implicitDefEqProofs [go_sem]
  refine QAH (by simp) ?_
  simp +decide -dsimp -implicitDefEqProofs [go_sem]
  exact QAG _ _
 refine QBm (QAJ ?_)
 simp +decide -dsimp -implicitDefEqProofs [go_sem]
 refine QFp (S:=Nat × Nat × Nat × Bool × Bool × Array Rcd) (fun s=>⟨tmps 148 [(0,.own 0 n),(1,.int .i64 s.1),(2,.int .i64 s.2.1),(3,.int .i64 s.2.2.1),(4,.fn (.func 60) [] []),(10,.bool s.2.2.2.1),(11,.bool s.2.2.2.2.1)],[.reg 34 12 (rows s.2.2.2.2.2)]⟩) (fun s=>s.2.1 - s.1) (fun s=>s.1 ≤ s.2.1 ∧ s.2.1 ≤ n ∧ s.2.1 - s.1 ≤ N ∧ s.2.2.1 ≤ 1000 ∧ s.2.2.2.2.2.size = n ∧ okP s.2.2.2.2.2 ∧ E = pdq ltR s.2.2.2.2.2 s.1 s.2.1 s.2.2.1 s.2.2.2.1 s.2.2.2.2.1) (a0,b0,limit0,true,true,d0) ⟨hab0,hb0,by show b0 - a0 ≤ N; omega,hl0,hnn.symm,h0,hE⟩ (QAD (by simp) ?_) ?_
 ·
  simp +decide -dsimp -implicitDefEqProofs [go_sem]
  exact QAG _ _
 rintro ⟨a,b,limit,wb,wp,d⟩ ⟨q1,q2,q3,q4,q5,q6,q7⟩
 simp only at q1 q2 q3 q4 q5 q6 q7
 clear hE hnn hab0 hb0 hl0 hN h0
 obtain ⟨l,hl⟩:∃ l,l = b - a:=⟨_,rfl⟩
 have wl:IntKind.i64.wrap ((b:Int) - (a:Int)) = (l:Int):=by rw [w64 (by omega) (by omega)]; omega
 rw [pdq_unfold] at q7
 refine QBm ?_
 refine QAL ⟨tmps 148 [(0,.own 0 n),(1,.int .i64 a),(2,.int .i64 b),(3,.int .i64 limit),(4,.fn (.func 60) [] []),(10,.bool wb),(11,.bool wp),(12,.int .i64 l)],[.reg 34 12 (rows d)]⟩ (QAJ ?_) ?_
 ·simp +decide -dsimp -implicitDefEqProofs [go_sem,wl]
  refine QAH (by simp) ?_
  simp +decide -dsimp -implicitDefEqProofs [go_sem]
  exact QAG _ _
 by_cases h12:b - a ≤ 12
 ·rw [if_pos h12] at q7
  have h12i:(l:Int) ≤ 12:=by omega
  have ci:=QJ5 d a b (by omega) q6 q1 (by omega)
  rw [q5] at ci
  unfold rgO at ci
  subst q7
  refine QAJ ?_
  simp +decide -dsimp -implicitDefEqProofs [go_sem,h12i]
  refine QAB [0] ci rfl rfl (by simp) (by simp +decide -dsimp -implicitDefEqProofs [go_sem]) (by simp +decide -dsimp -implicitDefEqProofs [go_sem,hrr]) ?_
  simp +decide -dsimp -implicitDefEqProofs [go_sem,hrr]
  exact QAG _ _
 rw [if_neg h12] at q7
 have h12i:¬ (l:Int) ≤ 12:=by omega
 refine QAL ⟨tmps 148 [(0,.own 0 n),(1,.int .i64 a),(2,.int .i64 b),(3,.int .i64 limit),(4,.fn (.func 60) [] []),(10,.bool wb),(11,.bool wp),(12,.int .i64 l)],[.reg 34 12 (rows d)]⟩ (QAJ ?_) ?_
 ·simp +decide -dsimp -implicitDefEqProofs [go_sem,h12i]
  refine QAH (by simp) ?_
  simp +decide -dsimp -implicitDefEqProofs [go_sem]
  exact QAG _ _
 by_cases hz:limit = 0
 ·rw [if_pos hz] at q7
  have ci:=QNE d a b (by omega) q6 q1 (by omega)
  rw [q5] at ci
  unfold rgO at ci
  subst q7
  subst hz
  refine QAJ ?_
  simp +decide -dsimp -implicitDefEqProofs [go_sem]
  refine QAB [0] ci rfl rfl (by simp) (by simp +decide -dsimp -implicitDefEqProofs [go_sem]) (by simp +decide -dsimp -implicitDefEqProofs [go_sem,hrr]) ?_
  simp +decide -dsimp -implicitDefEqProofs [go_sem,hrr]
  exact QAG _ _
 rw [if_neg hz] at q7
 have hzi:¬ (limit:Int) = 0:=by omega
 refine QAL ⟨tmps 148 [(0,.own 0 n),(1,.int .i64 a),(2,.int .i64 b),(3,.int .i64 limit),(4,.fn (.func 60) [] []),(10,.bool wb),(11,.bool wp),(12,.int .i64 l)],[.reg 34 12 (rows d)]⟩ (QAJ ?_) ?_
 ·simp +decide -dsimp -implicitDefEqProofs [go_sem,hz]
  refine QAH (by simp) ?_
  simp +decide -dsimp -implicitDefEqProofs [go_sem]
  exact QAG _ _
 obtain ⟨o1,z1,o2,z2,o3,z3,p1,p2,l1⟩:=QV3 d a b limit wb wp q6 (by omega) (by omega)
 rw [q5] at z1 z2 z3
 obtain ⟨d1,h_d1⟩:∃ x,x = (rd ltR d a b limit wb wp).d1:=⟨_,rfl⟩
 obtain ⟨lim,h_lim⟩:∃ x,x = (rd ltR d a b limit wb wp).lim:=⟨_,rfl⟩
 obtain ⟨c,h_c⟩:∃ x,x = (rd ltR d a b limit wb wp).c:=⟨_,rfl⟩
 obtain ⟨d2,h_d2⟩:∃ x,x = (rd ltR d a b limit wb wp).d2:=⟨_,rfl⟩
 obtain ⟨pv,h_pv⟩:∃ x,x = (rd ltR d a b limit wb wp).pivot:=⟨_,rfl⟩
 obtain ⟨hint,h_hint⟩:∃ x,x = (rd ltR d a b limit wb wp).hint:=⟨_,rfl⟩
 obtain ⟨pi,h_pi⟩:∃ x,x = (rd ltR d a b limit wb wp).pi:=⟨_,rfl⟩
 rw [← h_d1] at o1 z1
 rw [← h_d2] at o2 z2
 rw [← h_pi] at o3 z3 q7
 rw [← h_pv] at p1 p2 q7
 rw [← h_lim] at l1 q7
 have h_d1:d1 = (if (!wb) = true then breakPatterns d a b else d):=h_d1
 have h_lim:lim = (if (!wb) = true then limit - 1 else limit):=h_lim
 have h_c:c = choosePivot ltR (if (!wb) = true then breakPatterns d a b else d) a b:=h_c
 rw [← h_d1] at h_c
 have h_d2:d2 = (if (choosePivot ltR (if (!wb) = true then breakPatterns d a b else d) a b).2 = .decreasing then reverseRange (if (!wb) = true then breakPatterns d a b else d) a b else (if (!wb) = true then breakPatterns d a b else d)):=h_d2
 rw [← h_d1,← h_c] at h_d2
 have h_pv:pv = (if (choosePivot ltR (if (!wb) = true then breakPatterns d a b else d) a b).2 = .decreasing then (b - 1) - ((choosePivot ltR (if (!wb) = true then breakPatterns d a b else d) a b).1 - a) else (choosePivot ltR (if (!wb) = true then breakPatterns d a b else d) a b).1):=h_pv
 rw [← h_d1,← h_c] at h_pv
 have h_hint:hint = (if (choosePivot ltR (if (!wb) = true then breakPatterns d a b else d) a b).2 = .decreasing then Hint.increasing else (choosePivot ltR (if (!wb) = true then breakPatterns d a b else d) a b).2):=h_hint
 rw [← h_d1,← h_c] at h_hint
 have h_pi:pi = (if (wb && wp && decide ((rd ltR d a b limit wb wp).hint = .increasing)) = true then partialInsertionSort ltR (rd ltR d a b limit wb wp).d2 a b else ((rd ltR d a b limit wb wp).d2,false)):=h_pi
 have e_hint:(rd ltR d a b limit wb wp).hint = hint:=by rw [h_hint,h_c,h_d1]; rfl
 have e_d2:(rd ltR d a b limit wb wp).d2 = d2:=by rw [h_d2,h_c,h_d1]; rfl
 rw [e_hint,e_d2] at h_pi
 clear e_hint e_d2
 refine QAL ⟨tmps 148 [(0,.own 0 n),(1,.int .i64 a),(2,.int .i64 b),(3,.int .i64 lim),(4,.fn (.func 60) [] []),(10,.bool wb),(11,.bool wp),(12,.int .i64 l)],[.reg 34 12 (rows d1)]⟩ (QAJ ?_) ?_
 ·cases wb with
  | true=>
   have h_d1:d1 = d:=h_d1
   have h_lim:lim = limit:=h_lim
   subst h_d1; subst h_lim
   simp +decide -dsimp -implicitDefEqProofs [go_sem]
   refine QAH (by simp) ?_
   simp +decide -dsimp -implicitDefEqProofs [go_sem]
   exact QAG _ _
  | false=>
   have h_d1:d1 = breakPatterns d a b:=h_d1
   have h_lim:(lim:Int) = (limit:Int) - 1:=by have:lim = limit - 1:=h_lim; omega
   have wz:IntKind.i64.wrap ((limit:Int) - 1) = (lim:Int):=by rw [w64 (by omega) (by omega)]; omega
   have cb:=QQe d a b (by omega) q6 q1 (by omega)
   rw [q5,← h_d1] at cb
   unfold rgO at cb
   simp +decide -dsimp -implicitDefEqProofs [go_sem]
   refine QAB [0] cb rfl rfl (by simp) (by simp +decide -dsimp -implicitDefEqProofs [go_sem]) (by simp +decide -dsimp -implicitDefEqProofs [go_sem,hrr]) ?_
   simp +decide -dsimp -implicitDefEqProofs [go_sem,hrr,wz]
   refine QAH (by simp) ?_
   simp +decide -dsimp -implicitDefEqProofs [go_sem]
   exact QAG _ _
 obtain ⟨cp,cp1⟩:=QR2 d1 a b (by omega) o1 (by omega) (by omega)
 obtain ⟨cq1,cq2⟩:=choosePivot_holds ltR d1 a b (by omega)
 rw [z1,← h_c] at cp
 rw [← h_c] at cq1 cq2
 unfold rgO at cp
 refine QAL ⟨tmps 148 [(0,.own 0 n),(1,.int .i64 a),(2,.int .i64 b),(3,.int .i64 lim),(4,.fn (.func 60) [] []),(10,.bool wb),(11,.bool wp),(12,.int .i64 l),(13,.int .i64 c.1),(14,.int .i64 (QDW c.2:Nat))],[.reg 34 12 (rows d1)]⟩ (QAJ ?_) ?_
 ·simp +decide -dsimp -implicitDefEqProofs [go_sem]
  refine QAB [0] cp rfl rfl (by simp) (by simp +decide -dsimp -implicitDefEqProofs [go_sem]) (by simp +decide -dsimp -implicitDefEqProofs [go_sem,hrr]) ?_
  simp +decide -dsimp -implicitDefEqProofs [go_sem,hrr]
  refine QAH (by simp) ?_
  simp +decide -dsimp -implicitDefEqProofs [go_sem]
  exact QAG _ _
 refine QAL ⟨tmps 148 [(0,.own 0 n),(1,.int .i64 a),(2,.int .i64 b),(3,.int .i64 lim),(4,.fn (.func 60) [] []),(10,.bool wb),(11,.bool wp),(12,.int .i64 l),(13,.int .i64 pv),(14,.int .i64 (QDW hint:Nat))],[.reg 34 12 (rows d2)]⟩ (QAJ ?_) ?_
 ·by_cases hdec:c.2 = .decreasing
  ·rw [if_pos hdec] at h_d2 h_pv h_hint
   obtain ⟨cr,_⟩:=QN2 d1 a b (by omega) o1 (by omega) (by omega)
   rw [z1,← h_d2] at cr
   unfold rgO at cr
   have w1:IntKind.i64.wrap ((b:Int) - 1) = (b:Int) - 1:=w64 (by omega) (by omega)
   have w2:IntKind.i64.wrap ((c.1:Int) - (a:Int)) = (c.1:Int) - a:=w64 (by omega) (by omega)
   have w3:IntKind.i64.wrap ((b:Int) - 1 - ((c.1:Int) - (a:Int))) = (pv:Int):=by rw [w64 (by omega) (by omega)]; omega
   subst h_hint
   simp +decide -dsimp -implicitDefEqProofs [go_sem,hdec,QDW]
   refine QAB [0] cr rfl rfl (by simp) (by simp +decide -dsimp -implicitDefEqProofs [go_sem]) (by simp +decide -dsimp -implicitDefEqProofs [go_sem,hrr]) ?_
   simp +decide -dsimp -implicitDefEqProofs [go_sem,hrr,w1,w2,w3,QDW]
   refine QAH (by simp) ?_
   simp +decide -dsimp -implicitDefEqProofs [go_sem]
   exact QAG _ _
  ·rw [if_neg hdec] at h_d2 h_pv h_hint
   have hn2:¬ (QDW c.2:Int) = 2:=by generalize c.2 = hh at hdec; cases hh <;> simp_all [QDW]
   subst h_d2; subst h_pv; subst h_hint
   simp +decide -dsimp -implicitDefEqProofs [go_sem,hn2]
   refine QAH (by simp) ?_
   simp +decide -dsimp -implicitDefEqProofs [go_sem]
   exact QAG _ _
 clear cp cp1 h_d2 h_pv h_hint h_c
 obtain ⟨dn,hdn⟩:∃ x,x = pi.2:=⟨_,rfl⟩
 rw [← hdn] at q7
 cases dn with
 | true=>
  rw [if_pos rfl] at q7
  by_cases hcc:wb = true ∧ wp = true ∧ hint = .increasing
  rotate_left
  ·rw [if_neg (by simp only [Bool.and_eq_true,decide_eq_true_eq]; exact fun hx=>hcc ⟨hx.1.1,hx.1.2,hx.2⟩)] at h_pi
   rw [h_pi] at hdn; cases hdn
  obtain ⟨rfl,rfl,rfl⟩:=hcc
  have h_pi:pi = partialInsertionSort ltR d2 a b:=h_pi
  have cs:=QGa d2 a b (by omega) o2 (by omega) (by omega)
  rw [z2,← h_pi,← hdn,← q7] at cs
  unfold rgO at cs
  refine QAJ ?_
  simp +decide -dsimp -implicitDefEqProofs [go_sem,QDW]
  refine QAB [0] cs rfl rfl (by simp) (by simp +decide -dsimp -implicitDefEqProofs [go_sem]) (by simp +decide -dsimp -implicitDefEqProofs [go_sem,hrr]) ?_
  simp +decide -dsimp -implicitDefEqProofs [go_sem,hrr]
  exact QAG _ _
 | false=>
 rw [if_neg (by decide)] at q7
 obtain ⟨d3,h_d3⟩:∃ x,x = pi.1:=⟨_,rfl⟩
 rw [← h_d3] at q7 o3 z3
 refine QAL ⟨tmps 148 [(0,.own 0 n),(1,.int .i64 a),(2,.int .i64 b),(3,.int .i64 lim),(4,.fn (.func 60) [] []),(10,.bool wb),(11,.bool wp),(12,.int .i64 l),(13,.int .i64 pv),(14,.int .i64 (QDW hint:Nat))],[.reg 34 12 (rows d3)]⟩ (QAJ ?_) ?_
 ·by_cases hcc:wb = true ∧ wp = true ∧ hint = .increasing
  ·obtain ⟨rfl,rfl,rfl⟩:=hcc
   have h_pi:pi = partialInsertionSort ltR d2 a b:=h_pi
   have cs:=QGa d2 a b (by omega) o2 (by omega) (by omega)
   rw [z2,← h_pi,← hdn,← h_d3] at cs
   unfold rgO at cs
   simp +decide -dsimp -implicitDefEqProofs [go_sem,QDW]
   refine QAB [0] cs rfl rfl (by simp) (by simp +decide -dsimp -implicitDefEqProofs [go_sem]) (by simp +decide -dsimp -implicitDefEqProofs [go_sem,hrr]) ?_
   simp +decide -dsimp -implicitDefEqProofs [go_sem,hrr]
   refine QAH (by simp) ?_
   simp +decide -dsimp -implicitDefEqProofs [go_sem,QDW]
   exact QAG _ _
  ·rw [if_neg (by simp only [Bool.and_eq_true,decide_eq_true_eq]; exact fun hx=>hcc ⟨hx.1.1,hx.1.2,hx.2⟩)] at h_pi
   rw [h_pi] at h_d3
   have h_d3:d3 = d2:=h_d3
   subst h_d3
   cases wb with
   | false=>
    simp +decide -dsimp -implicitDefEqProofs [go_sem]
    refine QAH (by simp) ?_
    simp +decide -dsimp -implicitDefEqProofs [go_sem]
    exact QAG _ _
   | true=>
    cases wp with
    | false=>
     simp +decide -dsimp -implicitDefEqProofs [go_sem]
     refine QAH (by simp) ?_
     simp +decide -dsimp -implicitDefEqProofs [go_sem]
     exact QAG _ _
    | true=>
     have hn1:¬ (QDW hint:Int) = 1:=QQf fun hx=>hcc ⟨rfl,rfl,hx⟩
     simp +decide -dsimp -implicitDefEqProofs [go_sem,hn1]
     refine QAH (by simp) ?_
     simp +decide -dsimp -implicitDefEqProofs [go_sem]
     exact QAG _ _
 clear h_pi h_d3 hdn o1 o2 z1 z2
 have hle:(rows d3).length = n:=by rw [QBH,z3]
 have hpn:pv < n:=by omega
 have wa1:0 < a → IntKind.i64.wrap ((a:Int) - 1) = ((a - 1:Nat):Int):=fun _=>by rw [w64 (by omega) (by omega)]; omega
 have gy:=QAW (d:=d3) (j:=pv) (by omega) (by omega)
 by_cases heq:(decide (a > 0) && !ltR d3[a - 1]! d3[pv]!) = true
 ·rw [if_pos heq] at q7
  obtain ⟨m1,m2,o4,z4⟩:=QRY d3 a b pv o3 p1 p2 (by omega)
  rw [if_pos ⟨m1,m2⟩] at q7
  have ce:=QI1 d3 a b pv (by omega) o3 p1 p2 (by omega)
  rw [z3] at ce z4
  generalize partitionEqual ltR d3 a b pv = t at q7 m1 m2 o4 z4 ce
  obtain ⟨mid,d4⟩:=t
  simp only at q7 m1 m2 o4 z4 ce
  unfold rgO at ce
  simp only [Bool.and_eq_true,decide_eq_true_eq] at heq
  obtain ⟨ha,hnl⟩:=heq
  have wa1:=wa1 ha
  have han:a - 1 < n:=by omega
  have gx:=QAW (d:=d3) (j:=a - 1) (by omega) (by omega)
  have cl:=QDH _ _ (QA9 o3 (j:=a - 1) (by omega)) (QA9 o3 (j:=pv) (by omega))
  have hlt:¬ QEv d3[a - 1]!.path d3[pv]!.path < 0:=by simpa [ltR] using hnl
  refine QAJ ?_
  simp +decide -dsimp -implicitDefEqProofs [go_sem,ha,wa1,hle,han,hpn,gx,gy,QAN,QAP]
  refine QAO cl (by simp +decide -dsimp -implicitDefEqProofs [go_sem,QAg]) rfl ?_
  simp +decide -dsimp -implicitDefEqProofs [go_sem,hlt]
  refine QAB [0] ce rfl rfl (by simp) (by simp +decide -dsimp -implicitDefEqProofs [go_sem]) (by simp +decide -dsimp -implicitDefEqProofs [go_sem,hrr]) ?_
  simp +decide -dsimp -implicitDefEqProofs [go_sem,hrr]
  refine QAI (mid,b,lim,wb,wp,d4) ⟨by show mid ≤ b; omega,q2,by show b - mid ≤ N; omega,by show lim ≤ 1000; omega,z4,o4,q7⟩ (by show b - mid < b - a; omega) (QAD (by simp) ?_)
  simp +decide -dsimp -implicitDefEqProofs [go_sem]
  exact QAG _ _
 rw [if_neg heq] at q7
 refine QAL ⟨tmps 148 [(0,.own 0 n),(1,.int .i64 a),(2,.int .i64 b),(3,.int .i64 lim),(4,.fn (.func 60) [] []),(10,.bool wb),(11,.bool wp),(12,.int .i64 l),(13,.int .i64 pv),(14,.int .i64 (QDW hint:Nat))],[.reg 34 12 (rows d3)]⟩ (QAJ ?_) ?_
 ·by_cases ha:0 < a
  rotate_left
  ·obtain rfl:a = 0:=by omega
   simp +decide -dsimp -implicitDefEqProofs [go_sem]
   refine QAH (by simp) ?_
   simp +decide -dsimp -implicitDefEqProofs [go_sem]
   exact QAG _ _
  have wa1:=wa1 ha
  have han:a - 1 < n:=by omega
  have gx:=QAW (d:=d3) (j:=a - 1) (by omega) (by omega)
  have cl:=QDH _ _ (QA9 o3 (j:=a - 1) (by omega)) (QA9 o3 (j:=pv) (by omega))
  have hlt:QEv d3[a - 1]!.path d3[pv]!.path < 0:=by
   cases hb:ltR d3[a - 1]! d3[pv]! with
   | true=>simpa [ltR] using hb
   | false=>rw [hb] at heq; exact absurd (by simp [ha]) heq
  simp +decide -dsimp -implicitDefEqProofs [go_sem,ha,wa1,hle,han,hpn,gx,gy,QAN,QAP]
  refine QAO cl (by simp +decide -dsimp -implicitDefEqProofs [go_sem,QAg]) rfl ?_
  simp +decide -dsimp -implicitDefEqProofs [go_sem,hlt]
  refine QAH (by simp) ?_
  simp +decide -dsimp -implicitDefEqProofs [go_sem]
  exact QAG _ _
 obtain ⟨m1,m2,o4,z4⟩:=QV2 d3 a b pv o3 p1 p2 (by omega)
 rw [if_pos ⟨m1,m2⟩] at q7
 have ct:=QLI d3 a b pv (by omega) o3 p1 p2 (by omega)
 rw [z3] at ct z4
 generalize Go.Sort.partition ltR d3 a b pv = t at q7 m1 m2 o4 z4 ct
 obtain ⟨mid,ap,d4⟩:=t
 simp only at q7 m1 m2 o4 z4 ct
 obtain ⟨L1,hL1⟩:∃ x,x = mid - a:=⟨_,rfl⟩
 obtain ⟨L2,hL2⟩:∃ x,x = b - mid:=⟨_,rfl⟩
 obtain ⟨e,he⟩:∃ x,x = (b - a) / 8:=⟨_,rfl⟩
 rw [← hL1,← hL2,← he] at q7
 have wL1:IntKind.i64.wrap ((mid:Int) - (a:Int)) = (L1:Int):=by rw [w64 (by omega) (by omega)]; omega
 have wL2:IntKind.i64.wrap ((b:Int) - (mid:Int)) = (L2:Int):=by rw [w64 (by omega) (by omega)]; omega
 have we:IntKind.i64.wrap ((l:Int) / 8) = (e:Int):=by
  rw [show (l:Int) / 8 = ((l / 8:Nat):Int) from rfl,hl,← he]; exact w64 (by omega) (by omega)
 have wm:IntKind.i64.wrap ((mid:Int) + 1) = (mid:Int) + 1:=w64 (by omega) (by omega)
 unfold rgO at ct
 refine QAJ ?_
 simp +decide -dsimp -implicitDefEqProofs [go_sem]
 refine QAB [0] ct rfl rfl (by simp) (by simp +decide -dsimp -implicitDefEqProofs [go_sem]) (by simp +decide -dsimp -implicitDefEqProofs [go_sem,hrr]) ?_
 by_cases hLL:L1 < L2
 ·rw [if_pos hLL] at q7
  obtain ⟨cr,o5,z5⟩:=ih d4 a mid lim (by omega) (by omega) o4 m1 (by omega) (by omega)
  rw [z4] at cr z5
  generalize pdq ltR d4 a mid lim true true = d5 at cr o5 z5 q7
  unfold rgO at cr
  simp +decide -dsimp -implicitDefEqProofs [go_sem,hrr,wL1,wL2,we,hLL]
  refine QAB [0] cr rfl rfl (by simp) (by simp +decide -dsimp -implicitDefEqProofs [go_sem]) (by simp +decide -dsimp -implicitDefEqProofs [go_sem,hrr]) ?_
  simp +decide -dsimp -implicitDefEqProofs [go_sem,hrr,wm]
  refine QAI (mid + 1,b,lim,decide (L1 ≥ e),ap,d5) ⟨by show mid + 1 ≤ b; omega,q2,by show b - (mid + 1) ≤ N; omega,by show lim ≤ 1000; omega,z5,o5,q7⟩ (by show b - (mid + 1) < b - a; omega) (QAD (by simp) ?_)
  simp +decide -dsimp -implicitDefEqProofs [go_sem]
  exact QAG _ _
 ·rw [if_neg hLL] at q7
  obtain ⟨cr,o5,z5⟩:=ih d4 (mid + 1) b lim (by omega) (by omega) o4 (by omega) (by omega) (by omega)
  rw [z4] at cr z5
  generalize pdq ltR d4 (mid + 1) b lim true true = d5 at cr o5 z5 q7
  unfold rgO at cr
  rw [show ((mid + 1:Nat):Int) = (mid:Int) + 1 by omega] at cr
  simp +decide -dsimp -implicitDefEqProofs [go_sem,hrr,wL1,wL2,we,wm,hLL]
  refine QAB [0] cr rfl rfl (by simp) (by simp +decide -dsimp -implicitDefEqProofs [go_sem]) (by simp +decide -dsimp -implicitDefEqProofs [go_sem,hrr]) ?_
  simp +decide -dsimp -implicitDefEqProofs [go_sem,hrr]
  refine QAI (a,mid,lim,decide (L2 ≥ e),ap,d5) ⟨m1,by show mid ≤ n; omega,by show mid - a ≤ N; omega,by show lim ≤ 1000; omega,z5,o5,q7⟩ (by show mid - a < b - a; omega) (QAD (by simp) ?_)
  simp +decide -dsimp -implicitDefEqProofs [go_sem]
  exact QAG _ _
end Go.Ab
namespace Go.Ab
open Go Go.Proofs Go.Sort
theorem QLf (d:Array Rcd) (hn:d.size ≤ 100000) (h0:okP d):
  ACalls Tryz.prog 59 [.own 0 d.size,.fn (.func 60) [] []] [rgO d] (.tup []) [rgO (Go.Sort.sort ltR d)]:=by
 have w:IntKind.u64.wrap (d.size:Int) = d.size:=QNN (by omega) (by omega)
 have hk:bitsLen d.size ≤ 62:=(bitsLen_le_iff d.size 62).2 (by omega)
 have cl:=QVq d.size (by omega)
 rw [QIo d.size (by omega)] at cl
 obtain ⟨cp,_,_⟩:=QV4 (d.size + 1) d 0 d.size (bitsLen d.size) (by omega) hn h0 (Nat.zero_le _) (Nat.le_refl _) (by omega)
 unfold Go.Sort.sort
 generalize pdq ltR d 0 d.size (bitsLen d.size) true true = e at cp ⊢
 refine QAF c59_ok rfl ?_
 unfold c59
 unfold rgO at cp ⊢
 have hle:(rows d).length = d.size:=QBH d
 simp +decide -dsimp -implicitDefEqProofs [go_sem,w,hle]
 refine QAA cl rfl rfl ?_
 simp +decide -dsimp -implicitDefEqProofs [go_sem]
 refine QAB [0] cp rfl rfl (by simp) (by simp +decide -dsimp -implicitDefEqProofs [go_sem]) (by simp +decide -dsimp -implicitDefEqProofs [go_sem,QDQ]) ?_
 simp +decide -dsimp -implicitDefEqProofs [go_sem,QDQ]
 exact QAG _ _
theorem QLg {d:Array Rcd} (h0:okP d) (hn:d.toList.Pairwise fun a b=>a.path ≠ b.path):(∀ x,x ∈ (Go.Sort.sort ltR d).toList ↔ x ∈ d.toList) ∧ QNK (Go.Sort.sort ltR d).toList ∧ (Go.Sort.sort ltR d).toList.length = d.toList.length:=by
 obtain ⟨⟨hsz,_,hperm⟩,hs⟩:=sort_sorts ltR QEh d
 generalize Go.Sort.sort ltR d = d' at *
 have e1:d'.extract 0 d.size = d':=by rw [← hsz]; exact Array.extract_size
 rw [e1,Array.extract_size] at hperm
 refine ⟨fun x=>hperm.mem_iff,?_,hperm.length_eq⟩
 have hn':d'.toList.Pairwise fun a b=>a.path ≠ b.path:=(hperm.pairwise_iff fun h e=>h e.symm).2 hn
 unfold QNK
 rw [List.pairwise_iff_getElem] at hn' ⊢
 intro i j hi hj hij
 have hi':i < d'.size:=by simpa using hi
 have hj':j < d'.size:=by simpa using hj
 have h3:=hs i j (Nat.zero_le _) hij (by omega)
 rw [getElem!_pos _ j hj',getElem!_pos _ i hi'] at h3
 have hne:=hn' i j hi hj hij
 simp only [Array.getElem_toList] at hne ⊢
 refine Decidable.byContradiction fun hlt=>hne ?_
 have hm:∀ (k:Nat) (hk:k < d'.size),QAd d'[k].path = true:=fun k hk=>h0 _ (hperm.mem_iff.1 (by simp))
 exact QKc (hm i hi') (hm j hj') hlt (by simpa [ltR] using h3)
theorem QNF (l:List Rcd) (hn:l.length ≤ 100000) (h0:∀ x ∈ l,QAd x.path = true) (hd:l.Pairwise fun a b=>a.path ≠ b.path):
  ACallsR Tryz.prog 59 [.own 0 l.length,.fn (.func 60) [] []] [.reg 34 12 (l.map QAU)] (fun v G=>v = .tup [] ∧ ∃ l',(∀ x,x ∈ l' ↔ x ∈ l) ∧ l'.length = l.length ∧ QNK l' ∧ G = [.reg 34 12 (l'.map QAU)]):=by
 have h1:=QLf l.toArray (by simpa using hn) (by simpa [okP] using h0)
 obtain ⟨h2,h3,h4⟩:=QLg (d:=l.toArray) (by simpa [okP] using h0) hd
 simp only [List.size_toArray] at h1 h2 h3 h4
 exact h1.toR.mono fun v G ⟨e1,e2⟩=>⟨e1,_,h2,h4,h3,e2⟩
end Go.Ab
