/- In step: above a ready device there are as many ready ones as its path has names but the last. -/
import Derived.Test.YtneghlianebffaaGreatDoorTP
namespace Go.Ab
open Go Go.Proofs
set_option maxRecDepth 20000
theorem QJl:∀ l:List Txt,(∀ x ∈ l,47 ∉ x) → (QBm l).count 47 = l.length
 | [],_=>rfl
 | x :: r,h=>by
  have h1:x.count 47 = 0:=List.count_eq_zero.2 (h x (by simp))
  have ih:=QJl r (fun y hy=>h y (by simp [hy]))
  simp [QBm,List.count_append,h1,ih]
theorem QVn {p:Txt} (h:QAf p = true):p.count 47 = (QAZ p).length:=by
 obtain ⟨h1,h2⟩:=QGW h
 have:=QJl _ h1
 rwa [h2] at this
theorem QLy {p:Txt} (h:QAf p = true):1 ≤ (QAZ p).length:=by
 cases e:QAZ p with
 | nil=>
  obtain ⟨_,h2⟩:=QGW h
  rw [e] at h2
  subst h2
  cases h
 | cons x r=>simp
theorem Cpl.pre {R:QAy Rcd} {D:QAy Sb} {W:RBus} (h:Cpl R D W) {r:Rcd} (hr:r ∈ W.ready):∀ k,k < (QAZ r.path).length → ∃ q ∈ W.ready,QAZ q.path = (QAZ r.path).take ((QAZ r.path).length - k)
 | 0,_=>⟨r,hr,by simp⟩
 | k + 1,hk=>by
  obtain ⟨q,hq,e⟩:=h.pre hr k (by omega)
  have hl:(QAZ q.path).length = (QAZ r.path).length - k:=by rw [e,List.length_take]; omega
  obtain ⟨x,hx⟩:=Option.isSome_iff_exists.1 (h.par q hq (by omega))
  obtain ⟨k1,_⟩:=h.key _ _ hx
  obtain ⟨c1,_⟩:=QFv (QAm (h.sound hq)) (by omega)
  refine ⟨x,(h.mem x).2 (by rw [k1]; exact hx),?_⟩
  rw [k1,c1,List.dropLast_eq_take,hl,e,List.take_take]
  congr 1; omega
theorem Cpl.above {R:QAy Rcd} {D:QAy Sb} {W:RBus} (h:Cpl R D W) {r:Rcd} (hr:r ∈ W.ready):(W.ready.filter fun q=>QEv q.path r.path).length + 1 = r.path.count 47:=by
 have hp:=QAm (h.sound hr)
 rw [QVn hp]
 have hpos:=QLy hp
 have ha:∀ q ∈ W.ready.filter (fun q=>QEv q.path r.path),q ∈ W.ready ∧ (QAZ q.path).length < (QAZ r.path).length ∧ (QAZ r.path).take (QAZ q.path).length = QAZ q.path:=fun q hq=>by
  obtain ⟨h1,h2⟩:=List.mem_filter.1 hq
  unfold QEv at h2
  rw [Bool.and_eq_true,decide_eq_true_eq,decide_eq_true_eq] at h2
  exact ⟨h1,h2⟩
 have nd:((W.ready.filter fun q=>QEv q.path r.path).map fun q=>(QAZ q.path).length).Nodup:=by
  refine List.pairwise_map.2 (List.Pairwise.imp_of_mem (fun {a b} h1 h2 h3 e=>?_) (h.asc.sublist List.filter_sublist))
  obtain ⟨a1,_,a3⟩:=ha a h1
  obtain ⟨b1,_,b3⟩:=ha b h2
  have e2:=QLZ (QAm (h.sound a1)) (QAm (h.sound b1)) (by rw [← a3,← b3,e])
  rw [e2] at h3
  exact QJ5 h3 h3
 have hm:∀ n,n ∈ ((W.ready.filter fun q=>QEv q.path r.path).map fun q=>(QAZ q.path).length) ↔ n ∈ List.range' 1 ((QAZ r.path).length - 1):=fun n=>by
  rw [List.mem_map,List.mem_range'_1]
  constructor
  ·rintro ⟨q,hq,rfl⟩
   obtain ⟨a1,a2,_⟩:=ha q hq
   have:=QLy (QAm (h.sound a1))
   omega
  ·rintro ⟨n1,n2⟩
   obtain ⟨q,hq,e⟩:=h.pre hr ((QAZ r.path).length - n) (by omega)
   have e1:(QAZ r.path).length - ((QAZ r.path).length - n) = n:=by omega
   rw [e1] at e
   have e2:(QAZ q.path).length = n:=by rw [e,List.length_take]; omega
   refine ⟨q,List.mem_filter.2 ⟨hq,?_⟩,e2⟩
   unfold QEv
   rw [Bool.and_eq_true,decide_eq_true_eq,decide_eq_true_eq,e2]
   exact ⟨by omega,e.symm⟩
 have hl:=((List.perm_ext_iff_of_nodup nd List.nodup_range').2 hm).length_eq
 rw [List.length_map,List.length_range'] at hl
 omega
end Go.Ab
namespace Go.Ab
open Go Go.Proofs
set_option maxRecDepth 20000
def prsS (nf:Nat) (s:Nat × List AObj):St:=⟨tmps 85 [(3,.ptr 0 0),(4,.ptr 3 0),(5,.ptr nf 0),(6,.int .i64 s.1)],s.2⟩
def prsI (l:List Int) (nf:Nat) (s:Nat × List AObj):Prop:=s.1 ≤ 24 ∧ ∃ k W x y,LS l k W (24 - s.1) nf (.box 52 [x,y,.int .i64 W.last]) s.2 ∧ nzL [x,y,.int .i64 W.last] = QBA W ∧ k ≤ 1 + (24 - s.1) * 300
def QYs (nf i:Nat) (L:List Rcd) (G:List AObj) (a:Nat):St:=⟨tmps 85 [(3,.ptr 0 0),(4,.ptr 3 0),(5,.ptr nf 0),(6,.int .i64 i),(7,.imm (L.map QAR)),(8,.int .i64 a)],G⟩
def QYt (nf i:Nat) (L:List Rcd) (G:List AObj) (a:Nat) (p:Txt) (j:Nat):St:=⟨tmps 85 [(3,.ptr 0 0),(4,.ptr 3 0),(5,.ptr nf 0),(6,.int .i64 i),(7,.imm (L.map QAR)),(8,.int .i64 a),(9,.int .i64 0),(10,.int .i64 ((p.take j).count 47:Nat)),(11,.int .i64 j)],G⟩
def QYu (nf i:Nat) (L:List Rcd) (G:List AObj) (a:Nat) (p:Txt) (j:Nat):St:=⟨tmps 85 [(3,.ptr 0 0),(4,.ptr 3 0),(5,.ptr nf 0),(6,.int .i64 i),(7,.imm (L.map QAR)),(8,.int .i64 a),(9,.int .i64 (((L.take j).filter fun q=>QEv q.path p).length:Nat)),(10,.int .i64 (p.count 47:Nat)),(12,.int .i64 j)],G⟩
theorem QOg {p:Txt} {j:Nat} (h:j < p.length):(p.take (j + 1)).count 47 = (p.take j).count 47 + if p[j] = 47 then 1 else 0:=by
 rw [List.take_succ_eq_append_getElem h,List.count_append,List.count_singleton]
 by_cases e:p[j] = 47
 ·simp [e]
 ·simp [e]
theorem QSh {L:List Rcd} {p:Txt} {j:Nat} (h:j < L.length):((L.take (j + 1)).filter fun q=>QEv q.path p).length = ((L.take j).filter fun q=>QEv q.path p).length + if QEv L[j].path p = true then 1 else 0:=by
 rw [List.take_succ_eq_append_getElem h,List.filter_append,List.length_append]
 by_cases e:QEv L[j].path p = true
 ·simp [e]
 ·simp [e]
set_option maxHeartbeats 4000000 in
theorem QIs (l:List Int):ACalls Tryz.prog 5 [.imm (l.map fun v=>[.int .i64 v])] [] (.bool true) []:=by
 have hcT:∀ k,QAb k (l.map fun v=>[AV.int .i64 v]) = true:=fun k=>QAn fun x _=>rfl
 refine QA2 cqq rfl ?_
 refine gS ?_
 refine gS ?_
 refine gS ?_
 refine QAS (QIG [QAO l 0] (fun i=>i < 1) (fun i hi=>hi)) ?_
 rintro _ G0 ⟨rfl,h0⟩
 refine gs ?_
 have s0:=LS.start h0 (.box 52 [.nils,.nils,.int .i64 0])
 generalize G0.length = nf at s0 ⊢
 generalize G0 ++ [AObj.box 52 [.nils,.nils,.int .i64 0]] = G1 at s0 ⊢
 refine gS ?_
 refine gS ?_
 refine QAS (QB2 s0.tp (by omega) 24 (by decide)) ?_
 rintro _ _ ⟨x0,rfl,hx0,rfl⟩
 have s1:=s0.tape 1
 generalize G1.set 0 (QAO l (0 + 1)) = G2 at s1 ⊢
 obtain ⟨i0,rfl⟩:∃ i:Nat,x0 = i:=⟨_,(Int.toNat_of_nonneg hx0.1).symm⟩
 refine gs ?_
 refine QAQ (S:=Nat × List AObj) (prsS nf) (fun s=>s.1) (prsI l nf) (i0,G2) ⟨by show i0 ≤ 24; omega,1,⟨[],[],0⟩,.nils,.nils,s1.bump (Nat.zero_le _),rfl,by omega⟩ (Wk.jk ?_) ?_
 ·simp +decide -dsimp -implicitDefEqProofs [go_sem,jkT]
 rintro ⟨i,G⟩ ⟨hi,k,W,x,y,hL,hnz,hk⟩
 simp only at hi hL hk
 unfold prsS
 by_cases hi0:0 < i
 rotate_left
 ·have hi1:¬ (0:Int) < (i:Int):=by omega
  simp +decide -dsimp -implicitDefEqProofs [go_sem,hi0]
  refine QAD ?_
  refine gs ?_
  refine QAA QF6 rfl rfl ?_
  simp +decide -dsimp -implicitDefEqProofs [go_sem]
 have hi1:(0:Int) < (i:Int):=by omega
 have r0:=hL.rf
 simp +decide -dsimp -implicitDefEqProofs [go_sem,hi0,r0]
 refine QAS (hL.call (by omega) (by omega) [118] (by decide) hnz) ?_
 rintro _ G3 ⟨W',k',rfl,hk',hL3⟩
 have r3:=hL3.rf
 have lt3:=(List.getElem?_eq_some_iff.1 r3).1
 have hL4:=hL3.upd (.box 52 (QBA W'))
 unfold QBA
 simp +decide -dsimp -implicitDefEqProofs [go_sem,r3]
 simp only [if_pos lt3]
 unfold QBA at hL4
 generalize G3.set nf (.box 52 [.imm (W'.ready.map QAR),.imm (W'.subs.map QAv),.int .i64 W'.last]) = G4 at hL4 ⊢
 obtain ⟨B4,b4⟩:=hL4.bx
 have hOk:=hL4.ok
 refine QAS (QSs b4 (by omega)) ?_
 rintro _ G5 ⟨rfl,hx5⟩
 have hL5:=hL4.bus hx5 hOk
 have hll:W'.ready.length ≤ 1000:=Nat.le_trans b4.wl (by omega)
 have w1:IntKind.i64.wrap ((i:Int) - 1) = ((i - 1:Nat):Int):=by rw [w64 (by omega) (by omega)]; omega
 refine gs ?_
 refine QAQ (S:=Nat) (QYs nf i W'.ready G5) (fun a=>W'.ready.length - a) (fun a=>a ≤ W'.ready.length) 0 (Nat.zero_le _) (Wk.jk ?_) ?_
 ·simp +decide -dsimp -implicitDefEqProofs [go_sem,jkT]
 intro a ha
 unfold QYs
 by_cases hal:a < W'.ready.length
 rotate_left
 ·have hal':¬ (a:Int) < (W'.ready.length:Int):=by omega
  simp +decide -dsimp -implicitDefEqProofs [go_sem,hal,w1]
  refine QAG (S:=Nat × List AObj) (i - 1,G5) ⟨by show i - 1 ≤ 24; omega,k',W',_,_,hL5.bump (by show 24 - i + 1 ≤ 24 - (i - 1); omega),by simp [QBA,nzL,nz,QCp,QCA],by show k' ≤ 1 + (24 - (i - 1)) * 300; omega⟩ (by show i - 1 < i; omega) (Wk.jk ?_)
  simp +decide -dsimp -implicitDefEqProofs [go_sem,jkT]
 have hra:W'.ready[a] ∈ W'.ready:=List.getElem_mem hal
 have hpa:=QAm (b4.cp.sound hra)
 have hab:=b4.cp.above hra
 have hps:=QBV hpa
 have hrow:=QAc W'.ready[a]
 have w2:IntKind.i64.wrap ((a:Int) + 1) = a + 1:=w64 (by omega) (by omega)
 obtain ⟨p,hp⟩:∃ p,p = W'.ready[a].path:=⟨_,rfl⟩
 rw [← hp] at hpa hab hps hrow
 simp +decide -dsimp -implicitDefEqProofs [go_sem,hal]
 refine QAQ (S:=Nat) (QYt nf i W'.ready G5 a p) (fun j=>p.length - j) (fun j=>j ≤ p.length) 0 (Nat.zero_le _) (Wk.jk ?_) ?_
 ·simp +decide -dsimp -implicitDefEqProofs [go_sem,jkT]
 intro j hj
 unfold QYt
 by_cases hjl:j < p.length
 ·have w3:IntKind.i64.wrap ((j:Int) + 1) = j + 1:=w64 (by omega) (by omega)
  have hc:=QOg hjl
  have hcl:(p.take j).count 47 ≤ p.length:=Nat.le_trans List.count_le_length (by rw [List.length_take]; omega)
  have w4:IntKind.i64.wrap ((((p.take j).count 47:Nat):Int) + 1) = ((p.take j).count 47:Nat) + 1:=w64 (by omega) (by omega)
  simp +decide -dsimp -implicitDefEqProofs [go_sem,hal,hrow,hjl]
  by_cases e:p[j] = 47
  ·rw [if_pos e] at hc
   simp +decide -dsimp -implicitDefEqProofs [go_sem,e,w3,w4]
   refine QAG (S:=Nat) (j + 1) hjl (by show p.length - (j + 1) < p.length - j; omega) (Wk.jk ?_)
   simp +decide -dsimp -implicitDefEqProofs [go_sem,jkT,hc]
  ·rw [if_neg e] at hc
   have e':¬ ((p[j].toNat:Int) = 47):=fun h=>e (by apply UInt8.toNat.inj; simpa using Int.ofNat.inj h)
   simp +decide -dsimp -implicitDefEqProofs [go_sem,e',w3]
   refine QAG (S:=Nat) (j + 1) hjl (by show p.length - (j + 1) < p.length - j; omega) (Wk.jk ?_)
   simp +decide -dsimp -implicitDefEqProofs [go_sem,jkT,hc]
 have ej:j = p.length:=by omega
 subst ej
 rw [List.take_length]
 simp +decide -dsimp -implicitDefEqProofs [go_sem,hal,hrow]
 refine QAQ (S:=Nat) (QYu nf i W'.ready G5 a p) (fun j=>W'.ready.length - j) (fun j=>j ≤ W'.ready.length) 0 (Nat.zero_le _) (Wk.jk ?_) ?_
 ·simp +decide -dsimp -implicitDefEqProofs [go_sem,jkT]
 intro j hj
 unfold QYu
 by_cases hjl:j < W'.ready.length
 ·have w3:IntKind.i64.wrap ((j:Int) + 1) = j + 1:=w64 (by omega) (by omega)
  have hc:=QSh (p:=p) hjl
  have hcl:((W'.ready.take j).filter fun q=>QEv q.path p).length ≤ j:=Nat.le_trans (List.length_filter_le _ _) (by rw [List.length_take]; omega)
  have w4:IntKind.i64.wrap (((((W'.ready.take j).filter fun q=>QEv q.path p).length:Nat):Int) + 1) = (((W'.ready.take j).filter fun q=>QEv q.path p).length:Nat) + 1:=w64 (by omega) (by omega)
  have hrj:=QAc W'.ready[j]
  have ca:=QIZ W'.ready[j].path p (QAm (b4.cp.sound (List.getElem_mem hjl))) hpa
  generalize ((W'.ready.take j).filter fun q=>QEv q.path p).length = m at *
  simp +decide -dsimp -implicitDefEqProofs [go_sem,hal,hrow,hjl,hrj]
  refine QAK ca rfl rfl ?_
  refine gs ?_
  cases e:QEv W'.ready[j].path p with
  | true=>
   rw [if_pos e] at hc
   simp +decide -dsimp -implicitDefEqProofs [go_sem,w3,w4]
   refine QAG (S:=Nat) (j + 1) hjl (by show W'.ready.length - (j + 1) < W'.ready.length - j; omega) (Wk.jk ?_)
   simp +decide -dsimp -implicitDefEqProofs [go_sem,jkT,hc]
  | false=>
   rw [if_neg (by rw [e]; decide)] at hc
   simp +decide -dsimp -implicitDefEqProofs [go_sem,w3]
   refine QAG (S:=Nat) (j + 1) hjl (by show W'.ready.length - (j + 1) < W'.ready.length - j; omega) (Wk.jk ?_)
   simp +decide -dsimp -implicitDefEqProofs [go_sem,jkT,hc]
 have ej:j = W'.ready.length:=by omega
 subst ej
 rw [List.take_length]
 have hml:=List.length_filter_le (fun q=>QEv q.path p) W'.ready
 generalize (W'.ready.filter fun q=>QEv q.path p).length = m at *
 generalize p.count 47 = d at *
 have hdl:d ≤ 1001:=by omega
 have hda:IntKind.i64.wrap ((d:Int) - 1) = m:=by rw [w64 (by omega) (by omega)]; omega
 simp +decide -dsimp -implicitDefEqProofs [go_sem,hda,w2]
 refine QAG (S:=Nat) (a + 1) hal (by show W'.ready.length - (a + 1) < W'.ready.length - a; omega) (Wk.jk ?_)
 simp +decide -dsimp -implicitDefEqProofs [go_sem,jkT]
end Go.Ab
