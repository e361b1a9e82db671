/- The program: whether a record is sound. -/
import Derived.Test.YtpknaffdaemlbaaGreatDoorW2
import Derived.Test.YtpknaffdaemlbaaGreatDoorA5
set_option maxRecDepth 20000
set_option maxHeartbeats 1000000
namespace Go.Ab
open Go Go.Proofs

def QBo (r:Rcd):Bool:=decide (r.owner = [] ∧ r.group = [] ∧ r.mode = 0 ∧ r.links = [])
theorem QTH (r:Rcd) (hf:Few r):ACalls Tryz.prog 62 [.agg (QAU r)] [] (.bool (QAb r)) []:=by
 refine QBw c62_ok rfl ?_
 unfold c62
 refine QAL ⟨tmps 93 [(1,.ptr 0 0),(2,.bool false)],[.box 34 (QAU r)]⟩ (QAJ ?_) (QAL ⟨tmps 93 [(1,.ptr 0 0),(2,.bool false),(3,.bool (QBo r))],[.box 34 (QAU r)]⟩ (QAJ ?_) (QAJ ?_))
 ·unfold QAU
  simp +decide -dsimp -implicitDefEqProofs [go_sem]
  refine QAH (by simp) ?_
  simp +decide -dsimp -implicitDefEqProofs [go_sem]
 ·unfold QAU
  by_cases h1:r.owner = []
  ·by_cases h2:r.group = []
   ·by_cases h3:r.mode = 0
    ·by_cases h4:r.links = []
     ·simp +decide -dsimp -implicitDefEqProofs [go_sem,h1,h2,h3,h4]
      refine QAH (by simp) ?_
      simp +decide -dsimp -implicitDefEqProofs [go_sem,QBo,h1,h2,h3,h4]
     ·simp +decide -dsimp -implicitDefEqProofs [go_sem,h1,h2,h3]
      refine QAH (by simp) ?_
      simp +decide -dsimp -implicitDefEqProofs [go_sem,QBo,h1,h2,h3,h4]
    ·simp +decide -dsimp -implicitDefEqProofs [go_sem,h1,h2,h3]
     refine QAH (by simp) ?_
     simp +decide -dsimp -implicitDefEqProofs [go_sem,QBo,h1,h2,h3]
   ·simp +decide -dsimp -implicitDefEqProofs [go_sem,h1,h2]
    refine QAH (by simp) ?_
    simp +decide -dsimp -implicitDefEqProofs [go_sem,QBo,h1,h2]
  ·simp +decide -dsimp -implicitDefEqProofs [go_sem,h1]
   refine QAH (by simp) ?_
   simp +decide -dsimp -implicitDefEqProofs [go_sem,QBo,h1]
 have hs:QAb r = (QAd r.path && decide (1 ≤ r.index ∧ r.index ≤ 1073741824) && QEc r.props 64 && QF1 r.tags QAi 16 && QF1 r.links QCw 16 && QF1 r.load QBl 16 && decide (r.run.length ≤ 16) && r.run.all QBl &&
  (decide (r.name = []) || QCb r.name) && decide (-1000 ≤ r.prio ∧ r.prio ≤ 1000) && decide (0 ≤ r.mode ∧ r.mode ≤ 4095) && (QBo r || QAi r.owner && QAi r.group)):=rfl
 have c1:=QL6 r.path hf.path
 have c2:=QN8 r.props 64 hf.props (fun x hx=>by have:=hf.vals x hx; omega)
 have c3:=QHT r.tags QAi 105 16 hf.tags (fun x _=>QDy x)
 have c4:=QHT r.links QCw 106 16 hf.links (fun x hx=>QUT x (hf.link x hx))
 have c5:=QHT r.load QBl 107 16 hf.loads (fun x hx=>QL8 x (by have:=hf.ld x hx; omega))
 have c6:=QEy r.run 109 [] [] (fun x=>!QBl x) hf.runs (by simp [QAS]) (by simp [QJo,cvH]) (fun x hx=>QLN x (by have:=hf.rn x hx; omega))
 have e6:(r.run.any fun x=>!QBl x) = !r.run.all QBl:=by rw [← List.not_all_eq_any_not]
 rw [e6] at c6
 have c7:=QLM r.name
 generalize hP:QBo r = pl at *
 unfold QAU
 simp +decide -dsimp -implicitDefEqProofs [go_sem]
 refine QAA c1 rfl rfl ?_
 by_cases h1:QAd r.path = true
 rotate_left
 ·simp +decide -dsimp -implicitDefEqProofs [go_sem,h1,hs]
 by_cases h2:r.index < 1
 ·have:¬ (1 ≤ r.index ∧ r.index ≤ 1073741824):=by omega
  simp +decide -dsimp -implicitDefEqProofs [go_sem,h1,h2,hs,this]
 by_cases h3:1073741824 < r.index
 ·have:¬ (1 ≤ r.index ∧ r.index ≤ 1073741824):=by omega
  simp +decide -dsimp -implicitDefEqProofs [go_sem,h1,h2,h3,hs,this]
 have hi:(1 ≤ r.index ∧ r.index ≤ 1073741824):=by omega
 simp +decide -dsimp -implicitDefEqProofs [go_sem,h1,h2,h3]
 refine QAA c2 (by simp [go_sem]) rfl ?_
 by_cases h4:QEc r.props 64 = true
 rotate_left
 ·simp +decide -dsimp -implicitDefEqProofs [go_sem,h1,h4,hs]
 simp +decide -dsimp -implicitDefEqProofs [go_sem,h4]
 refine QAA c3 (by simp [go_sem]) rfl ?_
 by_cases h5:QF1 r.tags QAi 16 = true
 rotate_left
 ·simp +decide -dsimp -implicitDefEqProofs [go_sem,h5,hs]
 simp +decide -dsimp -implicitDefEqProofs [go_sem,h5]
 refine QAA c4 (by simp [go_sem]) rfl ?_
 by_cases h6:QF1 r.links QCw 16 = true
 rotate_left
 ·simp +decide -dsimp -implicitDefEqProofs [go_sem,h6,hs]
 simp +decide -dsimp -implicitDefEqProofs [go_sem,h6]
 refine QAA c5 (by simp [go_sem]) rfl ?_
 by_cases h7:QF1 r.load QBl 16 = true
 rotate_left
 ·simp +decide -dsimp -implicitDefEqProofs [go_sem,h7,hs]
 by_cases h8:r.run.length ≤ 16
 rotate_left
 ·have h8':(16:Int) < r.run.length:=by omega
  simp +decide -dsimp -implicitDefEqProofs [go_sem,h7,h8,h8',hs]
 have h8':¬ (16:Int) < r.run.length:=by omega
 simp +decide -dsimp -implicitDefEqProofs [go_sem,h7,h8']
 refine QAA c6 (by simp [go_sem]) rfl ?_
 by_cases h9:r.run.all QBl = true
 rotate_left
 ·simp +decide -dsimp -implicitDefEqProofs [go_sem,h9,hs]
 have fin:∀ bo bg:Bool,bo = QAi r.owner → bg = QAi r.group → (decide (r.name = []) || QCb r.name) = true → (-1000 ≤ r.prio ∧ r.prio ≤ 1000) → (0 ≤ r.mode ∧ r.mode ≤ 4095) → QAb r = (pl || bo && bg):=fun bo bg e1 e2 e3 e4 e5=>by
  rw [hs,e1,e2,h1,h4,h5,h6,h7,h9,e3]; simp [hi,h8,e4,e5]
 by_cases h10:r.name = []
 ·have hn:(decide (r.name = []) || QCb r.name) = true:=by simp [h10]
  by_cases h11:r.prio < -1000
  ·have:¬ (-1000 ≤ r.prio ∧ r.prio ≤ 1000):=by omega
   simp +decide -dsimp -implicitDefEqProofs [go_sem,h9,h10,h11,hs,this]
  by_cases h12:1000 < r.prio
  ·have:¬ (-1000 ≤ r.prio ∧ r.prio ≤ 1000):=by omega
   simp +decide -dsimp -implicitDefEqProofs [go_sem,h9,h10,h11,h12,hs,this]
  by_cases h13:r.mode < 0
  ·have:¬ (0 ≤ r.mode ∧ r.mode ≤ 4095):=by omega
   simp +decide -dsimp -implicitDefEqProofs [go_sem,h9,h10,h11,h12,h13,hs,this]
  by_cases h14:4095 < r.mode
  ·have:¬ (0 ≤ r.mode ∧ r.mode ≤ 4095):=by omega
   simp +decide -dsimp -implicitDefEqProofs [go_sem,h9,h10,h11,h12,h13,h14,hs,this]
  rw [fin _ _ rfl rfl hn (by omega) (by omega)]
  cases pl with
  | true=>simp +decide -dsimp -implicitDefEqProofs [go_sem,h9,h10,h11,h12,h13,h14]
  | false=>
   simp +decide -dsimp -implicitDefEqProofs [go_sem,h9,h10,h11,h12,h13,h14]
   refine QAA (QDy r.owner) rfl rfl ?_
   by_cases h15:QAi r.owner = true
   ·simp +decide -dsimp -implicitDefEqProofs [go_sem,h15]
    refine QAA (QDy r.group) rfl rfl ?_
    simp +decide -dsimp -implicitDefEqProofs [go_sem,h15]
   ·simp +decide -dsimp -implicitDefEqProofs [go_sem,h15]
 ·simp +decide -dsimp -implicitDefEqProofs [go_sem,h9,h10]
  refine QAA c7 rfl rfl ?_
  by_cases h10b:QCb r.name = true
  rotate_left
  ·simp +decide -dsimp -implicitDefEqProofs [go_sem,h10,h10b,hs]
  have hn:(decide (r.name = []) || QCb r.name) = true:=by simp [h10b]
  by_cases h11:r.prio < -1000
  ·have:¬ (-1000 ≤ r.prio ∧ r.prio ≤ 1000):=by omega
   simp +decide -dsimp -implicitDefEqProofs [go_sem,h10,h10b,h11,hs,this]
  by_cases h12:1000 < r.prio
  ·have:¬ (-1000 ≤ r.prio ∧ r.prio ≤ 1000):=by omega
   simp +decide -dsimp -implicitDefEqProofs [go_sem,h10,h10b,h11,h12,hs,this]
  by_cases h13:r.mode < 0
  ·have:¬ (0 ≤ r.mode ∧ r.mode ≤ 4095):=by omega
   simp +decide -dsimp -implicitDefEqProofs [go_sem,h10,h10b,h11,h12,h13,hs,this]
  by_cases h14:4095 < r.mode
  ·have:¬ (0 ≤ r.mode ∧ r.mode ≤ 4095):=by omega
   simp +decide -dsimp -implicitDefEqProofs [go_sem,h10,h10b,h11,h12,h13,h14,hs,this]
  rw [fin _ _ rfl rfl hn (by omega) (by omega)]
  cases pl with
  | true=>simp +decide -dsimp -implicitDefEqProofs [go_sem,h10,h10b,h11,h12,h13,h14]
  | false=>
   simp +decide -dsimp -implicitDefEqProofs [go_sem,h10,h10b,h11,h12,h13,h14]
   refine QAA (QDy r.owner) rfl rfl ?_
   by_cases h15:QAi r.owner = true
   ·simp +decide -dsimp -implicitDefEqProofs [go_sem,h15]
    refine QAA (QDy r.group) rfl rfl ?_
    simp +decide -dsimp -implicitDefEqProofs [go_sem,h15]
   ·simp +decide -dsimp -implicitDefEqProofs [go_sem,h15]
end Go.Ab
namespace Go.Ab
open Go Go.Proofs

def QGo (r:Rcd):Bool:=QEc r.props 64 && QF1 r.tags QAi 16 && QF1 r.links QCw 16 && QF1 r.load QBl 16 && decide (r.run.length ≤ 16) && r.run.all QBl

theorem QTI (r:Rcd) (hf:Few r):ACalls Tryz.prog 153 [.agg (QAU r)] [] (.bool (QGo r)) []:=by
 refine QBw c153_ok rfl ?_
 unfold c153
 have N0:∀ i:Nat,i < 153 → True:=fun _ _=>trivial
 refine QAL ⟨tmps 153 [(1,.ptr 0 0),(2,.bool false)],[.box 34 (QAU r)]⟩ (QAJ ?_) ?_
 ·unfold QAU
  simp +decide -dsimp -implicitDefEqProofs [go_sem]
  refine QAH (by simp) ?_
  simp +decide -dsimp -implicitDefEqProofs [go_sem]
 by_cases hb:r.props.length ≤ 64 ∧ (QGE r.tags = true ∧ r.tags.length ≤ 16) ∧ (QGE r.links = true ∧ r.links.length ≤ 16) ∧ r.run.length ≤ 16 ∧ (QGE r.load = true ∧ r.load.length ≤ 16)
 rotate_left
 ·have hbad:QGo r = false:=by
   rw [Bool.eq_false_iff]; intro h
   simp only [QGo,QEc,QF1,Bool.and_eq_true,decide_eq_true_eq] at h
   exact hb ⟨h.1.1.1.1.1.2,⟨h.1.1.1.1.2.1.2,h.1.1.1.1.2.2⟩,⟨h.1.1.1.2.1.2,h.1.1.1.2.2⟩,h.1.2,⟨h.1.1.2.1.2,h.1.1.2.2⟩⟩
  refine QAJ ?_
  rw [hbad]
  unfold QAU
  have t1:=QDg r.tags 16 hf.tags
  have t2:=QDg r.links 16 hf.links
  have t3:=QDg r.load 16 hf.loads
  by_cases h1:r.props.length ≤ 64
  rotate_left
  ·have h1':(64:Int) < r.props.length:=by omega
   simp +decide -dsimp -implicitDefEqProofs [go_sem,h1']
  have h1':¬ (64:Int) < r.props.length:=by omega
  simp +decide -dsimp -implicitDefEqProofs [go_sem,h1']
  refine QAA t1 (by simp [go_sem]) rfl ?_
  by_cases h2:(QGE r.tags && decide (r.tags.length ≤ 16)) = true
  rotate_left
  ·simp only [Bool.not_eq_true] at h2
   simp +decide -dsimp -implicitDefEqProofs [go_sem,h2]
  simp +decide -dsimp -implicitDefEqProofs [go_sem,h2]
  refine QAA t2 (by simp [go_sem]) rfl ?_
  by_cases h3:(QGE r.links && decide (r.links.length ≤ 16)) = true
  rotate_left
  ·simp only [Bool.not_eq_true] at h3
   simp +decide -dsimp -implicitDefEqProofs [go_sem,h3]
  by_cases h4:r.run.length ≤ 16
  rotate_left
  ·have h4':(16:Int) < r.run.length:=by omega
   simp +decide -dsimp -implicitDefEqProofs [go_sem,h3,h4']
  have h4':¬ (16:Int) < r.run.length:=by omega
  simp +decide -dsimp -implicitDefEqProofs [go_sem,h3,h4']
  refine QAA t3 (by simp [go_sem]) rfl ?_
  by_cases h5:(QGE r.load && decide (r.load.length ≤ 16)) = true
  ·exfalso
   simp only [Bool.and_eq_true,decide_eq_true_eq] at h2 h3 h5
   exact hb ⟨h1,h2,h3,h4,h5⟩
  ·simp only [Bool.not_eq_true] at h5
   simp +decide -dsimp -implicitDefEqProofs [go_sem,h5]
 have hl:QGo r = (r.props.all QDJ && QGE (r.props.map (·.1)) && r.tags.all QAi && r.links.all QCw && r.run.all QBl && r.load.all QBl):=by
  simp only [QGo,QEc,QF1,hb.1,hb.2.1,hb.2.2.1,hb.2.2.2.1,hb.2.2.2.2,decide_true,Bool.and_true]
  cases r.props.all QDJ <;> cases QGE (r.props.map (·.1)) <;> cases r.tags.all QAi <;> cases r.links.all QCw <;> cases r.run.all QBl <;> cases r.load.all QBl <;> rfl
 refine QAL ⟨tmps 153 [(1,.ptr 0 0),(2,.bool false)],[.box 34 (QAU r)]⟩ (QAJ ?_) ?_
 ·have t1:=QDg r.tags 16 hf.tags
  have t2:=QDg r.links 16 hf.links
  have t3:=QDg r.load 16 hf.loads
  have h1':¬ (64:Int) < r.props.length:=by omega
  have h4':¬ (16:Int) < r.run.length:=by omega
  simp only [hb.2.1,hb.2.2.1,hb.2.2.2.2,decide_true,Bool.and_true] at t1 t2 t3
  unfold QAU
  simp +decide -dsimp -implicitDefEqProofs [go_sem,h1']
  refine QAA t1 (by simp [go_sem]) rfl ?_
  simp +decide -dsimp -implicitDefEqProofs [go_sem]
  refine QAA t2 (by simp [go_sem]) rfl ?_
  simp +decide -dsimp -implicitDefEqProofs [go_sem,h4']
  refine QAA t3 (by simp [go_sem]) rfl ?_
  simp +decide -dsimp -implicitDefEqProofs [go_sem]
  refine QAH (by simp) ?_
  simp +decide -dsimp -implicitDefEqProofs [go_sem]
 refine QAJ ?_
 rw [hl]
 unfold QAU
 simp +decide -dsimp -implicitDefEqProofs [go_sem]
 -- the attributes
 refine QAR (S:=Nat) (fun i=>⟨tmps 153 [(1,.ptr 0 0),(3,.int .i64 i)],[.box 34 (QAU r)]⟩) (fun i=>r.props.length - i)
  (fun i=>i ≤ r.props.length ∧ (∀ x ∈ r.props.take i,QDJ x = true) ∧ ∀ j (h:j + 1 < r.props.length),j + 1 < i → Op.bytesLess r.props[j].1 r.props[j + 1].1 = true) 0 (by simp) (QAD (by simp) ?_) ?_
 ·unfold QAU; simp +decide -dsimp -implicitDefEqProofs [go_sem]
 intro i hi
 obtain ⟨hi0,hi1,hi2⟩:=hi
 unfold QAU
 by_cases h:i < r.props.length
 ·have w:IntKind.i64.wrap ((i:Int) + 1) = i + 1:=w64 (by omega) (by have:=hf.props; omega)
  simp +decide -dsimp -implicitDefEqProofs [go_sem,h]
  refine QAO (QUM r.props[i].1) rfl rfl ?_
  by_cases h1:QEu r.props[i].1 = true
  rotate_left
  ·have e:r.props.all QDJ = false:=by rw [List.all_eq_false]; exact ⟨_,List.getElem_mem h,by simp [QDJ,h1]⟩
   simp +decide -dsimp -implicitDefEqProofs [go_sem,h1,e]
  simp +decide -dsimp -implicitDefEqProofs [go_sem,h,h1]
  refine QAO (QK4 r.props[i].2 (by have:=hf.vals _ (List.getElem_mem h); omega)) rfl rfl ?_
  by_cases h2:QCv r.props[i].2 = true
  rotate_left
  ·have e:r.props.all QDJ = false:=by rw [List.all_eq_false]; exact ⟨_,List.getElem_mem h,by simp [QDJ,h2]⟩
   simp +decide -dsimp -implicitDefEqProofs [go_sem,h2,e]
  have hnext:∀ x ∈ r.props.take (i + 1),QDJ x = true:=fun x hx=>by
   rw [List.take_succ_eq_append_getElem h] at hx
   rcases List.mem_append.1 hx with hx | hx
   ·exact hi1 x hx
   ·simp at hx; subst hx; simp [QDJ,h1,h2]
  by_cases h0:i = 0
  ·subst h0
   simp +decide -dsimp -implicitDefEqProofs [go_sem,h2]
   refine QAI 1 ⟨by omega,hnext,fun j hj hj2=>by omega⟩ (by omega) (QAD (by simp) ?_)
   simp +decide -dsimp -implicitDefEqProofs [go_sem]
  ·obtain ⟨k,rfl⟩:∃ k,i = k + 1:=⟨i - 1,by omega⟩
   have hk:k < r.props.length:=by omega
   have wk:IntKind.i64.wrap (k:Int) = k:=w64 (by omega) (by have:=hf.props; omega)
   have w':IntKind.i64.wrap ((k:Int) + 1 + 1) = k + 1 + 1:=w64 (by omega) (by have:=hf.props; omega)
   have e1:(0:Int) < (k:Int) + 1:=by omega
   have e2:((k:Int) + 1).toNat = k + 1:=by omega
   have e3:(0:Int) ≤ (k:Int) + 1:=by omega
   have e4:(k:Int) + 1 < r.props.length:=by omega
   by_cases h3:Op.bytesLess r.props[k].1 r.props[k + 1].1 = true
   ·simp +decide -dsimp -implicitDefEqProofs [go_sem,h,h2,wk,hk,e1,e2,e3,h3,w']
    refine QAI (k + 1 + 1) ⟨by omega,hnext,fun j hj hj2=>?_⟩ (by omega) (QAD (by simp) ?_)
    ·by_cases hjk:j = k
     ·subst hjk; exact h3
     ·exact hi2 j hj (by omega)
    simp +decide -dsimp -implicitDefEqProofs [go_sem]
   ·have e:QGE (r.props.map (·.1)) = false:=by
     rw [Bool.eq_false_iff]; intro ha; exact h3 (by have:=QD3.1 ha k (by simpa using h); simpa using this)
    simp +decide -dsimp -implicitDefEqProofs [go_sem,h,h2,wk,hk,e1,e2,e3,h3,e]
 have ei:i = r.props.length:=by omega
 subst ei
 rw [List.take_length] at hi1
 have g1:r.props.all QDJ = true:=List.all_eq_true.2 hi1
 have g2:QGE (r.props.map (·.1)) = true:=QD3.2 fun j hj=>(by simpa using hi2 j (by simpa using hj) (by simpa using hj))
 rw [g1,g2]
 simp +decide -dsimp -implicitDefEqProofs [go_sem]
 refine QAR (S:=Nat) (fun i=>⟨tmps 153 [(1,.ptr 0 0),(4,.int .i64 i)],[.box 34 (QAU r)]⟩) (fun i=>r.tags.length - i)
  (fun i=>i ≤ r.tags.length ∧ ∀ x ∈ r.tags.take i,QAi x = true) 0 (by simp) (QAD (by simp) ?_) ?_
 ·unfold QAU; simp +decide -dsimp -implicitDefEqProofs [go_sem]
 intro i hi
 obtain ⟨hi0,hi1⟩:=hi
 unfold QAU
 by_cases h:i < r.tags.length
 ·have w:IntKind.i64.wrap ((i:Int) + 1) = i + 1:=w64 (by omega) (by have:=hf.tags; omega)
  have hbad:QAi r.tags[i] = false → r.tags.all QAi = false:=fun e=>by rw [List.all_eq_false]; exact ⟨_,List.getElem_mem h,by simp [e]⟩
  simp +decide -dsimp -implicitDefEqProofs [go_sem,h]
  refine QAA (QFP r.tags[i]) rfl rfl ?_
  by_cases h1:QAi r.tags[i] = true
  ·skip
   simp +decide -dsimp -implicitDefEqProofs [go_sem,h1,w]
   refine QAI (i + 1) ⟨by omega,fun x hx=>?_⟩ (by omega) (QAD (by simp) ?_)
   ·rw [List.take_succ_eq_append_getElem h] at hx
    rcases List.mem_append.1 hx with hx | hx
    ·exact hi1 x hx
    ·simp at hx; subst hx; exact h1
   simp +decide -dsimp -implicitDefEqProofs [go_sem]
  ·have e:=hbad (by simpa using h1)
   skip
   simp +decide -dsimp -implicitDefEqProofs [go_sem,h1,e]
 have ei:i = r.tags.length:=by omega
 subst ei
 rw [List.take_length] at hi1
 have g1:r.tags.all QAi = true:=List.all_eq_true.2 hi1
 rw [g1]
 simp +decide -dsimp -implicitDefEqProofs [go_sem]
 refine QAR (S:=Nat) (fun i=>⟨tmps 153 [(1,.ptr 0 0),(5,.int .i64 i)],[.box 34 (QAU r)]⟩) (fun i=>r.links.length - i)
  (fun i=>i ≤ r.links.length ∧ ∀ x ∈ r.links.take i,QCw x = true) 0 (by simp) (QAD (by simp) ?_) ?_
 ·unfold QAU; simp +decide -dsimp -implicitDefEqProofs [go_sem]
 intro i hi
 obtain ⟨hi0,hi1⟩:=hi
 unfold QAU
 by_cases h:i < r.links.length
 ·have w:IntKind.i64.wrap ((i:Int) + 1) = i + 1:=w64 (by omega) (by have:=hf.links; omega)
  have hbad:QCw r.links[i] = false → r.links.all QCw = false:=fun e=>by rw [List.all_eq_false]; exact ⟨_,List.getElem_mem h,by simp [e]⟩
  simp +decide -dsimp -implicitDefEqProofs [go_sem,h]
  refine QAA (QSE r.links[i] (by have:=hf.link _ (List.getElem_mem h); omega)) rfl rfl ?_
  by_cases h1:QCw r.links[i] = true
  ·skip
   simp +decide -dsimp -implicitDefEqProofs [go_sem,h1,w]
   refine QAI (i + 1) ⟨by omega,fun x hx=>?_⟩ (by omega) (QAD (by simp) ?_)
   ·rw [List.take_succ_eq_append_getElem h] at hx
    rcases List.mem_append.1 hx with hx | hx
    ·exact hi1 x hx
    ·simp at hx; subst hx; exact h1
   simp +decide -dsimp -implicitDefEqProofs [go_sem]
  ·have e:=hbad (by simpa using h1)
   skip
   simp +decide -dsimp -implicitDefEqProofs [go_sem,h1,e]
 have ei:i = r.links.length:=by omega
 subst ei
 rw [List.take_length] at hi1
 have g1:r.links.all QCw = true:=List.all_eq_true.2 hi1
 rw [g1]
 simp +decide -dsimp -implicitDefEqProofs [go_sem]
 refine QAR (S:=Nat) (fun i=>⟨tmps 153 [(1,.ptr 0 0),(6,.int .i64 i)],[.box 34 (QAU r)]⟩) (fun i=>r.run.length - i)
  (fun i=>i ≤ r.run.length ∧ ∀ x ∈ r.run.take i,QBl x = true) 0 (by simp) (QAD (by simp) ?_) ?_
 ·unfold QAU; simp +decide -dsimp -implicitDefEqProofs [go_sem]
 intro i hi
 obtain ⟨hi0,hi1⟩:=hi
 unfold QAU
 by_cases h:i < r.run.length
 ·have w:IntKind.i64.wrap ((i:Int) + 1) = i + 1:=w64 (by omega) (by have:=hf.runs; omega)
  have hbad:QBl r.run[i] = false → r.run.all QBl = false:=fun e=>by rw [List.all_eq_false]; exact ⟨_,List.getElem_mem h,by simp [e]⟩
  by_cases h0:r.run[i] = []
  ·have e:=hbad (by simp [QBl,h0])
   simp +decide -dsimp -implicitDefEqProofs [go_sem,h,h0,e]
  simp +decide -dsimp -implicitDefEqProofs [go_sem,h,h0]
  refine QAA (QK4 r.run[i] (by have:=hf.rn _ (List.getElem_mem h); omega)) rfl rfl ?_
  by_cases h1:QBl r.run[i] = true
  ·have ht:QCv r.run[i] = true:=by simpa [QBl,h0] using h1
   simp +decide -dsimp -implicitDefEqProofs [go_sem,ht,w,h0]
   refine QAI (i + 1) ⟨by omega,fun x hx=>?_⟩ (by omega) (QAD (by simp) ?_)
   ·rw [List.take_succ_eq_append_getElem h] at hx
    rcases List.mem_append.1 hx with hx | hx
    ·exact hi1 x hx
    ·simp at hx; subst hx; exact h1
   simp +decide -dsimp -implicitDefEqProofs [go_sem]
  ·have e:=hbad (by simpa using h1)
   have ht:QCv r.run[i] = false:=by simpa [QBl,h0] using h1
   simp +decide -dsimp -implicitDefEqProofs [go_sem,ht,e,h0]
 have ei:i = r.run.length:=by omega
 subst ei
 rw [List.take_length] at hi1
 have g1:r.run.all QBl = true:=List.all_eq_true.2 hi1
 rw [g1]
 simp +decide -dsimp -implicitDefEqProofs [go_sem]
 refine QAR (S:=Nat) (fun i=>⟨tmps 153 [(1,.ptr 0 0),(7,.int .i64 i)],[.box 34 (QAU r)]⟩) (fun i=>r.load.length - i)
  (fun i=>i ≤ r.load.length ∧ ∀ x ∈ r.load.take i,QBl x = true) 0 (by simp) (QAD (by simp) ?_) ?_
 ·unfold QAU; simp +decide -dsimp -implicitDefEqProofs [go_sem]
 intro i hi
 obtain ⟨hi0,hi1⟩:=hi
 unfold QAU
 by_cases h:i < r.load.length
 ·have w:IntKind.i64.wrap ((i:Int) + 1) = i + 1:=w64 (by omega) (by have:=hf.loads; omega)
  have hbad:QBl r.load[i] = false → r.load.all QBl = false:=fun e=>by rw [List.all_eq_false]; exact ⟨_,List.getElem_mem h,by simp [e]⟩
  by_cases h0:r.load[i] = []
  ·have e:=hbad (by simp [QBl,h0])
   simp +decide -dsimp -implicitDefEqProofs [go_sem,h,h0,e]
  simp +decide -dsimp -implicitDefEqProofs [go_sem,h,h0]
  refine QAA (QK4 r.load[i] (by have:=hf.ld _ (List.getElem_mem h); omega)) rfl rfl ?_
  by_cases h1:QBl r.load[i] = true
  ·have ht:QCv r.load[i] = true:=by simpa [QBl,h0] using h1
   simp +decide -dsimp -implicitDefEqProofs [go_sem,ht,w,h0]
   refine QAI (i + 1) ⟨by omega,fun x hx=>?_⟩ (by omega) (QAD (by simp) ?_)
   ·rw [List.take_succ_eq_append_getElem h] at hx
    rcases List.mem_append.1 hx with hx | hx
    ·exact hi1 x hx
    ·simp at hx; subst hx; exact h1
   simp +decide -dsimp -implicitDefEqProofs [go_sem]
  ·have e:=hbad (by simpa using h1)
   have ht:QCv r.load[i] = false:=by simpa [QBl,h0] using h1
   simp +decide -dsimp -implicitDefEqProofs [go_sem,ht,e,h0]
 have ei:i = r.load.length:=by omega
 subst ei
 rw [List.take_length] at hi1
 have g1:r.load.all QBl = true:=List.all_eq_true.2 hi1
 rw [g1]
 simp +decide -dsimp -implicitDefEqProofs [go_sem]
end Go.Ab
namespace Go.Ab
open Go Go.Proofs

theorem QMZ (r:Rcd) (hf:Few r):ACalls Tryz.prog 114 [.agg (QAU r)] [] (.bool (QAb r)) []:=by
 refine QBw c114_ok rfl ?_
 unfold c114
 refine QAL ⟨tmps 81 [(1,.ptr 0 0)],[.box 34 (QAU r)]⟩ (QAJ ?_) (QAL ⟨tmps 81 [(1,.ptr 0 0),(3,.bool (QAi r.owner && QAi r.group))],[.box 34 (QAU r)]⟩ (QAJ ?_)
  (QAL ⟨tmps 81 [(1,.ptr 0 0),(3,.bool (QBo r || QAi r.owner && QAi r.group))],[.box 34 (QAU r)]⟩ (QAJ ?_) (QAJ ?_)))
 ·unfold QAU
  simp +decide -dsimp -implicitDefEqProofs [go_sem]
  refine QAH (by simp) ?_
  simp +decide -dsimp -implicitDefEqProofs [go_sem]
 ·unfold QAU
  simp +decide -dsimp -implicitDefEqProofs [go_sem]
  refine QAA (QFP r.owner) rfl rfl ?_
  by_cases h1:QAi r.owner = true
  ·simp +decide -dsimp -implicitDefEqProofs [go_sem,h1]
   refine QAA (QFP r.group) rfl rfl ?_
   simp +decide -dsimp -implicitDefEqProofs [go_sem,h1]
   refine QAH (by simp) ?_
   simp +decide -dsimp -implicitDefEqProofs [go_sem]
  ·simp only [Bool.not_eq_true] at h1
   simp +decide -dsimp -implicitDefEqProofs [go_sem,h1]
   refine QAH (by simp) ?_
   simp +decide -dsimp -implicitDefEqProofs [go_sem]
 ·unfold QAU
  have P1:∀ {b:Bool},QBo r = b → QBo r = b:=id
  by_cases h1:r.owner = []
  ·by_cases h2:r.group = []
   ·by_cases h3:r.mode = 0
    ·by_cases h4:r.links = []
     ·have hp:QBo r = true:=by simp [QBo,h1,h2,h3,h4]
      rw [hp]
      simp +decide -dsimp -implicitDefEqProofs [go_sem,h1,h2,h3,h4]
      refine QAH (by simp) ?_
      simp +decide -dsimp -implicitDefEqProofs [go_sem]
     ·have hp:QBo r = false:=by simp [QBo,h1,h2,h3,h4]
      rw [hp]
      simp +decide -dsimp -implicitDefEqProofs [go_sem,h1,h2,h3,h4]
      refine QAH (by simp) ?_
      simp +decide -dsimp -implicitDefEqProofs [go_sem]
    ·have hp:QBo r = false:=by simp [QBo,h1,h2,h3]
     rw [hp]
     simp +decide -dsimp -implicitDefEqProofs [go_sem,h1,h2,h3]
     refine QAH (by simp) ?_
     simp +decide -dsimp -implicitDefEqProofs [go_sem]
   ·have hp:QBo r = false:=by simp [QBo,h1,h2]
    rw [hp]
    simp +decide -dsimp -implicitDefEqProofs [go_sem,h1,h2]
    refine QAH (by simp) ?_
    simp +decide -dsimp -implicitDefEqProofs [go_sem]
  ·have hp:QBo r = false:=by simp [QBo,h1]
   rw [hp]
   simp +decide -dsimp -implicitDefEqProofs [go_sem,h1]
   refine QAH (by simp) ?_
   simp +decide -dsimp -implicitDefEqProofs [go_sem]
 have hs:QAb r = (QAd r.path && decide (1 ≤ r.index ∧ r.index ≤ 1073741824) && QGo r &&
  (decide (r.name = []) || QCb r.name) && decide (-1000 ≤ r.prio ∧ r.prio ≤ 1000) && decide (0 ≤ r.mode ∧ r.mode ≤ 4095) && (QBo r || QAi r.owner && QAi r.group)):=by
  unfold QAb QGo
  change _ = (QAd r.path && decide (1 ≤ r.index ∧ r.index ≤ 1073741824) && _ && _ && _ && _ && (QBo r || _))
  unfold QBo
  simp only [Bool.and_assoc]
 have c1:=QL7 r.path hf.path
 have c2:=QTI r hf
 have c7:=QKF r.name
 generalize hP:(QBo r || QAi r.owner && QAi r.group) = pl at *
 have hL:QAU r = [.str r.path,.int .i64 r.index,.imm (r.props.map QBF),.imm (r.tags.map QAf),.imm (r.links.map QAf),.imm (r.run.map QAf),.imm (r.load.map QAf),.str r.name,.int .i64 r.prio,.str r.owner,.str r.group,.int .i64 r.mode]:=rfl
 rw [hL] at c2 ⊢
 cases pl with
 | false=>simp +decide -dsimp -implicitDefEqProofs [go_sem,hs]
 | true=>
 simp +decide -dsimp -implicitDefEqProofs [go_sem]
 refine QAA c1 rfl rfl ?_
 by_cases h1:QAd r.path = true
 rotate_left
 ·simp +decide -dsimp -implicitDefEqProofs [go_sem,h1,hs]
 by_cases h2:1 ≤ r.index
 rotate_left
 ·simp +decide -dsimp -implicitDefEqProofs [go_sem,h1,h2,hs]
 by_cases h3:r.index ≤ 1073741824
 rotate_left
 ·simp +decide -dsimp -implicitDefEqProofs [go_sem,h1,h2,h3,hs]
 simp +decide -dsimp -implicitDefEqProofs [go_sem,h1,h2,h3]
 refine QAA c2 (by simp [go_sem]) rfl ?_
 by_cases h4:QGo r = true
 rotate_left
 ·simp +decide -dsimp -implicitDefEqProofs [go_sem,h4,hs]
 by_cases h10:r.name = []
 ·have hx:True:=trivial
  by_cases h11:-1000 ≤ r.prio
  rotate_left
  ·simp +decide -dsimp -implicitDefEqProofs [go_sem,h4,h10,h11,hs]
  by_cases h12:r.prio ≤ 1000
  rotate_left
  ·simp +decide -dsimp -implicitDefEqProofs [go_sem,h4,h10,h11,h12,hs]
  by_cases h13:0 ≤ r.mode
  rotate_left
  ·simp +decide -dsimp -implicitDefEqProofs [go_sem,h4,h10,h11,h12,h13,hs]
  by_cases h14:r.mode ≤ 4095
  ·simp +decide -dsimp -implicitDefEqProofs [go_sem,h10,h1,h2,h3,h4,h11,h12,h13,h14,hs]
  ·simp +decide -dsimp -implicitDefEqProofs [go_sem,h4,h10,h11,h12,h13,h14,hs]
 ·simp +decide -dsimp -implicitDefEqProofs [go_sem,h4,h10]
  refine QAA c7 rfl rfl ?_
  by_cases h10b:QCb r.name = true
  rotate_left
  ·simp +decide -dsimp -implicitDefEqProofs [go_sem,h10,h10b,hs]
  by_cases h11:-1000 ≤ r.prio
  rotate_left
  ·simp +decide -dsimp -implicitDefEqProofs [go_sem,h10,h10b,h11,hs]
  by_cases h12:r.prio ≤ 1000
  rotate_left
  ·simp +decide -dsimp -implicitDefEqProofs [go_sem,h10,h10b,h11,h12,hs]
  by_cases h13:0 ≤ r.mode
  rotate_left
  ·simp +decide -dsimp -implicitDefEqProofs [go_sem,h10,h10b,h11,h12,h13,hs]
  by_cases h14:r.mode ≤ 4095
  ·simp +decide -dsimp -implicitDefEqProofs [go_sem,h10,h10b,h1,h2,h3,h4,h11,h12,h13,h14,hs]
  ·simp +decide -dsimp -implicitDefEqProofs [go_sem,h10,h10b,h11,h12,h13,h14,hs]

def QJe (r:Rcd):Int:=if QAb r then 0 else 250
end Go.Ab
namespace Go.Ab
open Go Go.Proofs

@[go_sem ↓] theorem QUC (x:List UInt8 × List UInt8):QDV [some .str,some .str] (QBF x) = true:=rfl
@[go_sem ↓] theorem QO7 (x:List UInt8 × List UInt8):(QBF x).take 2 = QBF x:=rfl
@[go_sem ↓] theorem QRb (x y:List UInt8 × List UInt8):QBO (QBF x) (QBF y) = some (decide (x = y)):=by
 obtain ⟨a,b⟩:=x
 obtain ⟨c,d⟩:=y
 simp only [QBF,QBO,QCV]
 by_cases h1:a = c <;> by_cases h2:b = d <;> simp [h1,h2]

theorem QDI (a b:List (List UInt8)) (ha:a.length ≤ 9223372036854775807) (hb:b.length ≤ 9223372036854775807):ACalls Tryz.prog 35 [.imm (a.map QAf),.imm (b.map QAf)] [] (.bool (decide (a = b))) []:=by
 refine QAF c35_ok rfl ?_
 unfold c35
 by_cases hl:a.length = b.length
 rotate_left
 ·have hl':¬ (a.length:Int) = b.length:=by omega
  have e:¬ a = b:=fun e=>hl (by rw [e])
  simp +decide -dsimp -implicitDefEqProofs [go_sem,hl',e]
 have hl':(a.length:Int) = b.length:=by omega
 simp +decide -dsimp -implicitDefEqProofs [go_sem,hl']
 refine QAR (S:=Nat) (fun i=>⟨tmps 26 [(0,.imm (a.map QAf)),(1,.imm (b.map QAf)),(5,.int .i64 i)],[]⟩) (fun i=>a.length - i) (fun i=>i ≤ a.length ∧ ∀ j (h1:j < a.length) (h2:j < b.length),j < i → a[j] = b[j]) 0 (by simp) (QAD (by simp) ?_) ?_
 ·simp +decide -dsimp -implicitDefEqProofs [go_sem]
 intro i hi
 by_cases h:i < a.length
 ·have h2:i < b.length:=by omega
  have w:IntKind.i64.wrap ((i:Int) + 1) = i + 1:=w64 (by omega) (by omega)
  by_cases he:a[i] = b[i]
  ·simp +decide -dsimp -implicitDefEqProofs [go_sem,h,h2,he,w]
   refine QAI (i + 1) ⟨by omega,fun j h1 h2 hj=>?_⟩ (by omega) (QAD (by simp) ?_)
   ·by_cases hji:j = i
    ·subst hji; exact he
    ·exact hi.2 j h1 h2 (by omega)
   simp +decide -dsimp -implicitDefEqProofs [go_sem]
  ·have e:¬ a = b:=fun e=>he (by subst e; rfl)
   simp +decide -dsimp -implicitDefEqProofs [go_sem,h,h2,he,e]
 ·have e:a = b:=List.ext_getElem hl fun j h1 h2=>hi.2 j h1 h2 (by omega)
  subst e
  have e2:i = a.length:=by omega
  subst e2
  simp +decide -dsimp -implicitDefEqProofs [go_sem]

theorem QLj (a b:List (List UInt8 × List UInt8)) (ha:a.length ≤ 9223372036854775807) (hb:b.length ≤ 9223372036854775807):ACalls Tryz.prog 85 [.imm (a.map QBF),.imm (b.map QBF)] [] (.bool (decide (a = b))) []:=by
 refine QAF c85_ok rfl ?_
 unfold c85
 by_cases hl:a.length = b.length
 rotate_left
 ·have hl':¬ (a.length:Int) = b.length:=by omega
  have e:¬ a = b:=fun e=>hl (by rw [e])
  simp +decide -dsimp -implicitDefEqProofs [go_sem,hl',e]
 have hl':(a.length:Int) = b.length:=by omega
 simp +decide -dsimp -implicitDefEqProofs [go_sem,hl']
 refine QAR (S:=Nat) (fun i=>⟨tmps 26 [(0,.imm (a.map QBF)),(1,.imm (b.map QBF)),(5,.int .i64 i)],[]⟩) (fun i=>a.length - i) (fun i=>i ≤ a.length ∧ ∀ j (h1:j < a.length) (h2:j < b.length),j < i → a[j] = b[j]) 0 (by simp) (QAD (by simp) ?_) ?_
 ·simp +decide -dsimp -implicitDefEqProofs [go_sem]
 intro i hi
 by_cases h:i < a.length
 ·have h2:i < b.length:=by omega
  have w:IntKind.i64.wrap ((i:Int) + 1) = i + 1:=w64 (by omega) (by omega)
  by_cases he:a[i] = b[i]
  ·simp +decide -dsimp -implicitDefEqProofs [go_sem,h,h2,he,w]
   refine QAI (i + 1) ⟨by omega,fun j h1 h2 hj=>?_⟩ (by omega) (QAD (by simp) ?_)
   ·by_cases hji:j = i
    ·subst hji; exact he
    ·exact hi.2 j h1 h2 (by omega)
   simp +decide -dsimp -implicitDefEqProofs [go_sem]
  ·have e:¬ a = b:=fun e=>he (by subst e; rfl)
   simp +decide -dsimp -implicitDefEqProofs [go_sem,h,h2,he,e]
 ·have e:a = b:=List.ext_getElem hl fun j h1 h2=>hi.2 j h1 h2 (by omega)
  subst e
  have e2:i = a.length:=by omega
  subst e2
  simp +decide -dsimp -implicitDefEqProofs [go_sem]

end Go.Ab
namespace Go.Ab
open Go Go.Proofs
structure Fit (r:Rcd):Prop where
 props:r.props.length ≤ 9223372036854775807
 tags:r.tags.length ≤ 9223372036854775807
 links:r.links.length ≤ 9223372036854775807
 run:r.run.length ≤ 9223372036854775807
 load:r.load.length ≤ 9223372036854775807
theorem Few.fit {r:Rcd} (h:Few r):Fit r:=⟨by have:=h.props; omega,by have:=h.tags; omega,by have:=h.links; omega,by have:=h.runs; omega,by have:=h.loads; omega⟩

theorem QGp (a b:Rcd) (ha:Fit a) (hb:Fit b):ACalls Tryz.prog 50 [.agg (QAU a),.agg (QAU b)] [] (.bool (decide (a = b))) []:=by
 refine QAF c50_ok rfl ?_
 unfold c50 QAU
 by_cases h1:a.path = b.path
 rotate_left
 ·have e:¬ a = b:=fun e=>h1 (by rw [e])
  simp +decide -dsimp -implicitDefEqProofs [go_sem,h1,e]
 by_cases h2:a.index = b.index
 rotate_left
 ·have e:¬ a = b:=fun e=>h2 (by rw [e])
  simp +decide -dsimp -implicitDefEqProofs [go_sem,h1,h2,e]
 simp +decide -dsimp -implicitDefEqProofs [go_sem,h1,h2]
 refine QAA (QLj a.props b.props ha.props hb.props) (by simp [go_sem]) rfl ?_
 by_cases h3:a.props = b.props
 rotate_left
 ·have e:¬ a = b:=fun e=>h3 (by rw [e])
  simp +decide -dsimp -implicitDefEqProofs [go_sem,h3,e]
 simp +decide -dsimp -implicitDefEqProofs [go_sem,h3]
 refine QAA (QDI a.tags b.tags ha.tags hb.tags) (by simp [go_sem]) rfl ?_
 by_cases h4:a.tags = b.tags
 rotate_left
 ·have e:¬ a = b:=fun e=>h4 (by rw [e])
  simp +decide -dsimp -implicitDefEqProofs [go_sem,h4,e]
 simp +decide -dsimp -implicitDefEqProofs [go_sem,h4]
 refine QAA (QDI a.links b.links ha.links hb.links) (by simp [go_sem]) rfl ?_
 by_cases h5:a.links = b.links
 rotate_left
 ·have e:¬ a = b:=fun e=>h5 (by rw [e])
  simp +decide -dsimp -implicitDefEqProofs [go_sem,h5,e]
 simp +decide -dsimp -implicitDefEqProofs [go_sem,h5]
 refine QAA (QDI a.run b.run ha.run hb.run) (by simp [go_sem]) rfl ?_
 by_cases h6:a.run = b.run
 rotate_left
 ·have e:¬ a = b:=fun e=>h6 (by rw [e])
  simp +decide -dsimp -implicitDefEqProofs [go_sem,h6,e]
 simp +decide -dsimp -implicitDefEqProofs [go_sem,h6]
 refine QAA (QDI a.load b.load ha.load hb.load) (by simp [go_sem]) rfl ?_
 by_cases h7:a.load = b.load
 rotate_left
 ·have e:¬ a = b:=fun e=>h7 (by rw [e])
  simp +decide -dsimp -implicitDefEqProofs [go_sem,h7,e]
 by_cases h8:a.name = b.name
 rotate_left
 ·have e:¬ a = b:=fun e=>h8 (by rw [e])
  simp +decide -dsimp -implicitDefEqProofs [go_sem,h7,h8,e]
 by_cases h9:a.prio = b.prio
 rotate_left
 ·have e:¬ a = b:=fun e=>h9 (by rw [e])
  simp +decide -dsimp -implicitDefEqProofs [go_sem,h7,h8,h9,e]
 by_cases h10:a.owner = b.owner
 rotate_left
 ·have e:¬ a = b:=fun e=>h10 (by rw [e])
  simp +decide -dsimp -implicitDefEqProofs [go_sem,h7,h8,h9,h10,e]
 by_cases h11:a.group = b.group
 rotate_left
 ·have e:¬ a = b:=fun e=>h11 (by rw [e])
  simp +decide -dsimp -implicitDefEqProofs [go_sem,h7,h8,h9,h10,h11,e]
 by_cases h12:a.mode = b.mode
 rotate_left
 ·have e:¬ a = b:=fun e=>h12 (by rw [e])
  simp +decide -dsimp -implicitDefEqProofs [go_sem,h7,h8,h9,h10,h11,h12,e]
 have e:a = b:=by
  obtain ⟨⟩:=a
  obtain ⟨⟩:=b
  simp only at h1 h2 h3 h4 h5 h6 h7 h8 h9 h10 h11 h12
  simp only [h1,h2,h3,h4,h5,h6,h7,h8,h9,h10,h11,h12]
 simp +decide -dsimp -implicitDefEqProofs [go_sem,e]

theorem QO8 (a b:Rcd) (ha:Fit a) (hb:Fit b):ACalls Tryz.prog 21 [.agg (QAU a),.agg (QAU b)] [] (.bool (decide (a = b))) []:=by
 refine QAF c21_ok rfl ?_
 have c:=QGp a b ha hb
 unfold c21
 unfold QAU at c ⊢
 simp +decide -dsimp -implicitDefEqProofs [go_sem]
 refine QAA c (by simp [go_sem]) rfl ?_
 simp +decide -dsimp -implicitDefEqProofs [go_sem]

end Go.Ab
