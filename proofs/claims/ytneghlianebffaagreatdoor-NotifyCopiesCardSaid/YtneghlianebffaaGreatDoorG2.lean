/- A layer of abstract values over the model, and what is proved with it: part G2. -/
import Derived.Test.YtneghlianebffaaGreatDoorOX
import Derived.Test.YtneghlianebffaaGreatDoorW3
import Derived.Test.YtneghlianebffaaGreatDoorG1
import Derived.Test.YtneghlianebffaaGreatDoorW2
set_option maxRecDepth 20000
set_option maxHeartbeats 16000000
namespace Go.Ab
open Go Go.Proofs
def c157:AFn:=⟨(sq [(ox 6 (.mov (iv 0))),(ox 7 (mb false))] (sq [(mv 13 1),(mv 14 0),(ox 15 (.len .str (.t 14))),(ox 16 (b2 .lss 13 15)),(mv 17 16),(ot 18 (.mov (.t 0)) 17),(ot 19 (.mov (.t 1)) 17),(ot 20 (.idx (.t 18) (.t 19)) 17),(ot 21 (.bin .eql (.t 20) (.v (.int .u8 33))) 17),(ox 22 (.pick (.t 17) (.t 21) (.v (.bool false)))),(mv 8 22)] (.seq (sq [(mv 23 8)] (cd 23 (.ops [(mv 24 1),(ox 25 (b1 .add 24 1)),(mv 1 25)]) .skip)) (sq [(mv 26 1),(mv 9 26)] (sq [(ox 10 (.alloc 187 QSl))] (.seq (.block 0 (.loop (.seq (sq [(mv 27 1),(mv 28 0),(ox 29 (.len .str (.t 28))),(ox 30 (b2 .lss 27 29)),(mv 31 30),(ot 32 (.mov (.t 0)) 31),(ot 33 (.mov (.t 1)) 31),(ot 34 (.idx (.t 32) (.t 33)) 31),(ot 35 (.bin .neq (.t 34) (.v (.int .u8 93))) 31),(ox 36 (.pick (.t 31) (.t 35) (.v (.bool false))))] (cd 36 .skip (.exit 0))) (.block 1 (.seq (sq [(mv 37 1),(ox 38 (b1 .add 37 2)),(mv 39 0),(ox 40 (.len .str (.t 39))),(ox 41 (b2 .lss 38 40)),(mv 42 41),(ot 43 (.mov (.t 0)) 42),(ot 44 (.mov (.t 1)) 42),(ot 45 (b1 .add 44 1) 42),(ot 46 (.idx (.t 43) (.t 45)) 42),(ot 47 (.bin .eql (.t 46) (.v (.int .u8 45))) 42),(ox 48 (.pick (.t 42) (.t 47) (.v (.bool false)))),(mv 49 48),(ot 50 (.mov (.t 0)) 49),(ot 51 (.mov (.t 1)) 49),(ot 52 (b1 .add 51 2) 49),(ot 53 (.idx (.t 50) (.t 52)) 49),(ot 54 (.bin .neq (.t 53) (.v (.int .u8 93))) 49),(ox 55 (.pick (.t 49) (.t 54) (.v (.bool false))))] (cd 55 (.seq (.seq (.draw [(mv 56 0),(mv 57 1),(ox 58 (.idx (.t 56) (.t 57))),(mv 59 0),(mv 60 1),(ox 61 (b1 .add 60 2)),(ox 62 (.idx (.t 59) (.t 61))),(ox 63 (b2 .gtr 58 62))] [0,0,3,0,0,16,56,127]) (cd 63 (sq [(ox 6 (.mov (iv 0))),(ox 7 (mb false))] .ret) .skip)) (.seq (sq [(mv 64 0),(mv 65 1),(ox 66 (.idx (.t 64) (.t 65))),(ox 67 (.conv .i64 (.t 66))),(mv 11 67)] (.block 2 (.loop (.seq (sq [(mv 68 11),(mv 69 0),(mv 70 1),(ox 71 (b1 .add 70 2)),(ox 72 (.idx (.t 69) (.t 71))),(ox 73 (.conv .i64 (.t 72))),(ox 74 (b2 .leq 68 73))] (cd 74 .skip (.exit 2))) (.seq (.block 3 (.ops [(mv 77 11),(ox 78 (.iaddr (some 128) 1 (.t 10) (.t 77))),(on (.store none (.t 78) (.v (.bool true))))])) (.ops [(mv 75 11),(ox 76 (b1 .add 75 1)),(mv 11 76)])))))) (sq [(mv 79 1),(ox 80 (b1 .add 79 3)),(mv 1 80)] (.exit 1)))) .skip)) (sq [(mv 81 0),(mv 82 1),(ox 83 (.idx (.t 81) (.t 82))),(ox 84 (.iaddr (some 128) 1 (.t 10) (.t 83))),(on (.store none (.t 84) (.v (.bool true))))] (.ops [(mv 85 1),(ox 86 (b1 .add 85 1)),(mv 1 86)]))))))) (.seq (sq [(mv 87 1),(mv 88 0),(ox 89 (.len .str (.t 88))),(ox 90 (b2 .geq 87 89)),(mv 91 90),(of 92 (.mov (.t 1)) 91),(of 93 (.mov (.t 9)) 91),(of 94 (b2 .eql 92 93) 91),(ox 95 (.pick (.t 91) (.v (.bool true)) (.t 94)))] (cd 95 (sq [(ox 6 (.mov (iv 0))),(ox 7 (mb false))] .ret) .skip)) (.seq (sq [(ox 12 (.mov (iv 32)))] (.block 4 (.loop (.seq (sq [(mv 96 12),(ox 97 (b1 .leq 96 126))] (cd 97 .skip (.exit 4))) (.seq (.block 5 (.draw [(mv 100 2),(mv 101 12),(mv 102 12),(ox 103 (.iaddr (some 128) 1 (.t 10) (.t 102))),(ox 104 (ld 103)),(mv 105 8),(ox 106 (.binb true (.t 104) (.t 105))),(ox 107 (.nilchk (.t 100))),(ox 108 (fa 2 107)),(ox 109 (.iaddr (some 128) 1 (.t 108) (.t 101))),(on (.store none (.t 109) (.t 106)))] [0,0,0,4,12,0,60,1,129,511,1023])) (.ops [(mv 98 12),(ox 99 (b1 .add 98 1)),(mv 12 99)])))))) (sq [(mv 110 1),(mv 6 110),(ox 7 (mb true))] .ret))))))))),111,[(.tmp 6),(.tmp 7)]⟩
theorem c157_ok:QAg Tryz.prog [] 157 = some c157:=by kernel_rfl
end Go.Ab
namespace Go.Ab
open Go Go.Proofs
def c111:AFn:=⟨(sq [(ox 2 (.mov (.v .nils))),(ox 3 (mb false))] (.seq (sq [(mv 11 0),(ox 12 (fc 112 [(.t 11)])),(ox 13 (.un .not (.t 12)))] (cd 13 (sq [(ox 2 (.mov (.v .nils))),(ox 3 (mb false))] .ret) .skip)) (sq [(ox 14 (.bslice 152 1 true [(.v .nils)])),(mv 4 14)] (.seq (sq [(ox 5 (.mov (iv 0)))] (.block 0 (.loop (.seq (sq [(mv 15 5),(mv 16 0),(ox 17 (.len .str (.t 16))),(ox 18 (b2 .lss 15 17))] (cd 18 .skip (.exit 0))) (.seq (.block 1 (sq [(ox 6 (.alloc 189 QVt))] (.seq (sq [(mv 21 0),(mv 22 5),(ox 23 (.idx (.t 21) (.t 22)))] (.block 2 (sq [(ox 31 (.bin .eql (.t 23) (.v (.int .u8 124)))),(mv 30 31)] (cd 30 (sq [(mv 32 4),(ox 33 (.bslice 152 1 false [(.v .nils)])),(ox 34 (.append 152 1 24 (.t 32) (.t 33))),(mv 4 34)] (.exit 1)) (sq [(ox 36 (.bin .eql (.t 23) (.v (.int .u8 42)))),(mv 35 36)] (cd 35 (.ops [(ox 37 (fa 0 6)),(on (.store none (.t 37) (.v (.bool true))))]) (sq [(ox 39 (.bin .eql (.t 23) (.v (.int .u8 63)))),(mv 38 39)] (cd 38 (sq [(ox 7 (.mov (iv 32)))] (.block 3 (.loop (.seq (sq [(mv 40 7),(ox 41 (b1 .leq 40 126))] (cd 41 .skip (.exit 3))) (.seq (.block 4 (.ops [(mv 44 7),(ox 45 (fa 2 6)),(ox 46 (.iaddr (some 128) 1 (.t 45) (.t 44))),(on (.store none (.t 46) (.v (.bool true))))])) (.ops [(mv 42 7),(ox 43 (b1 .add 42 1)),(mv 7 43)])))))) (sq [(ox 48 (.bin .eql (.t 23) (.v (.int .u8 91)))),(mv 47 48)] (cd 47 (sq [(mv 50 0),(mv 51 5),(ox 52 (b1 .add 51 1)),(ox 53 (fc 157 [(.t 50),(.t 52),(.t 6)])),(mv 49 53),(ox 54 (xt 49 0)),(ox 55 (xt 49 1)),(mv 8 54),(mv 9 55)] (.seq (sq [(mv 56 9),(ox 57 (.un .not (.t 56)))] (cd 57 (sq [(ox 2 (.mov (.v .nils))),(ox 3 (mb false))] .ret) .skip)) (.ops [(mv 58 8),(mv 5 58)]))) (.draw [(mv 24 0),(mv 25 5),(ox 26 (.idx (.t 24) (.t 25))),(ox 27 (fa 1 6)),(on (.store none (.t 27) (.v (.bool true)))),(ox 28 (fa 2 6)),(ox 29 (.iaddr (some 128) 1 (.t 28) (.t 26))),(on (.store none (.t 29) (.v (.bool true))))] [0,0,3,0,8,0,63,127]))))))))))) (sq [(mv 59 4),(ox 60 (.len .sl (.t 59))),(ox 61 (b1 .sub 60 1)),(mv 10 61)] (.draw [(mv 62 4),(mv 63 10),(mv 64 4),(mv 65 10),(ox 66 (.iaddr none 1 (.t 64) (.t 65))),(ox 67 (ld 66)),(ox 68 (.load (some 130) (.t 6))),(ox 69 (.bslice 189 130 false [(.t 68)])),(ox 70 (.append 189 130 130 (.t 67) (.t 69))),(ox 71 (.iaddr none 1 (.t 62) (.t 63))),(on (.store none (.t 71) (.t 70)))] [0,0,0,0,12,28,0,64,252,511,1023]))))) (.ops [(mv 19 5),(ox 20 (b1 .add 19 1)),(mv 5 20)])))))) (sq [(mv 72 4),(mv 2 72),(ox 3 (mb true))] .ret))))),73,[(.tmp 2),(.tmp 3)]⟩
theorem c111_ok:QAg Tryz.prog [14] 111 = some c111:=by kernel_rfl
end Go.Ab
namespace Go.Ab
open Go Go.Proofs
set_option maxRecDepth 20000
theorem QRk (c:UInt8):ACalls Tryz.prog 158 [.int .u8 c.toNat] [] (.bool (decide (32 ≤ c.toNat) && decide (c.toNat ≤ 126))) []:=by
 refine QAH cqq rfl ?_
 by_cases h1:32 ≤ c.toNat
 ·have h1':(32:Int) ≤ c.toNat:=by omega
  by_cases h2:c.toNat ≤ 126
  ·have h2':(c.toNat:Int) ≤ 126:=by omega
   simp +decide -dsimp -implicitDefEqProofs [go_sem,h1,h2,h1',h2']
  ·have h2':¬ (c.toNat:Int) ≤ 126:=by omega
   simp +decide -dsimp -implicitDefEqProofs [go_sem,h1,h2,h1',h2']
 ·have h1':¬ (32:Int) ≤ c.toNat:=by omega
  simp +decide -dsimp -implicitDefEqProofs [go_sem,h1,h1']
theorem QNJ (s:List UInt8) (hl:s.length < 9223372036854775807):ACalls Tryz.prog 112 [.str s] [] (.bool (QBJ s)) []:=by
 refine QAH cqq rfl ?_
 refine gs ?_
 refine QAQ (S:=Nat) (fun i=>⟨tmps 15 [(0,.str s),(3,.int .i64 i)],[]⟩) (fun i=>s.length - i) (fun i=>i ≤ s.length ∧ QBJ (s.take i) = true) 0 ⟨by simp,rfl⟩ (QAC (by simp) ?_) ?_
 ·simp +decide -dsimp -implicitDefEqProofs [go_sem]
 intro i ⟨hi,hi2⟩
 by_cases h:i < s.length
 ·have w:IntKind.i64.wrap ((i:Int) + 1) = i + 1:=w64 (by omega) (by omega)
  have st:=QJH h
  rw [hi2,Bool.true_and] at st
  have c:=QRk s[i]
  cases hb:(decide (32 ≤ s[i].toNat) && decide (s[i].toNat ≤ 126)) with
  | true=>
   rw [hb] at c st
   simp +decide -dsimp -implicitDefEqProofs [go_sem,h]
   refine QAA c rfl rfl ?_
   simp +decide -dsimp -implicitDefEqProofs [go_sem,w]
   refine QAG (i + 1) ⟨h,st⟩ (by show s.length - (i + 1) < s.length - i; omega) (QAC (by simp) ?_)
   simp +decide -dsimp -implicitDefEqProofs [go_sem]
  | false=>
   rw [hb] at c
   have e:QBJ s = false:=by
    unfold QBJ
    rw [List.all_eq_false]
    exact ⟨s[i],List.getElem_mem h,by rw [hb]; decide⟩
   rw [e]
   simp +decide -dsimp -implicitDefEqProofs [go_sem,h]
   refine QAA c rfl rfl ?_
   simp +decide -dsimp -implicitDefEqProofs [go_sem]
 ·have e:i = s.length:=by omega
  rw [e,List.take_length] at hi2
  rw [hi2]
  simp +decide -dsimp -implicitDefEqProofs [go_sem,h]
theorem QNK:QSl = bB (rB 128 noF):=by simp [QSl,bB,rB,Function.comp_def,List.map_const',noF]
def QLR (f:Nat → Bool) (j:Nat):Bool:=decide (32 ≤ j ∧ j ≤ 126) && f j
def QAV (star lit:Bool) (f:Nat → Bool):List AV:=.bool star :: .bool lit :: bB (rB 128 f)
def QG3 (p:List UInt8) (i:Nat) (v:AV) (G:List AObj):Prop:=match QGA p i with
 | some eg=>v = .tup [.int .i64 ((eg.1:Int) - 1),.bool true] ∧ G = [.box 189 (QAV false false (QLR eg.2))]
 | none=>v = .tup [.int .i64 0,.bool false] ∧ G = [.box 189 (QAV false false noF)]
end Go.Ab
namespace Go.Ab
open Go Go.Proofs
def QI2 (f:Nat → Bool) (nt:Bool) (b t:Nat):Bool:=decide (32 ≤ t ∧ t < b) && (f t != nt)
theorem QNL (p:List UInt8) (i:Nat) (hp:∀ c ∈ p,c.toNat ≤ 126) (hl:p.length ≤ 1000) (hi:i ≤ p.length):ACallsR Tryz.prog 157 [.str p,.int .i64 i,.ptr 0 0] [.box 189 (QAV false false noF)] (QG3 p i):=by
 have t1:∀ f,(bB (rB 128 f)).take 128 = bB (rB 128 f):=fun f=>QEh _ 128 (by simp)
 have t2:∀ f,(bB (rB 128 f)).drop 128 = []:=fun f=>List.drop_eq_nil_of_le (by rw [QAq]; simp)
 have cb:∀ k f,QAB k (bB (rB 128 f)) = true:=fun k f=>QBD k _
 refine QFE (QG3 p i) 0 c157_ok ?_
 unfold c157
 rw [QNK]
 refine gS ?_
 have hbeg:QIw p i ≤ p.length:=by unfold QIw; split <;> simp_all [QEV]; omega
 have w1:IntKind.i64.wrap ((i:Int) + 1) = i + 1:=w64 (by omega) (by omega)
 refine QAP ⟨tmps 111 [(0,.str p),(1,.int .i64 i),(2,.ptr 0 0),(8,.bool (QEV p i 33))],[.box 189 (QAV false false noF)]⟩ (QAD ?_) ?_
 ·unfold QAV
  by_cases h:i < p.length
  ·have h':(i:Int) < p.length:=by omega
   have pi:=QIy h
   by_cases h3:(pc p i).toNat = 33
   ·have e:QEV p i 33 = true:=by unfold QEV; simp [h]; exact UInt8.toNat_inj.1 h3
    have h3':((pc p i).toNat:Int) = 33:=by omega
    rw [e]
    simp +decide -dsimp -implicitDefEqProofs [go_sem,h',pi,h3']
    refine QAC (by simp) ?_
    simp +decide -dsimp -implicitDefEqProofs [go_sem,QAa]
   ·have e:QEV p i 33 = false:=by unfold QEV; rw [decide_eq_false]; rintro ⟨_,h⟩; rw [h] at h3; exact h3 rfl
    have h3':¬ ((pc p i).toNat:Int) = 33:=by omega
    rw [e]
    simp +decide -dsimp -implicitDefEqProofs [go_sem,h',pi]
    refine QAC (by simp) ?_
    simp +decide -dsimp -implicitDefEqProofs [go_sem,QAa,h3']
  ·have h':¬ (i:Int) < p.length:=by omega
   have e:QEV p i 33 = false:=by unfold QEV; rw [decide_eq_false]; rintro ⟨h1,_⟩; exact h h1
   rw [e]
   simp +decide -dsimp -implicitDefEqProofs [go_sem,h']
   refine QAC (by simp) ?_
   simp +decide -dsimp -implicitDefEqProofs [go_sem,QAa]
 refine QAP ⟨tmps 111 [(0,.str p),(1,.int .i64 (QIw p i)),(2,.ptr 0 0),(8,.bool (QEV p i 33))],[.box 189 (QAV false false noF)]⟩ (QAD ?_) ?_
 ·unfold QAV QIw
  cases QEV p i 33 with
  | true=>
   simp +decide -dsimp -implicitDefEqProofs [go_sem,w1]
   refine QAC (by simp) ?_
   simp +decide -dsimp -implicitDefEqProofs [go_sem,QAa]
  | false=>
   refine gs ?_
   refine QAC (by simp) ?_
   simp +decide -dsimp -implicitDefEqProofs [go_sem,QAa]
 have hfail:(QEV p (QIw p i) 93 = true ∨ QEb p (QIw p i) noF = none) → QG3 p i (.tup [.int .i64 0,.bool false]) [.box 189 (QAV false false noF)]:=fun h=>by
  have:QGA p i = none:=by
   unfold QGA
   rcases h with h | h
   ·rw [if_pos h]
   ·rw [h]; simp
  unfold QG3
  rw [this]
  exact ⟨rfl,rfl⟩
 have hset:∀ e f,QEV p (QIw p i) 93 = false → QEb p (QIw p i) noF = some (e,f) → QGA p i = some (e + 1,if QEV p i 33 = true then QRN f else f):=fun e f h1 h2=>by
  unfold QGA; rw [h1,h2]; simp
 generalize QIw p i = j at *
 generalize QEV p i 33 = nt at *
 refine gS ?_
 refine gS ?_
 refine QA6 (S:=SS) (fun s=>⟨tmps 111 [(0,.str p),(1,.int .i64 s.i),(2,.ptr 0 0),(8,.bool nt),(9,.int .i64 j),(10,.ptr 1 0)],[.box 189 (QAV false false noF),.box 187 (bB (rB 128 s.f))]⟩) (fun s=>j ≤ s.i ∧ s.i ≤ p.length ∧ (s.i = p.length → QEb p j noF = none) ∧ (s.i < p.length → pc p s.i = 93 ∧ QEb p j noF = some (s.i,s.f))) (QAD ?_) ?_
 ·simp +decide -dsimp -implicitDefEqProofs [go_sem]
  refine QBH (S:=SS) (fun s=>⟨tmps 111 [(0,.str p),(1,.int .i64 s.i),(2,.ptr 0 0),(8,.bool nt),(9,.int .i64 j),(10,.ptr 1 0)],[.box 189 (QAV false false noF),.box 187 (bB (rB 128 s.f))]⟩) (fun s=>p.length - s.i) (fun s=>j ≤ s.i ∧ s.i ≤ p.length ∧ QEb p j noF = QEb p s.i s.f) ⟨j,noF⟩ ⟨Nat.le_refl _,hbeg,rfl⟩ (QAC (by simp) ?_) ?_
  ·simp +decide -dsimp -implicitDefEqProofs [go_sem,QAa,QAV]
  rintro ⟨q,f⟩ ⟨h1,h2,h3⟩
  simp only at h1 h2 h3
  unfold QAV
  by_cases hq:q < p.length
  ·have hq':(q:Int) < p.length:=by omega
   have pq:=QIy hq
   have pq126:(pc p q).toNat ≤ 126:=QK8 hp
   have wq1:IntKind.i64.wrap ((q:Int) + 1) = q + 1:=w64 (by omega) (by omega)
   have wq2:IntKind.i64.wrap ((q:Int) + 2) = q + 2:=w64 (by omega) (by omega)
   have wq3:IntKind.i64.wrap ((q:Int) + 3) = q + 3:=w64 (by omega) (by omega)
   by_cases h93:(pc p q).toNat = 93
   ·have h93':((pc p q).toNat:Int) = 93:=by omega
    have h93c:pc p q = 93:=UInt8.toNat_inj.1 h93
    have hA:QEb p q f = some (q,f):=by rw [QEb,dif_pos hq,if_pos h93c]
    refine QAD ?_
    simp +decide -dsimp -implicitDefEqProofs [go_sem,hq',pq,h93']
    refine QAs (⟨q,f⟩:SS) ⟨h1,h2,fun h=>absurd h (Nat.ne_of_lt hq),fun _=>⟨h93c,by rw [h3,hA]⟩⟩ (QAC (by simp) ?_)
    simp +decide -dsimp -implicitDefEqProofs [go_sem,QAa]
   ·have h93':¬ ((pc p q).toNat:Int) = 93:=by omega
    have h93c:¬ pc p q = 93:=fun h=>h93 (by rw [h]; rfl)
    by_cases hm:QY1 p q
    ·obtain ⟨m1,m2,m3⟩:=hm
     have p1:=QIy (p:=p) (i:=q + 1) (by omega)
     have p2:=QIy (p:=p) (i:=q + 2) m1
     have m1':(q:Int) + 2 < p.length:=by omega
     have m2':((pc p (q + 1)).toNat:Int) = 45:=by omega
     have m3':¬ ((pc p (q + 2)).toNat:Int) = 93:=by omega
     have z126:(pc p (q + 2)).toNat ≤ 126:=QK8 hp
     have tn1:((q:Int) + 1).toNat = q + 1:=by omega
     have tn2:((q:Int) + 2).toNat = q + 2:=by omega
     have n1:(0:Int) ≤ (q:Int) + 1:=by omega
     have n2:(0:Int) ≤ (q:Int) + 2:=by omega
     have eA:QEa p q = (3,(pc p q).toNat,(pc p (q + 2)).toNat):=by unfold QEa; rw [if_pos ⟨m1,m2,m3⟩]
     by_cases hr:(pc p q).toNat ≤ (pc p (q + 2)).toNat
     ·have hA:QEb p q f = QEb p (q + 3) (QL4 f (pc p q).toNat (pc p (q + 2)).toNat):=by
       conv=>lhs; rw [QEb]
       rw [dif_pos hq,if_neg h93c,eA]
       exact if_pos hr
      have hr':¬ ((pc p (q + 2)).toNat:Int) < (pc p q).toNat:=by omega
      have cv1:IntKind.i64.wrap ((pc p q).toNat:Int) = (pc p q).toNat:=w64 (by omega) (by omega)
      have cv2:IntKind.i64.wrap ((pc p (q + 2)).toNat:Int) = (pc p (q + 2)).toNat:=w64 (by omega) (by omega)
      refine QAD ?_
      simp +decide -dsimp -implicitDefEqProofs [go_sem,hq',pq,h93',m1',wq2,wq1,p1,p2,m2',m3',hr',tn1,tn2,n1,n2,cv1]
      refine QAQ (S:=Nat) (fun b=>⟨tmps 111 [(0,.str p),(1,.int .i64 q),(2,.ptr 0 0),(8,.bool nt),(9,.int .i64 j),(10,.ptr 1 0),(11,.int .i64 b)],[.box 189 (QAV false false noF),.box 187 (bB (rB 128 (QOn f (pc p q).toNat b)))]⟩) (fun b=>128 - b) (fun b=>(pc p q).toNat ≤ b ∧ b ≤ (pc p (q + 2)).toNat + 1) (pc p q).toNat ⟨Nat.le_refl _,by omega⟩ (QAC (by simp) ?_) ?_
      ·rw [QJ9]
       simp +decide -dsimp -implicitDefEqProofs [go_sem,QAa,QAV]
      intro b ⟨hb1,hb2⟩
      unfold QAV
      by_cases hb:b ≤ (pc p (q + 2)).toNat
      ·have hb':(b:Int) ≤ (pc p (q + 2)).toNat:=by omega
       have wb:IntKind.i64.wrap ((b:Int) + 1) = b + 1:=w64 (by omega) (by omega)
       have ee:=QEt (n:=128) (i:=b) (f:=QOn f (pc p q).toNat b) (b:=true) (by omega)
       rw [QK9 hb1] at ee
       have b128:b < 128:=by omega
       simp +decide -dsimp -implicitDefEqProofs [go_sem,wq2,tn2,n2,p2,cv2,hb',wb,ee,b128,QAq]
       refine ⟨by omega,QAG (b + 1) ⟨by omega,by omega⟩ (by show 128 - (b + 1) < 128 - b; omega) (QAC (by simp) ?_)⟩
       simp +decide -dsimp -implicitDefEqProofs [go_sem,QAa]
      ·have hb':¬ (b:Int) ≤ (pc p (q + 2)).toNat:=by omega
       have e:b = (pc p (q + 2)).toNat + 1:=by omega
       rw [e,QM5]
       have hb2':¬ ((pc p (q + 2)).toNat:Int) + 1 ≤ (pc p (q + 2)).toNat:=by omega
       simp +decide -dsimp -implicitDefEqProofs [go_sem,wq2,tn2,n2,p2,cv2,hb2',wq3]
       refine QAG (⟨q + 3,QL4 f (pc p q).toNat (pc p (q + 2)).toNat⟩:SS) ⟨by show j ≤ q + 3; omega,by show q + 3 ≤ p.length; omega,by rw [h3,hA]⟩ (by show p.length - (q + 3) < p.length - q; omega) (QAC (by simp) ?_)
       simp +decide -dsimp -implicitDefEqProofs [go_sem,QAa]
     ·have hA:QEb p q f = none:=by rw [QEb,dif_pos hq,if_neg h93c,eA,if_neg hr]
      have hr':((pc p (q + 2)).toNat:Int) < (pc p q).toNat:=by omega
      refine QAD ?_
      simp +decide -dsimp -implicitDefEqProofs [go_sem,hq',pq,h93',m1',wq2,wq1,p1,p2,m2',m3',hr',tn1,tn2,n1,n2]
      refine QBE _ _ (hfail (.inr (h3.trans hA))) rfl ?_
      simp +decide -dsimp -implicitDefEqProofs [go_sem,QAa,QAV]
    ·have eA:QEa p q = (1,(pc p q).toNat,(pc p q).toNat):=by unfold QEa; rw [if_neg hm]
     have hA:QEb p q f = QEb p (q + 1) (QL4 f (pc p q).toNat (pc p q).toNat):=by
      conv=>lhs; rw [QEb]
      rw [dif_pos hq,if_neg h93c,eA]
      exact if_pos (Nat.le_refl _)
     have tn1:((q:Int) + 1).toNat = q + 1:=by omega
     have tn2:((q:Int) + 2).toNat = q + 2:=by omega
     have n1:(0:Int) ≤ (q:Int) + 1:=by omega
     have n2:(0:Int) ≤ (q:Int) + 2:=by omega
     have q128:(pc p q).toNat < 128:=by omega
     have ee:=QEt (n:=128) (i:=(pc p q).toNat) (f:=f) (b:=true) q128
     have e2:(fun t=>if t = (pc p q).toNat then true else f t) = QL4 f (pc p q).toNat (pc p q).toNat:=by
      funext t
      unfold QL4
      by_cases ht:t = (pc p q).toNat
      ·simp [ht]
      ·rw [if_neg ht,decide_eq_false (by omega),Bool.or_false]
     rw [e2] at ee
     by_cases m1:q + 2 < p.length
     ·have m1':(q:Int) + 2 < p.length:=by omega
      have p1:=QIy (p:=p) (i:=q + 1) (by omega)
      have p2:=QIy (p:=p) (i:=q + 2) m1
      by_cases m2:(pc p (q + 1)).toNat = 45
      ·have m2':((pc p (q + 1)).toNat:Int) = 45:=by omega
       have m3':((pc p (q + 2)).toNat:Int) = 93:=by
        have:(pc p (q + 2)).toNat = 93:=Classical.byContradiction fun h=>hm ⟨m1,m2,h⟩
        omega
       refine QAD ?_
       simp +decide -dsimp -implicitDefEqProofs [go_sem,hq',pq,h93',wq2,wq1,q128,QAq,ee,m1',p1,p2,m2',m3',tn1,tn2,n1,n2]
       refine ⟨by omega,QAG (⟨q + 1,QL4 f (pc p q).toNat (pc p q).toNat⟩:SS) ⟨by show j ≤ q + 1; omega,hq,by rw [h3,hA]⟩ (by show p.length - (q + 1) < p.length - q; omega) (QAC (by simp) ?_)⟩
       simp +decide -dsimp -implicitDefEqProofs [go_sem,QAa]
      ·have m2':¬ ((pc p (q + 1)).toNat:Int) = 45:=by omega
       refine QAD ?_
       simp +decide -dsimp -implicitDefEqProofs [go_sem,hq',pq,h93',wq2,wq1,q128,QAq,ee,m1',p1,m2',tn1,n1]
       refine ⟨by omega,QAG (⟨q + 1,QL4 f (pc p q).toNat (pc p q).toNat⟩:SS) ⟨by show j ≤ q + 1; omega,hq,by rw [h3,hA]⟩ (by show p.length - (q + 1) < p.length - q; omega) (QAC (by simp) ?_)⟩
       simp +decide -dsimp -implicitDefEqProofs [go_sem,QAa]
     ·have m1':¬ (q:Int) + 2 < p.length:=by omega
      refine QAD ?_
      simp +decide -dsimp -implicitDefEqProofs [go_sem,hq',pq,h93',wq2,wq1,q128,QAq,ee,m1']
      refine ⟨by omega,QAG (⟨q + 1,QL4 f (pc p q).toNat (pc p q).toNat⟩:SS) ⟨by show j ≤ q + 1; omega,hq,by rw [h3,hA]⟩ (by show p.length - (q + 1) < p.length - q; omega) (QAC (by simp) ?_)⟩
      simp +decide -dsimp -implicitDefEqProofs [go_sem,QAa]
  ·have e:q = p.length:=by omega
   have hq':¬ (q:Int) < p.length:=by omega
   have hA:QEb p q f = none:=by rw [QEb,dif_neg hq]
   refine QAD ?_
   simp +decide -dsimp -implicitDefEqProofs [go_sem,hq']
   refine QAs (⟨q,f⟩:SS) ⟨h1,h2,fun _=>h3.trans hA,fun h=>absurd h hq⟩ (QAC (by simp) ?_)
   simp +decide -dsimp -implicitDefEqProofs [go_sem,QAa]
 rintro ⟨e,f⟩ ⟨h1,h2,h3,h4⟩
 simp only at h1 h2 h3 h4 ⊢
 by_cases hbad:e = p.length ∨ e = j
 ·have hf:QEV p j 93 = true ∨ QEb p j noF = none:=by
   by_cases he:e < p.length
   ·left
    have hj:e = j:=hbad.resolve_left (by omega)
    unfold QEV
    rw [decide_eq_true_eq,← hj]
    exact ⟨he,(h4 he).1⟩
   ·right; exact h3 (by omega)
  refine QAD ?_
  unfold QAV
  by_cases he:e < p.length
  ·have hj:e = j:=hbad.resolve_left (by omega)
   have he':¬ (p.length:Int) ≤ e:=by omega
   subst hj
   simp +decide -dsimp -implicitDefEqProofs [go_sem,he']
   refine QBE _ _ (hfail hf) rfl ?_
   simp +decide -dsimp -implicitDefEqProofs [go_sem,QAa,QAV]
  ·have he':(p.length:Int) ≤ e:=by omega
   simp +decide -dsimp -implicitDefEqProofs [go_sem,he']
   refine QBE _ _ (hfail hf) rfl ?_
   simp +decide -dsimp -implicitDefEqProofs [go_sem,QAa,QAV]
 ·have he:e < p.length:=by omega
  have hj:¬ (e:Int) = j:=by omega
  have he':¬ (p.length:Int) ≤ e:=by omega
  obtain ⟨h5,h6⟩:=h4 he
  have h93:QEV p j 93 = false:=by
   cases hc:QEV p j 93 with
   | false=>rfl
   | true=>
    unfold QEV at hc
    rw [decide_eq_true_eq] at hc
    rw [QEb,dif_pos hc.1,if_pos hc.2] at h6
    have:=congrArg Prod.fst (Option.some.inj h6)
    simp at this
    omega
  have hs:=hset e f h93 h6
  unfold QAV
  refine QBU ?_
  simp +decide -dsimp -implicitDefEqProofs [go_sem,he',hj]
  refine QAP ⟨tmps 111 [(1,.int .i64 e)],[.box 189 (QAV false false (QI2 f nt 127))]⟩ (QAD ?_) ?_
  ·simp +decide -dsimp -implicitDefEqProofs [go_sem]
   refine QAQ (S:=Nat) (fun b=>⟨tmps 111 [(1,.int .i64 e),(2,.ptr 0 0),(8,.bool nt),(10,.ptr 1 0),(12,.int .i64 b)],[.box 189 (QAV false false (QI2 f nt b)),.box 187 (bB (rB 128 f))]⟩) (fun b=>127 - b) (fun b=>32 ≤ b ∧ b ≤ 127) 32 (by simp) (QAC (by simp) ?_) ?_
   ·have e0:QI2 f nt 32 = noF:=by funext t; unfold QI2 noF; rw [decide_eq_false (by omega)]; rfl
    rw [e0]
    simp +decide -dsimp -implicitDefEqProofs [go_sem,QAa,QAV]
   intro b ⟨hb1,hb2⟩
   unfold QAV
   by_cases hb:b < 127
   ·have hb':(b:Int) ≤ 126:=by omega
    have wb:IntKind.i64.wrap ((b:Int) + 1) = b + 1:=w64 (by omega) (by omega)
    have b128:b < 128:=by omega
    have l1:(rB 128 f)[b]'(by rw [QJE]; exact b128) = f b:=by rw [QK7]
    have ee:=QEt (n:=128) (i:=b) (f:=QI2 f nt b) (b:=(f b != nt)) b128
    have e2:(fun t=>if t = b then (f b != nt) else QI2 f nt b t) = QI2 f nt (b + 1):=by
     funext t
     unfold QI2
     by_cases ht:t = b
     ·subst ht; rw [if_pos rfl,decide_eq_true (by omega),Bool.true_and]
     ·rw [if_neg ht]
      by_cases h3:32 ≤ t ∧ t < b
      ·rw [decide_eq_true h3,decide_eq_true (by omega)]
      ·rw [decide_eq_false h3,decide_eq_false (by omega)]
    rw [e2] at ee
    have tk:∀ (x y:AV) (l:List AV),(x :: y :: l).take (2 + b) = x :: y :: l.take b:=fun x y l=>by rw [Nat.add_comm]; rfl
    have dk:∀ (x y:AV) (l:List AV),(x :: y :: l).drop (2 + b + 1) = l.drop (b + 1):=fun x y l=>by rw [show 2 + b + 1 = (b + 1) + 2 by omega]; rfl
    have bx:(!(f b == nt)) = (f b != nt):=rfl
    simp +decide -dsimp -implicitDefEqProofs [go_sem,hb',wb,b128,QAq,QGX,l1,tk,dk,bx,ee]
    refine ⟨by omega,QAG (b + 1) ⟨by omega,by omega⟩ (by show 127 - (b + 1) < 127 - b; omega) (QAC (by simp) ?_)⟩
    simp +decide -dsimp -implicitDefEqProofs [go_sem,QAa]
   ·have e9:b = 127:=by omega
    subst e9
    refine gs ?_
    refine QAC (by simp) ?_
    simp +decide -dsimp -implicitDefEqProofs [go_sem,QAa]
  have ef:rB 128 (QI2 f nt 127) = rB 128 (QLR (if nt = true then QRN f else f)):=QBu fun t _=>by
   unfold QI2 QLR QRN
   by_cases ht:32 ≤ t ∧ t < 127
   ·rw [decide_eq_true ht,decide_eq_true (by omega)]
    cases nt
    ·simp
    ·simp [ht.1]
   ·rw [decide_eq_false ht,decide_eq_false (by omega)]; rfl
  refine QAD ?_
  unfold QAV
  rw [ef]
  refine gs ?_
  refine QBE (.tup [.int .i64 e,.bool true]) [.box 189 (QAV false false (QLR (if nt = true then QRN f else f)))] (by unfold QG3; rw [hs]; exact ⟨by rw [show (((e + 1:Nat)):Int) - 1 = e by omega],rfl⟩) rfl ?_
  simp +decide -dsimp -implicitDefEqProofs [go_sem,QAa,QAV]
end Go.Ab
namespace Go.Ab
open Go Go.Proofs
def QA0 (e:El):List AV:=QAV e.star (decide (e.lit ≠ 0)) (if e.star = true then noF else QLR e.set)
def QBC (l:List El):List AV:=[.imm (l.map QA0)]
theorem QFV (e:El):(QA0 e).length = 130:=by simp [QA0,QAV,QAq]
theorem QDr (k:Nat) (e:El):QAB k (QA0 e) = true:=by simp [QA0,QAV,QAB,QAE,QBD]
theorem QJR (is:List Nat) (e:El):QBt is (QA0 e) = QA0 e:=by simp [QA0,QAV,QBt,ren,QC2]
theorem QAz (k:Nat) (l:List El):QAb k (l.map QA0) = true:=QAn fun x _=>QDr k x
theorem QOL (k:Nat) (l:List El):QAB k (QBC l) = true:=by simp [QBC,QAB,QAE,QAz]
theorem QAi (k:Nat) (l:List (List El)):QAb k (l.map QBC) = true:=QAn fun x _=>QOL k x
theorem QIU (is:List Nat):∀ l:List El,QBL is (l.map QA0) = l.map QA0
 | []=>rfl
 | x :: l=>by rw [List.map_cons,QBL,QJR,QIU is l]
theorem QHX (is:List Nat):∀ l:List (List El),QBL is (l.map QBC) = l.map QBC
 | []=>rfl
 | x :: l=>by rw [List.map_cons,QBL,QHX is l]; simp [QBC,QBt,ren,QIU]
def QIV (o:Nat):List El → AV
 | []=>.nils
 | _x :: l=>.own o (l.length + 1)
def QIW:List El → List AObj
 | []=>[]
 | x :: l=>[.reg 189 130 ((x :: l).map QA0)]
def QF0 (s:SA):List AObj:=.reg 152 1 (s.acc.map QBC ++ [[QIV 1 s.cur]]) :: QIW s.cur
theorem QPx {H:List AObj} {k0:Nat} {cur:List El} (hk:k0 ≤ 1) (hH:∀ x l,cur = x :: l → H[1]? = some (.reg 189 130 ((x :: l).map QA0))):Conv H k0 [] (QIV 1 cur) (.imm (cur.map QA0)):=by
 cases cur with
 | nil=>exact .nils
 | cons x l=>exact .frz 1 _ 189 130 _ _ hk (by simp) (hH x l rfl) (by simp) (QBY (QAz _ _))
theorem QJS {H:List AObj} {k0:Nat} {acc:List (List El)} {cur:List El} (hk:k0 ≤ 1) (hH:∀ x l,cur = x :: l → H[1]? = some (.reg 189 130 ((x :: l).map QA0))):QDB H k0 [] (acc.map QBC ++ [[QIV 1 cur]]) ((acc ++ [cur]).map QBC):=by
 rw [List.map_append,List.map_singleton]
 exact QC8 (QJm (QPx hk hH)) (QBY (QAi _ _))
theorem QLS {H:List AObj} {k0:Nat} {acc:List (List El)} {cur:List El} (hk:k0 ≤ 1) (hH:∀ x l,cur = x :: l → H[1]? = some (.reg 189 130 ((x :: l).map QA0))):QDB H k0 [] (acc.map QBC ++ [[QIV 1 cur],[.nils]]) ((acc ++ [cur]).map QBC ++ [[.nils]]):=by
 have:=QC8 (QBY rfl:QDB H k0 [] [[.nils]] [[.nils]]) (QJS (acc:=acc) hk hH)
 rwa [List.append_assoc] at this
def QMO (p:List UInt8):AV:=match (if QBJ p = true then QGB p 0 [] [] else none) with
 | some L=>.tup [.imm (L.map QBC),.bool true]
 | none=>.tup [.nils,.bool false]
theorem QNM (p:List UInt8) (hl:p.length ≤ 1000):ACalls Tryz.prog 111 [.str p] [] (QMO p) []:=by
 have cp:=QNJ p (by omega)
 by_cases hpr:QBJ p = true
 rotate_left
 ·have hf:QBJ p = false:=by simpa using hpr
  have e:QMO p = .tup [.nils,.bool false]:=by unfold QMO; rw [if_neg hpr]
  rw [hf] at cp
  rw [e]
  refine QAH c111_ok rfl ?_
  unfold c111
  refine gs ?_
  refine QAA cp rfl rfl ?_
  simp +decide -dsimp -implicitDefEqProofs [go_sem]
 have hp:=QNA hpr
 have hp32:∀ c ∈ p,32 ≤ c.toNat:=fun c hc=>by
  unfold QBJ at hpr
  have:=List.all_eq_true.1 hpr c hc
  simp at this; exact this.1
 have e:QMO p = match QGB p 0 [] [] with
   | some L=>.tup [.imm (L.map QBC),.bool true]
   | none=>.tup [.nils,.bool false]:=by unfold QMO; rw [if_pos hpr]
 rw [hpr] at cp
 rw [e]
 have cb:∀ k f,QAB k (bB (rB 128 f)) = true:=fun k f=>QBD k _
 refine QA2 c111_ok rfl ?_
 unfold c111
 rw [show QVt = .bool false :: .bool false :: bB (rB 128 noF) by unfold QVt; rw [QNK]]
 refine gS ?_
 refine gS ?_
 refine QAA cp rfl rfl ?_
 refine gs ?_
 refine gS ?_
 refine QA6 (S:=List (List El)) (fun L=>⟨tmps 73 [(4,.imm (L.map QBC))],[]⟩) (fun L=>QGB p 0 [] [] = some L) (QAD ?_) ?_
 ·simp +decide -dsimp -implicitDefEqProofs [go_sem]
  refine QBH (S:=SA) (fun s=>⟨tmps 73 [(0,.str p),(4,.own 0 (s.acc.length + 1)),(5,.int .i64 s.q)],QF0 s⟩) (fun s=>p.length - s.q) (fun s=>s.q ≤ p.length ∧ s.acc.length ≤ s.q ∧ s.cur.length ≤ s.q ∧ QGB p 0 [] [] = QGB p s.q s.acc s.cur) ⟨0,[],[]⟩ ⟨by simp,by simp,by simp,rfl⟩ (QAC (by simp [QF0]) ?_) ?_
  ·simp +decide -dsimp -implicitDefEqProofs [go_sem,QF0,QIV,QIW]
  rintro ⟨q,acc,cur⟩ ⟨h1,h2,h2b,h3⟩
  simp only at h1 h2 h2b h3
  by_cases hq:q < p.length
  ·have hq':(q:Int) < p.length:=by omega
   have pq:=QIy hq
   have wq:IntKind.i64.wrap ((q:Int) + 1) = q + 1:=w64 (by omega) (by omega)
   cases cur with
   | nil=>
    show awp Tryz.prog 0 _ _ ⟨tmps 73 [(0,.str p),(4,.own 0 (acc.length + 1)),(5,.int .i64 q)],[.reg 152 1 (acc.map QBC ++ [[.nils]])]⟩
    have r1:(acc.map QBC ++ [[(.nils:AV)]])[acc.length]? = some [(.nils:AV)]:=by rw [List.getElem?_append_right (by simp)]; simp
    have r2:∀ v:AV,(acc.map QBC ++ [[(.nils:AV)]]).set acc.length [v] = acc.map QBC ++ [[v]]:=fun v=>by rw [List.set_append_right _ _ (by simp)]; simp
    refine QAP ⟨tmps 73 [(0,.str p),(4,.own 0 (acc.length + 1)),(5,.int .i64 q)],[.reg 152 1 (acc.map QBC ++ [[.nils]])]⟩ (QAD ?_) ?_
    ·simp +decide -dsimp -implicitDefEqProofs [go_sem,hq']
     refine QAC (by simp) ?_
     simp +decide -dsimp -implicitDefEqProofs [go_sem,QAi]
    by_cases hb:(pc p q).toNat = 124
    ·rw [QGN hq hb] at h3
     have hb':((pc p q).toNat:Int) = 124:=by omega
     refine QAD ?_
     simp +decide -dsimp -implicitDefEqProofs [go_sem,pq,hb',maxLen,wq]
     refine ⟨⟨by omega,by omega⟩,QAG ⟨q + 1,acc ++ [[]],[]⟩ ⟨by show q + 1 ≤ p.length; omega,by simp; omega,by simp,h3⟩ (by show p.length - (q + 1) < p.length - q; omega) ?_⟩
     have e1:(acc ++ [[]]).length = acc.length + 1:=by simp
     show Wk 0 _ ⟨tmps 73 [(0,.str p),(4,.own 0 ((acc ++ [[]]).length + 1)),(5,.int .i64 ((q + 1:Nat):Int))],[.reg 152 1 ((acc ++ [[]]).map QBC ++ [[.nils]])]⟩
     rw [e1]
     refine Wk.cut1 0 (.str p) (.str p) [(4,.own 0 (acc.length + 1 + 1)),(5,.int .i64 ((q + 1:Nat):Int))] (by simp) rfl (.same _ (by simp [QAE])) ?_ (QEs (by simp) fun o x' y' hx hy=>?_)
     ·simp +decide -dsimp -implicitDefEqProofs [go_sem]
     ·cases o with
      | zero=>cases hx; cases hy; exact ⟨rfl,rfl,QLS (cur:=[]) (by simp) fun x'' l' e=>by cases e⟩
      | succ o=>simp at hy
    have hb':¬ ((pc p q).toNat:Int) = 124:=by omega
    cases he:elA p q with
    | none=>
     rw [QIJ hq hb he] at h3
     unfold elA at he
     split at he
     ·cases he
     rename_i n42
     split at he
     ·cases he
     rename_i n63
     split at he
     rotate_left
     ·cases he
     rename_i n91
     have hs:QGA p (q + 1) = none:=by
      cases h:QGA p (q + 1) with
      | none=>rfl
      | some eg=>rw [h] at he; cases he
     have c:=QNL p (q + 1) hp hl (by omega)
     have i42:¬ ((pc p q).toNat:Int) = 42:=by omega
     have i63:¬ ((pc p q).toNat:Int) = 63:=by omega
     have i91:((pc p q).toNat:Int) = 91:=by omega
     unfold QAV at c
     refine QAD ?_
     simp +decide -dsimp -implicitDefEqProofs [go_sem,pq,i91,wq]
     refine QBc [1] c rfl (fun v G h=>by unfold QG3 at h; rw [hs] at h; obtain ⟨_,rfl⟩:=h; rfl) (by simp) (by simp +decide -dsimp -implicitDefEqProofs [go_sem]) (by simp +decide -dsimp -implicitDefEqProofs [go_sem,QC2]) ?_
     intro v G hR
     unfold QG3 at hR
     rw [hs] at hR
     obtain ⟨rfl,rfl⟩:=hR
     rw [h3]
     simp +decide -dsimp -implicitDefEqProofs [go_sem]
    | some xq=>
     obtain ⟨x,q'⟩:=xq
     have hlt:=QJG hq he
     rw [QII hq hb he] at h3
     refine QAP ⟨tmps 73 [(0,.str p),(4,.own 0 (acc.length + 1)),(5,.int .i64 ((q':Int) - 1))],QF0 ⟨q',acc,[x]⟩⟩ ?_ ?_
     ·refine QBZ ?_
      refine gS ?_
      refine QAP ⟨tmps 73 [(0,.str p),(4,.own 0 (acc.length + 1)),(5,.int .i64 ((q':Int) - 1)),(6,.ptr 1 0)],[.reg 152 1 (acc.map QBC ++ [[.nils]]),.box 189 (QA0 x)]⟩ ?_ ?_
      ·unfold elA at he
       by_cases n42:(pc p q).toNat = 42
       ·rw [if_pos n42] at he
        cases he
        have i42:((pc p q).toNat:Int) = 42:=by omega
        have eq:((q + 1:Nat):Int) - 1 = q:=by omega
        rw [eq]
        refine QAD ?_
        simp +decide -dsimp -implicitDefEqProofs [go_sem,pq,i42]
        refine QAC (by simp) ?_
        simp +decide -dsimp -implicitDefEqProofs [go_sem,QA0,QAV,QAi,QAa]
       have i42:¬ ((pc p q).toNat:Int) = 42:=by omega
       rw [if_neg n42] at he
       by_cases n63:(pc p q).toNat = 63
       ·rw [if_pos n63] at he
        cases he
        have i63:((pc p q).toNat:Int) = 63:=by omega
        have eq:((q + 1:Nat):Int) - 1 = q:=by omega
        rw [eq]
        refine QAD ?_
        simp +decide -dsimp -implicitDefEqProofs [go_sem,pq,i63]
        refine QAQ (S:=Nat) (fun b=>⟨tmps 73 [(0,.str p),(4,.own 0 (acc.length + 1)),(5,.int .i64 q),(6,.ptr 1 0),(7,.int .i64 b)],[.reg 152 1 (acc.map QBC ++ [[.nils]]),.box 189 (QAV false false (upF b))]⟩) (fun b=>127 - b) (fun b=>32 ≤ b ∧ b ≤ 127) 32 (by simp) (QAC (by simp) ?_) ?_
        ·have e0:rB 128 (upF 32) = rB 128 noF:=QBu fun t _=>by unfold upF noF; rw [decide_eq_false (by omega)]
         unfold QAV
         rw [e0]
         simp +decide -dsimp -implicitDefEqProofs [go_sem,QAi,QAa]
        intro b ⟨hb1,hb2⟩
        unfold QAV
        by_cases hbb:b < 127
        ·have hbb':(b:Int) ≤ 126:=by omega
         have wb:IntKind.i64.wrap ((b:Int) + 1) = b + 1:=w64 (by omega) (by omega)
         have b128:b < 128:=by omega
         have ee:=QEt (n:=128) (i:=b) (f:=upF b) (b:=true) b128
         have e2:(fun t=>if t = b then true else upF b t) = upF (b + 1):=by
          funext t
          unfold upF
          by_cases ht:t = b
          ·subst ht; rw [if_pos rfl,decide_eq_true (by omega)]
          ·rw [if_neg ht,decide_eq_decide]; omega
         rw [e2] at ee
         have tk:∀ (x y:AV) (l:List AV),(x :: y :: l).take (2 + b) = x :: y :: l.take b:=fun x y l=>by rw [Nat.add_comm]; rfl
         have dk:∀ (x y:AV) (l:List AV),(x :: y :: l).drop (2 + b + 1) = l.drop (b + 1):=fun x y l=>by rw [show 2 + b + 1 = (b + 1) + 2 by omega]; rfl
         simp +decide -dsimp -implicitDefEqProofs [go_sem,hbb',wb,b128,QAq,tk,dk,ee]
         refine ⟨by omega,QAG (b + 1) ⟨by omega,by omega⟩ (by show 127 - (b + 1) < 127 - b; omega) (QAC (by simp) ?_)⟩
         simp +decide -dsimp -implicitDefEqProofs [go_sem,QAi,QAa]
        ·have e9:b = 127:=by omega
         subst e9
         have e3:rB 128 (upF 127) = rB 128 (QLR QOm):=QBu fun t _=>by
          unfold upF QLR QOm
          by_cases ht:32 ≤ t ∧ t < 127
          ·rw [decide_eq_true ht,decide_eq_true (by omega),decide_eq_true (by omega)]; rfl
          ·rw [decide_eq_false ht,decide_eq_false (by omega)]; rfl
         rw [e3]
         refine gs ?_
         refine QAC (by simp) ?_
         simp +decide -dsimp -implicitDefEqProofs [go_sem,QA0,QAV,QAi,QAa]
       have i63:¬ ((pc p q).toNat:Int) = 63:=by omega
       rw [if_neg n63] at he
       by_cases n91:(pc p q).toNat = 91
       ·rw [if_pos n91] at he
        have i91:((pc p q).toNat:Int) = 91:=by omega
        have c:=QNL p (q + 1) hp hl (by omega)
        unfold QAV at c
        obtain ⟨eg,hs,hx⟩:∃ eg,QGA p (q + 1) = some eg ∧ (⟨0,false,eg.2⟩,eg.1) = (x,q'):=by
         cases h:QGA p (q + 1) with
         | none=>rw [h] at he; cases he
         | some eg=>rw [h] at he; exact ⟨eg,rfl,Option.some.inj he⟩
        cases hx
        refine QAD ?_
        simp +decide -dsimp -implicitDefEqProofs [go_sem,pq,i91,wq]
        refine QBc [1] c rfl (fun v G h=>by unfold QG3 at h; rw [hs] at h; obtain ⟨_,rfl⟩:=h; rfl) (by simp) (by simp +decide -dsimp -implicitDefEqProofs [go_sem]) (by simp +decide -dsimp -implicitDefEqProofs [go_sem,QC2]) ?_
        intro v G hR
        unfold QG3 at hR
        rw [hs] at hR
        obtain ⟨rfl,rfl⟩:=hR
        unfold QAV
        simp +decide -dsimp -implicitDefEqProofs [go_sem,QC2]
        refine QAC (by simp) ?_
        simp +decide -dsimp -implicitDefEqProofs [go_sem,QA0,QAV,QAi,QAa]
       ·rw [if_neg n91] at he
        have i91:¬ ((pc p q).toNat:Int) = 91:=by omega
        cases he
        have h126:(pc p q).toNat ≤ 126:=QK8 hp
        have h32:32 ≤ (pc p q).toNat:=hp32 _ (List.mem_of_getElem? pq)
        have h128:(pc p q).toNat < 128:=by omega
        have ee:=QEt (n:=128) (i:=(pc p q).toNat) (f:=noF) (b:=true) h128
        have e2:(fun j=>if j = (pc p q).toNat then true else noF j) = QLR (QRP (pc p q).toNat):=by
         funext j; unfold QRP noF QLR
         by_cases hj:j = (pc p q).toNat
         ·rw [if_pos hj]; subst hj; simp; omega
         ·rw [if_neg hj]; simp [hj]
        rw [e2] at ee
        have hl0:¬ (pc p q).toNat = 0:=by omega
        have eq:((q + 1:Nat):Int) - 1 = q:=by omega
        rw [eq]
        have tk:∀ (b:Nat) (x y:AV) (l:List AV),(x :: y :: l).take (2 + b) = x :: y :: l.take b:=fun b x y l=>by rw [Nat.add_comm]; rfl
        have dk:∀ (b:Nat) (x y:AV) (l:List AV),(x :: y :: l).drop (2 + b + 1) = l.drop (b + 1):=fun b x y l=>by rw [show 2 + b + 1 = (b + 1) + 2 by omega]; rfl
        refine QAD ?_
        simp +decide -dsimp -implicitDefEqProofs [go_sem,pq,hb',i42,i63,i91,h128,QAq,tk,dk,ee]
        refine ⟨by omega,QAN (by simp) ?_⟩
        simp +decide -dsimp -implicitDefEqProofs [go_sem,QA0,QAV,hl0,QAi,QAa]
      have wl:IntKind.i64.wrap (acc.length:Int) = acc.length:=w64 (by omega) (by omega)
      have e130:(QA0 x).take 130 = QA0 x:=List.take_of_length_le (by rw [QFV]; omega)
      refine gS ?_
      refine QAD ?_
      simp +decide -dsimp -implicitDefEqProofs [go_sem,wl,r2,e130,QFV,maxLen]
      refine Wk.ren [0,2] (by decide) rfl (by decide) (fun x' hx=>absurd hx (by omega)) (fun x' m s l hx h=>absurd hx (by omega)) ?_ ?_
      ·simp +decide -dsimp -implicitDefEqProofs [go_sem,QF0,QIV,QIW,QHX,QJR,QBL]
      ·simp +decide [rnT,ren]
     have wq':IntKind.i64.wrap (q':Int) = q':=w64 (by omega) (by omega)
     refine QAD ?_
     simp +decide -dsimp -implicitDefEqProofs [go_sem,wq',QF0,QIV,QIW]
     refine QAG ⟨q',acc,[x]⟩ ⟨hlt.2,by show acc.length ≤ q'; omega,by show 1 ≤ q'; omega,h3⟩ (by show p.length - q' < p.length - q; omega) (QAC (by simp [QF0,QIW]) ?_)
     simp +decide -dsimp -implicitDefEqProofs [go_sem,QF0,QIV,QIW,QAi,QDr]
   | cons y l=>
    show awp Tryz.prog 0 _ _ ⟨tmps 73 [(0,.str p),(4,.own 0 (acc.length + 1)),(5,.int .i64 q)],[.reg 152 1 (acc.map QBC ++ [[.own 1 (l.length + 1)]]),.reg 189 130 ((y :: l).map QA0)]⟩
    have r1:(acc.map QBC ++ [[(.own 1 (l.length + 1):AV)]])[acc.length]? = some [(.own 1 (l.length + 1):AV)]:=by rw [List.getElem?_append_right (by simp)]; simp
    have r2:∀ v:AV,(acc.map QBC ++ [[(.own 1 (l.length + 1):AV)]]).set acc.length [v] = acc.map QBC ++ [[v]]:=fun v=>by rw [List.set_append_right _ _ (by simp)]; simp
    refine QAP ⟨tmps 73 [(0,.str p),(4,.own 0 (acc.length + 1)),(5,.int .i64 q)],[.reg 152 1 (acc.map QBC ++ [[.own 1 (l.length + 1)]]),.reg 189 130 ((y :: l).map QA0)]⟩ (QAD ?_) ?_
    ·simp +decide -dsimp -implicitDefEqProofs [go_sem,hq']
     refine QAC (by simp) ?_
     simp +decide -dsimp -implicitDefEqProofs [go_sem,QAi,QDr]
    have hyl:l.length + 1 ≤ q:=by simpa using h2b
    by_cases hb:(pc p q).toNat = 124
    ·rw [QGN hq hb] at h3
     have hb':((pc p q).toNat:Int) = 124:=by omega
     refine QAD ?_
     simp +decide -dsimp -implicitDefEqProofs [go_sem,pq,hb',maxLen,wq]
     refine ⟨⟨by omega,by omega⟩,QAG ⟨q + 1,acc ++ [y :: l],[]⟩ ⟨by show q + 1 ≤ p.length; omega,by simp; omega,by simp,h3⟩ (by show p.length - (q + 1) < p.length - q; omega) ?_⟩
     have e1:(acc ++ [y :: l]).length = acc.length + 1:=by simp
     show Wk 0 _ ⟨tmps 73 [(0,.str p),(4,.own 0 ((acc ++ [y :: l]).length + 1)),(5,.int .i64 ((q + 1:Nat):Int))],[.reg 152 1 ((acc ++ [y :: l]).map QBC ++ [[.nils]])]⟩
     rw [e1]
     refine Wk.cut1 0 (.str p) (.str p) [(4,.own 0 (acc.length + 1 + 1)),(5,.int .i64 ((q + 1:Nat):Int))] (by simp) rfl (.same _ (by simp [QAE])) ?_ (QEs (by simp) fun o x' y' hx hy=>?_)
     ·simp +decide -dsimp -implicitDefEqProofs [go_sem]
     ·cases o with
      | zero=>cases hx; cases hy; exact ⟨rfl,rfl,QLS (cur:=y :: l) (by simp) fun x'' l' e=>by cases e; rfl⟩
      | succ o=>simp at hy
    have hb':¬ ((pc p q).toNat:Int) = 124:=by omega
    cases he:elA p q with
    | none=>
     rw [QIJ hq hb he] at h3
     unfold elA at he
     split at he
     ·cases he
     rename_i n42
     split at he
     ·cases he
     rename_i n63
     split at he
     rotate_left
     ·cases he
     rename_i n91
     have hs:QGA p (q + 1) = none:=by
      cases h:QGA p (q + 1) with
      | none=>rfl
      | some eg=>rw [h] at he; cases he
     have c:=QNL p (q + 1) hp hl (by omega)
     have i42:¬ ((pc p q).toNat:Int) = 42:=by omega
     have i63:¬ ((pc p q).toNat:Int) = 63:=by omega
     have i91:((pc p q).toNat:Int) = 91:=by omega
     unfold QAV at c
     refine QAD ?_
     simp +decide -dsimp -implicitDefEqProofs [go_sem,pq,i91,wq]
     refine QBc [2] c rfl (fun v G h=>by unfold QG3 at h; rw [hs] at h; obtain ⟨_,rfl⟩:=h; rfl) (by simp) (by simp +decide -dsimp -implicitDefEqProofs [go_sem]) (by simp +decide -dsimp -implicitDefEqProofs [go_sem,QC2]) ?_
     intro v G hR
     unfold QG3 at hR
     rw [hs] at hR
     obtain ⟨rfl,rfl⟩:=hR
     rw [h3]
     simp +decide -dsimp -implicitDefEqProofs [go_sem]
    | some xq=>
     obtain ⟨x,q'⟩:=xq
     have hlt:=QJG hq he
     rw [QII hq hb he] at h3
     refine QAP ⟨tmps 73 [(0,.str p),(4,.own 0 (acc.length + 1)),(5,.int .i64 ((q':Int) - 1))],QF0 ⟨q',acc,y :: (l ++ [x])⟩⟩ ?_ ?_
     ·refine QBZ ?_
      refine gS ?_
      refine QAP ⟨tmps 73 [(0,.str p),(4,.own 0 (acc.length + 1)),(5,.int .i64 ((q':Int) - 1)),(6,.ptr 2 0)],[.reg 152 1 (acc.map QBC ++ [[.own 1 (l.length + 1)]]),.reg 189 130 ((y :: l).map QA0),.box 189 (QA0 x)]⟩ ?_ ?_
      ·unfold elA at he
       by_cases n42:(pc p q).toNat = 42
       ·rw [if_pos n42] at he
        cases he
        have i42:((pc p q).toNat:Int) = 42:=by omega
        have eq:((q + 1:Nat):Int) - 1 = q:=by omega
        rw [eq]
        refine QAD ?_
        simp +decide -dsimp -implicitDefEqProofs [go_sem,pq,i42]
        refine QAC (by simp) ?_
        simp +decide -dsimp -implicitDefEqProofs [go_sem,QA0,QAV,QAi,QAa,cb]
       have i42:¬ ((pc p q).toNat:Int) = 42:=by omega
       rw [if_neg n42] at he
       by_cases n63:(pc p q).toNat = 63
       ·rw [if_pos n63] at he
        cases he
        have i63:((pc p q).toNat:Int) = 63:=by omega
        have eq:((q + 1:Nat):Int) - 1 = q:=by omega
        rw [eq]
        refine QAD ?_
        simp +decide -dsimp -implicitDefEqProofs [go_sem,pq,i63]
        refine QAQ (S:=Nat) (fun b=>⟨tmps 73 [(0,.str p),(4,.own 0 (acc.length + 1)),(5,.int .i64 q),(6,.ptr 2 0),(7,.int .i64 b)],[.reg 152 1 (acc.map QBC ++ [[.own 1 (l.length + 1)]]),.reg 189 130 ((y :: l).map QA0),.box 189 (QAV false false (upF b))]⟩) (fun b=>127 - b) (fun b=>32 ≤ b ∧ b ≤ 127) 32 (by simp) (QAC (by simp) ?_) ?_
        ·have e0:rB 128 (upF 32) = rB 128 noF:=QBu fun t _=>by unfold upF noF; rw [decide_eq_false (by omega)]
         unfold QAV
         rw [e0]
         simp +decide -dsimp -implicitDefEqProofs [go_sem,QAi,QDr,QAa]
        intro b ⟨hb1,hb2⟩
        unfold QAV
        by_cases hbb:b < 127
        ·have hbb':(b:Int) ≤ 126:=by omega
         have wb:IntKind.i64.wrap ((b:Int) + 1) = b + 1:=w64 (by omega) (by omega)
         have b128:b < 128:=by omega
         have ee:=QEt (n:=128) (i:=b) (f:=upF b) (b:=true) b128
         have e2:(fun t=>if t = b then true else upF b t) = upF (b + 1):=by
          funext t
          unfold upF
          by_cases ht:t = b
          ·subst ht; rw [if_pos rfl,decide_eq_true (by omega)]
          ·rw [if_neg ht,decide_eq_decide]; omega
         rw [e2] at ee
         have tk:∀ (x y:AV) (l:List AV),(x :: y :: l).take (2 + b) = x :: y :: l.take b:=fun x y l=>by rw [Nat.add_comm]; rfl
         have dk:∀ (x y:AV) (l:List AV),(x :: y :: l).drop (2 + b + 1) = l.drop (b + 1):=fun x y l=>by rw [show 2 + b + 1 = (b + 1) + 2 by omega]; rfl
         simp +decide -dsimp -implicitDefEqProofs [go_sem,hbb',wb,b128,QAq,tk,dk,ee]
         refine ⟨by omega,QAG (b + 1) ⟨by omega,by omega⟩ (by show 127 - (b + 1) < 127 - b; omega) (QAC (by simp) ?_)⟩
         simp +decide -dsimp -implicitDefEqProofs [go_sem,QAi,QDr,QAa]
        ·have e9:b = 127:=by omega
         subst e9
         have e3:rB 128 (upF 127) = rB 128 (QLR QOm):=QBu fun t _=>by
          unfold upF QLR QOm
          by_cases ht:32 ≤ t ∧ t < 127
          ·rw [decide_eq_true ht,decide_eq_true (by omega),decide_eq_true (by omega)]; rfl
          ·rw [decide_eq_false ht,decide_eq_false (by omega)]; rfl
         rw [e3]
         refine gs ?_
         refine QAC (by simp) ?_
         simp +decide -dsimp -implicitDefEqProofs [go_sem,QA0,QAV,QAi,QAa,cb]
       have i63:¬ ((pc p q).toNat:Int) = 63:=by omega
       rw [if_neg n63] at he
       by_cases n91:(pc p q).toNat = 91
       ·rw [if_pos n91] at he
        have i91:((pc p q).toNat:Int) = 91:=by omega
        have c:=QNL p (q + 1) hp hl (by omega)
        unfold QAV at c
        obtain ⟨eg,hs,hx⟩:∃ eg,QGA p (q + 1) = some eg ∧ (⟨0,false,eg.2⟩,eg.1) = (x,q'):=by
         cases h:QGA p (q + 1) with
         | none=>rw [h] at he; cases he
         | some eg=>rw [h] at he; exact ⟨eg,rfl,Option.some.inj he⟩
        cases hx
        refine QAD ?_
        simp +decide -dsimp -implicitDefEqProofs [go_sem,pq,i91,wq]
        refine QBc [2] c rfl (fun v G h=>by unfold QG3 at h; rw [hs] at h; obtain ⟨_,rfl⟩:=h; rfl) (by simp) (by simp +decide -dsimp -implicitDefEqProofs [go_sem]) (by simp +decide -dsimp -implicitDefEqProofs [go_sem,QC2]) ?_
        intro v G hR
        unfold QG3 at hR
        rw [hs] at hR
        obtain ⟨rfl,rfl⟩:=hR
        unfold QAV
        simp +decide -dsimp -implicitDefEqProofs [go_sem,QC2]
        refine QAC (by simp) ?_
        simp +decide -dsimp -implicitDefEqProofs [go_sem,QA0,QAV,QAi,QAa,cb]
       ·rw [if_neg n91] at he
        have i91:¬ ((pc p q).toNat:Int) = 91:=by omega
        cases he
        have h126:(pc p q).toNat ≤ 126:=QK8 hp
        have h32:32 ≤ (pc p q).toNat:=hp32 _ (List.mem_of_getElem? pq)
        have h128:(pc p q).toNat < 128:=by omega
        have ee:=QEt (n:=128) (i:=(pc p q).toNat) (f:=noF) (b:=true) h128
        have e2:(fun j=>if j = (pc p q).toNat then true else noF j) = QLR (QRP (pc p q).toNat):=by
         funext j; unfold QRP noF QLR
         by_cases hj:j = (pc p q).toNat
         ·rw [if_pos hj]; subst hj; simp; omega
         ·rw [if_neg hj]; simp [hj]
        rw [e2] at ee
        have hl0:¬ (pc p q).toNat = 0:=by omega
        have eq:((q + 1:Nat):Int) - 1 = q:=by omega
        rw [eq]
        have tk:∀ (b:Nat) (x y:AV) (l:List AV),(x :: y :: l).take (2 + b) = x :: y :: l.take b:=fun b x y l=>by rw [Nat.add_comm]; rfl
        have dk:∀ (b:Nat) (x y:AV) (l:List AV),(x :: y :: l).drop (2 + b + 1) = l.drop (b + 1):=fun b x y l=>by rw [show 2 + b + 1 = (b + 1) + 2 by omega]; rfl
        refine QAD ?_
        simp +decide -dsimp -implicitDefEqProofs [go_sem,pq,hb',i42,i63,i91,h128,QAq,tk,dk,ee]
        refine ⟨by omega,QAN (by simp) ?_⟩
        simp +decide -dsimp -implicitDefEqProofs [go_sem,QA0,QAV,hl0,QAi,QAa,cb]
      have wl:IntKind.i64.wrap (acc.length:Int) = acc.length:=w64 (by omega) (by omega)
      have e130:(QA0 x).take 130 = QA0 x:=List.take_of_length_le (by rw [QFV]; omega)
      refine gS ?_
      refine QAD ?_
      simp +decide -dsimp -implicitDefEqProofs [go_sem,wl,r2,e130,QFV,maxLen]
      refine ⟨⟨by omega,by omega⟩,QAN (by simp [QF0,QIW]) ?_⟩
      simp +decide -dsimp -implicitDefEqProofs [go_sem,QF0,QIV,QIW,QAi,QDr]
     have wq':IntKind.i64.wrap (q':Int) = q':=w64 (by omega) (by omega)
     refine QAD ?_
     simp +decide -dsimp -implicitDefEqProofs [go_sem,wq',QF0,QIV,QIW]
     refine QAG ⟨q',acc,y :: (l ++ [x])⟩ ⟨hlt.2,by show acc.length ≤ q'; omega,by simp at h2b ⊢; omega,by rw [h3]; rfl⟩ (by show p.length - q' < p.length - q; omega) (QAC (by simp [QF0,QIW]) ?_)
     simp +decide -dsimp -implicitDefEqProofs [go_sem,QF0,QIV,QIW,QAi,QDr]
  ·have e:q = p.length:=by omega
   subst e
   rw [QM7] at h3
   refine QAD ?_
   unfold QF0
   refine gs ?_
   refine QAs (acc ++ [cur]) h3 (Wk.cut1 4 (.own 0 (acc.length + 1)) _ [] (by simp) rfl (.frz 0 _ 152 1 _ _ (by simp) (by simp) rfl (by simp) (QJS (by simp) fun x l e=>by subst e; rfl)) ?_ (QEs (by simp) fun o x y hx hy=>by simp at hy))
   simp +decide -dsimp -implicitDefEqProofs [go_sem]
 intro L h
 rw [h]
 refine QAD ?_
 simp +decide -dsimp -implicitDefEqProofs [go_sem,QAi]
end Go.Ab
namespace Go.Ab
open Go Go.Proofs
def plU (l:List El) (f:Nat → Bool):Nat → Nat → Bool
 | 0=>f
 | n + 1=>fun j=>if j = n + 1 ∧ plU l f n n = true ∧ (∃ h:n < l.length,l[n].star = true) then true else plU l f n j
def VF (l:List El) (t:List UInt8) (g:Nat → Bool):Prop:=∃ i,i ≤ l.length ∧ g i = true ∧ mtch (l.drop i) t = true
theorem QNN {l:List El} {f:Nat → Bool}:∀ {n j:Nat},plU l f n j = true → plU l f (n + 1) j = true:=fun {n j} h=>by
 show (if _ then true else plU l f n j) = true
 split
 ·rfl
 ·exact h
theorem QUg {l:List El} {f:Nat → Bool} {n j:Nat} (h:j ≤ n):plU l f (n + 1) j = plU l f n j:=by
 show (if _ then true else plU l f n j) = _
 rw [if_neg (fun h2=>by omega)]
theorem QG4 {l:List El} {f:Nat → Bool}:∀ n,n ≤ l.length → ∀ i,i < n → ∀ h:i < l.length,plU l f n i = true → l[i].star = true → plU l f n (i + 1) = true
 | 0,_,i,hi,_,_,_=>by omega
 | n + 1,hn,i,hi,h,h1,h2=>by
  rw [QUg (by omega)] at h1
  by_cases hin:i = n
  ·subst hin
   show (if _ then true else plU l f i (i + 1)) = true
   rw [if_pos ⟨rfl,h1,h,h2⟩]
  ·exact QNN (QG4 n (by omega) i (by omega) h h1 h2)
theorem QUh {l:List El} {f:Nat → Bool} {t:List UInt8}:∀ n,n ≤ l.length → (VF l t (plU l f n) ↔ VF l t f)
 | 0,_=>Iff.rfl
 | n + 1,hn=>by
  refine Iff.trans ?_ (QUh n (by omega))
  constructor
  ·rintro ⟨i,h1,h2,h3⟩
   have h2':(if i = n + 1 ∧ plU l f n n = true ∧ (∃ h:n < l.length,l[n].star = true) then true else plU l f n i) = true:=h2
   split at h2'
   ·rename_i hc
    obtain ⟨rfl,h4,h5,h6⟩:=hc
    refine ⟨n,by omega,h4,?_⟩
    rw [QBb h5,QHR h6,h3]; rfl
   ·exact ⟨i,h1,h2',h3⟩
  ·rintro ⟨i,h1,h2,h3⟩
   exact ⟨i,h1,QNN h2,h3⟩
def QIX (l:List El) (g:Nat → Bool):Prop:=∀ i,∀ h:i < l.length,g i = true → l[i].star = true → g (i + 1) = true
def nxU (l:List El) (g:Nat → Bool) (c:Nat):Nat → Nat → Bool
 | 0=>fun _=>false
 | n + 1=>fun j=>if (j = n ∧ g n = true ∧ (∃ h:n < l.length,l[n].star = true)) ∨ (j = n + 1 ∧ g n = true ∧ (∃ h:n < l.length,l[n].star = false ∧ l[n].set c = true)) then true else nxU l g c n j
theorem QIY {l:List El} {g:Nat → Bool} {c:Nat}:∀ n j,nxU l g c n j = true ↔ ∃ i,i < n ∧ g i = true ∧ ∃ h:i < l.length,(l[i].star = true ∧ j = i) ∨ (l[i].star = false ∧ l[i].set c = true ∧ j = i + 1)
 | 0,j=>by simp [nxU]
 | n + 1,j=>by
  show (if _ then true else nxU l g c n j) = true ↔ _
  constructor
  ·intro h
   split at h
   ·rename_i hc
    rcases hc with ⟨rfl,h1,h2,h3⟩ | ⟨rfl,h1,h2,h3,h4⟩
    ·exact ⟨j,by omega,h1,h2,.inl ⟨h3,rfl⟩⟩
    ·exact ⟨n,by omega,h1,h2,.inr ⟨h3,h4,rfl⟩⟩
   ·obtain ⟨i,h1,h2⟩:=(QIY n j).1 h
    exact ⟨i,by omega,h2⟩
  ·rintro ⟨i,h1,h2,h3,h4⟩
   by_cases hin:i = n
   ·subst hin
    rw [if_pos]
    rcases h4 with ⟨h5,h6⟩ | ⟨h5,h6,h7⟩
    ·exact .inl ⟨h6,h2,h3,h5⟩
    ·exact .inr ⟨h7,h2,h3,h5,h6⟩
   ·split
    ·rfl
    ·exact (QIY n j).2 ⟨i,by omega,h2,h3,h4⟩
theorem QXz {l:List El} {g:Nat → Bool} {c:UInt8} {t:List UInt8} (hc:QIX l g):VF l (c :: t) g ↔ VF l t (nxU l g c.toNat l.length):=by
 constructor
 ·have key:∀ n i,l.length - i ≤ n → i ≤ l.length → g i = true → mtch (l.drop i) (c :: t) = true → VF l t (nxU l g c.toNat l.length):=by
   intro n
   induction n with
   | zero=>
    intro i hn hi hg hm
    rw [List.drop_eq_nil_of_le (by omega),QMH] at hm
    cases hm
   | succ n ih=>
    intro i hn hi hg hm
    by_cases hl:i < l.length
    ·rw [QBb hl] at hm
     cases hs:l[i].star with
     | true=>
      rw [QHR hs,Bool.or_eq_true] at hm
      rcases hm with hm | hm
      ·exact ih (i + 1) (by omega) hl (hc i hl hg hs) hm
      ·refine ⟨i,hi,(QIY _ _).2 ⟨i,hl,hg,hl,.inl ⟨hs,rfl⟩⟩,?_⟩
       rw [QBb hl]; exact hm
     | false=>
      rw [QLD hs] at hm
      simp only [Bool.and_eq_true] at hm
      exact ⟨i + 1,hl,(QIY _ _).2 ⟨i,hl,hg,hl,.inr ⟨hs,hm.1,rfl⟩⟩,hm.2⟩
    ·rw [List.drop_eq_nil_of_le (by omega),QMH] at hm
     cases hm
  rintro ⟨i,h1,h2,h3⟩
  exact key _ i (Nat.le_refl _) h1 h2 h3
 ·rintro ⟨j,h1,h2,h3⟩
  obtain ⟨i,hi,hg,hl,h4⟩:=(QIY _ _).1 h2
  rcases h4 with ⟨hs,rfl⟩ | ⟨hs,hset,rfl⟩
  ·refine ⟨j,h1,hg,?_⟩
   rw [QBb hl] at h3 ⊢
   rw [QHR hs,Bool.or_eq_true]
   exact .inr h3
  ·refine ⟨i,by omega,hg,?_⟩
   rw [QBb hl,QLD hs]
   simp [hset,h3]
theorem QaC {l:List El} {g:Nat → Bool} (hc:QIX l g):VF l [] g ↔ g l.length = true:=by
 constructor
 ·have key:∀ n i,l.length - i ≤ n → i ≤ l.length → g i = true → mtch (l.drop i) [] = true → g l.length = true:=by
   intro n
   induction n with
   | zero=>
    intro i hn hi hg _
    have:i = l.length:=by omega
    rw [← this]; exact hg
   | succ n ih=>
    intro i hn hi hg hm
    by_cases hl:i < l.length
    ·rw [QBb hl] at hm
     cases hs:l[i].star with
     | true=>
      rw [QHR hs] at hm
      exact ih (i + 1) (by omega) hl (hc i hl hg hs) (by simpa using hm)
     | false=>rw [QLD hs] at hm; cases hm
    ·have:i = l.length:=by omega
     rw [← this]; exact hg
  rintro ⟨i,h1,h2,h3⟩
  exact key _ i (Nat.le_refl _) h1 h2 h3
 ·intro h
  exact ⟨l.length,Nat.le_refl _,h,by rw [List.drop_eq_nil_of_le (Nat.le_refl _),QMH]; rfl⟩
def QTK (j:Nat):Bool:=decide (j = 0)
theorem beg_V {l:List El} {s:List UInt8}:VF l s QTK ↔ mtch l s = true:=by
 constructor
 ·rintro ⟨i,_,h2,h3⟩
  have:i = 0:=by simpa [QTK] using h2
  rw [this] at h3; exact h3
 ·intro h
  exact ⟨0,Nat.zero_le _,rfl,h⟩
end Go.Ab
namespace Go.Ab
open Go Go.Proofs
def QC6 (bs:List Bool):List (List AV):=bs.map fun b=>[.bool b]
theorem QBR (k:Nat) (bs:List Bool):QAb k (QC6 bs) = true:=QAn fun _ _=>rfl
theorem QDV (bs:List Bool):(QC6 bs).length = bs.length:=by simp [QC6]
theorem QRl {n:Nat} {f:Nat → Bool} {i:Nat} (h:i < n):(QC6 (rB n f))[i]? = some [.bool (f i)]:=by
 unfold QC6
 rw [List.getElem?_map,List.getElem?_eq_getElem (by simpa using h),QK7]; rfl
theorem QC7 {n:Nat} {f:Nat → Bool} {i:Nat} (h:i < (QC6 (rB n f)).length):(QC6 (rB n f))[i] = [.bool (f i)]:=by
 have h2:i < n:=by simpa [QDV] using h
 have:=QRl (f:=f) h2
 rw [List.getElem?_eq_getElem h] at this
 exact Option.some.inj this
theorem QGT {n i:Nat} {f:Nat → Bool} {b:Bool}:(QC6 (rB n f)).set i [.bool b] = QC6 (rB n fun j=>if j = i then b else f j):=by
 unfold QC6
 rw [← QSt,List.map_set]
theorem QPy (bs:List Bool):∀ r ∈ QC6 bs,r.length = 1:=fun r hr=>by obtain ⟨b,_,rfl⟩:=List.mem_map.1 hr; rfl
set_option maxRecDepth 20000
theorem QGU (p:List UInt8) (hl:p.length < 9223372036854775807):ACalls Tryz.prog 75 [.str p] [] (.int .i64 (QCD p)) []:=by
 by_cases h:(256:Int) < p.length
 ·have hn:¬ QCb p = true:=fun ht=>by have:=(QGs ht).2; omega
  have h':p.length > 256:=by omega
  have e:QCD p = 21:=by unfold QCD QCf; rw [if_neg hn]; exact if_pos h'
  rw [e]
  refine QAH cqq rfl ?_
  simp +decide -dsimp -implicitDefEqProofs [go_sem,h]
 ·have h':¬ p.length > 256:=by omega
  have c:=QNM p (by omega)
  have et:QCb p = QBJ p:=by unfold QCb; rw [decide_eq_true (by omega),Bool.and_true]
  unfold QMO at c
  unfold QCD QCf
  rw [et]
  refine QAH cqq rfl ?_
  simp +decide -dsimp -implicitDefEqProofs [go_sem,h]
  cases hL:(if QBJ p = true then QGB p 0 [] [] else none) with
  | none=>
   rw [hL] at c
   refine QAA c rfl rfl ?_
   simp +decide -dsimp -implicitDefEqProofs [go_sem,h']
  | some L=>
   rw [hL] at c
   refine QAA c rfl (by simp [QAE,QAB,QAi]) ?_
   simp +decide -dsimp -implicitDefEqProofs [go_sem]
theorem QNO (l:List El) (f:Nat → Bool) (hl:l.length ≤ 100000):ACalls Tryz.prog 159 [.imm (l.map QA0),.imm (QC6 (rB (l.length + 1) f))] [] (.imm (QC6 (rB (l.length + 1) (plU l f l.length)))) []:=by
 have hrow:=QPy (rB (l.length + 1) f)
 have hne:QC6 (rB (l.length + 1) f) ≠ []:=fun e=>by have:=congrArg List.length e; simp [QDV] at this
 have hlen:(QC6 (rB (l.length + 1) f)).length = l.length + 1:=by rw [QDV,QJE]
 refine QA2 cqq rfl ?_
 refine gS ?_
 refine QBU ?_
 simp +decide -dsimp -implicitDefEqProofs [go_sem,maxLen,hlen]
 refine ⟨hrow,⟨by omega,by omega⟩,?_⟩
 refine QAP ⟨tmps 31 [(5,.own 0 (l.length + 1))],[.reg 4 1 (QC6 (rB (l.length + 1) (plU l f l.length)))]⟩ (QAD ?_) ?_
 ·simp +decide -dsimp -implicitDefEqProofs [go_sem]
  refine QAQ (S:=Nat) (fun n=>⟨tmps 31 [(0,.imm (l.map QA0)),(5,.own 0 (l.length + 1)),(6,.int .i64 n)],[.reg 4 1 (QC6 (rB (l.length + 1) (plU l f n)))]⟩) (fun n=>l.length - n) (fun n=>n ≤ l.length) 0 (by simp) (QAC (by simp) ?_) ?_
  ·simp +decide -dsimp -implicitDefEqProofs [go_sem,QAz,QBR,plU]
  intro n hn
  have hlen2:∀ g,(QC6 (rB (l.length + 1) g)).length = l.length + 1:=fun g=>by rw [QDV,QJE]
  by_cases h:n < l.length
  ·have h':(n:Int) < l.length:=by omega
   have w:IntKind.i64.wrap ((n:Int) + 1) = n + 1:=w64 (by omega) (by omega)
   have st:=QGT (n:=l.length + 1) (f:=plU l f n) (i:=n + 1) (b:=true)
   have tn:((n:Int) + 1).toNat = n + 1:=by omega
   have n0:(0:Int) ≤ (n:Int) + 1:=by omega
   have la:QA0 l[n] = .bool l[n].star :: .bool (decide (l[n].lit ≠ 0)) :: bB (rB 128 (if l[n].star = true then noF else QLR l[n].set)):=rfl
   have fin:n + 1 ≤ l.length ∧ l.length - (n + 1) < l.length - n:=⟨h,by omega⟩
   have hn1:n < l.length + 1:=by omega
   have hn2:n + 1 < l.length + 1:=by omega
   cases hb:plU l f n n with
   | false=>
    have e:(rB (l.length + 1) (plU l f n)) = rB (l.length + 1) (plU l f (n + 1)):=QBu fun j _=>by
     show _ = (if _ then true else plU l f n j)
     rw [if_neg (fun h2=>by rw [hb] at h2; exact absurd h2.2.1 (by decide))]
    simp +decide -dsimp -implicitDefEqProofs [go_sem,h',QC7,hb,w,hlen2,hn1]
    refine QAG (n + 1) fin.1 fin.2 (QAC (by simp) ?_)
    rw [e]
    simp +decide -dsimp -implicitDefEqProofs [go_sem,QAz,QBR]
   | true=>
    cases hs:l[n].star with
    | false=>
     have e:(rB (l.length + 1) (plU l f n)) = rB (l.length + 1) (plU l f (n + 1)):=QBu fun j _=>by
      show _ = (if _ then true else plU l f n j)
      rw [if_neg (fun h2=>by obtain ⟨_,_,_,h3⟩:=h2; rw [hs] at h3; cases h3)]
     simp +decide -dsimp -implicitDefEqProofs [go_sem,h',h,la,hs,QC7,hb,w,hlen2,hn1,QAq]
     refine QAG (n + 1) fin.1 fin.2 (QAC (by simp) ?_)
     rw [e]
     simp +decide -dsimp -implicitDefEqProofs [go_sem,QAz,QBR]
    | true=>
     have e:(rB (l.length + 1) fun j=>if j = n + 1 then true else plU l f n j) = rB (l.length + 1) (plU l f (n + 1)):=QBu fun j _=>by
      show _ = (if _ then true else plU l f n j)
      by_cases hj:j = n + 1
      ·rw [if_pos hj,if_pos ⟨hj,hb,h,hs⟩]
      ·rw [if_neg hj,if_neg (fun h2=>hj h2.1)]
     rw [e] at st
     simp +decide -dsimp -implicitDefEqProofs [go_sem,h',h,la,hs,QC7,hb,w,hlen2,hn1,hn2,tn,n0,st,QAq]
     refine QAG (n + 1) fin.1 fin.2 (QAC (by simp) ?_)
     simp +decide -dsimp -implicitDefEqProofs [go_sem,QAz,QBR]
  ·have e:n = l.length:=by have:n ≤ l.length:=hn; omega
   subst e
   refine gs ?_
   refine QAC (by simp) ?_
   simp +decide -dsimp -implicitDefEqProofs [go_sem,QBR]
 refine QAD ?_
 simp +decide -dsimp -implicitDefEqProofs [go_sem,QBR,QDV]
end Go.Ab
namespace Go.Ab
open Go Go.Proofs
set_option maxRecDepth 20000
theorem QPz (n:Nat):List.replicate n [AV.bool false] = QC6 (rB n noF):=by simp [QC6,rB,Function.comp_def,List.map_const',noF]
structure OS where
 k:Nat
 g:Nat → Bool
theorem QX0 (l:List El) (s:List UInt8) (hl:l.length ≤ 100000) (hs:s.length ≤ 1000000) (hb:∀ c ∈ s,32 ≤ c.toNat ∧ c.toNat ≤ 126):ACalls Tryz.prog 113 [.imm (l.map QA0),.str s] [] (.bool (mtch l s)) []:=by
 have wl:IntKind.i64.wrap ((l.length:Int) + 1) = l.length + 1:=w64 (by omega) (by omega)
 have tl:((l.length:Int) + 1).toNat = l.length + 1:=by omega
 have n0:(0:Int) ≤ (l.length:Int) + 1:=by omega
 have hlen2:∀ g,(QC6 (rB (l.length + 1) g)).length = l.length + 1:=fun g=>by rw [QDV,QJE]
 refine QA2 cqq rfl ?_
 refine gS ?_
 refine QBU ?_
 simp +decide -dsimp -implicitDefEqProofs [go_sem,wl,tl,n0,maxLen,QPz]
 refine ⟨⟨by omega,by omega⟩,?_⟩
 refine QAP ⟨tmps 83 [(0,.imm (l.map QA0)),(1,.str s),(5,.imm (QC6 (rB (l.length + 1) QTK)))],[]⟩ (QAD ?_) ?_
 ·have st:=QGT (n:=l.length + 1) (f:=noF) (i:=0) (b:=true)
  have e:(rB (l.length + 1) fun j=>if j = 0 then true else noF j) = rB (l.length + 1) QTK:=QBu fun j _=>by unfold QTK noF; by_cases h:j = 0 <;> simp [h]
  rw [e] at st
  simp +decide -dsimp -implicitDefEqProofs [go_sem,hlen2,QC7,st]
  refine QAC (by simp) ?_
  simp +decide -dsimp -implicitDefEqProofs [go_sem,QAz,QBR,QDV]
 have c1:=QNO l QTK hl
 refine gS ?_
 refine QAA c1 (by simp [QAB,QAE,QAz,QBR]) (by simp [QAE,QBR]) ?_
 refine gs ?_
 have hcl0:QIX l (plU l QTK l.length):=fun i h h1 h2=>QG4 _ (Nat.le_refl _) i h h h1 h2
 refine QA6 (S:=Nat → Bool) (fun g=>⟨tmps 83 [(0,.imm (l.map QA0)),(5,.imm (QC6 (rB (l.length + 1) g)))],[]⟩) (fun g=>QIX l g ∧ (mtch l s = true ↔ VF l [] g)) (QAD ?_) ?_
 ·simp +decide -dsimp -implicitDefEqProofs [go_sem]
  refine QBH (S:=OS) (fun x=>⟨tmps 83 [(0,.imm (l.map QA0)),(1,.str s),(5,.imm (QC6 (rB (l.length + 1) x.g))),(6,.int .i64 x.k)],[]⟩) (fun x=>s.length - x.k) (fun x=>x.k ≤ s.length ∧ QIX l x.g ∧ (mtch l s = true ↔ VF l (s.drop x.k) x.g)) ⟨0,plU l QTK l.length⟩ ⟨Nat.zero_le _,hcl0,(beg_V.symm.trans (QUh _ (Nat.le_refl _)).symm)⟩ (QAC (by simp) ?_) ?_
  ·simp +decide -dsimp -implicitDefEqProofs [go_sem,QAz,QBR]
  rintro ⟨k,g⟩ ⟨h1,h2,h3⟩
  simp only at h1 h2 h3
  by_cases hk:k < s.length
  ·have hk':(k:Int) < s.length:=by omega
   have wk:IntKind.i64.wrap ((k:Int) + 1) = k + 1:=w64 (by omega) (by omega)
   have sk:s[k]? = some s[k]:=List.getElem?_eq_getElem hk
   have hc:=hb s[k] (List.getElem_mem hk)
   rw [QBb hk,QXz h2] at h3
   generalize s[k] = c at sk hc h3
   refine QAP ⟨tmps 83 [(0,.imm (l.map QA0)),(1,.str s),(5,.imm (QC6 (rB (l.length + 1) g))),(6,.int .i64 k)],[]⟩ (QAD ?_) ?_
   ·simp +decide -dsimp -implicitDefEqProofs [go_sem,hk']
    refine QAC (by simp) ?_
    simp +decide -dsimp -implicitDefEqProofs [go_sem,QAz,QBR]
   refine QAP ⟨tmps 83 [(0,.imm (l.map QA0)),(1,.str s),(5,.imm (QC6 (rB (l.length + 1) (plU l (nxU l g c.toNat l.length) l.length)))),(6,.int .i64 k)],[]⟩ ?_ ?_
   ·refine QBZ ?_
    refine QBU ?_
    simp +decide -dsimp -implicitDefEqProofs [go_sem,wl,tl,n0,maxLen,QPz]
    refine ⟨⟨by omega,by omega⟩,?_⟩
    refine QAP ⟨tmps 83 [(0,.imm (l.map QA0)),(1,.str s),(6,.int .i64 k),(7,.imm (QC6 (rB (l.length + 1) (nxU l g c.toNat l.length))))],[]⟩ (QAD ?_) ?_
    ·simp +decide -dsimp -implicitDefEqProofs [go_sem]
     refine QAQ (S:=Nat) (fun n=>⟨tmps 83 [(0,.imm (l.map QA0)),(1,.str s),(5,.imm (QC6 (rB (l.length + 1) g))),(6,.int .i64 k),(7,.own 0 (l.length + 1)),(8,.int .i64 n)],[.reg 4 1 (QC6 (rB (l.length + 1) (nxU l g c.toNat n)))]⟩) (fun n=>l.length - n) (fun n=>n ≤ l.length) 0 (by simp) (QAC (by simp) ?_) ?_
     ·have e0:nxU l g c.toNat 0 = noF:=rfl
      rw [e0]
      simp +decide -dsimp -implicitDefEqProofs [go_sem,QAz,QBR]
     intro n hn
     by_cases h:n < l.length
     ·have h':(n:Int) < l.length:=by omega
      have w:IntKind.i64.wrap ((n:Int) + 1) = n + 1:=w64 (by omega) (by omega)
      have tn:((n:Int) + 1).toNat = n + 1:=by omega
      have nn:(0:Int) ≤ (n:Int) + 1:=by omega
      have hn1:n < l.length + 1:=by omega
      have hn2:n + 1 < l.length + 1:=by omega
      have c128:c.toNat < 128:=by omega
      have fin:n + 1 ≤ l.length ∧ l.length - (n + 1) < l.length - n:=⟨h,by omega⟩
      have stp:∀ j,nxU l g c.toNat (n + 1) j = if (j = n ∧ g n = true ∧ (∃ h:n < l.length,l[n].star = true)) ∨ (j = n + 1 ∧ g n = true ∧ (∃ h:n < l.length,l[n].star = false ∧ l[n].set c.toNat = true)) then true else nxU l g c.toNat n j:=fun j=>rfl
      cases hg:g n with
      | false=>
       have e:rB (l.length + 1) (nxU l g c.toNat n) = rB (l.length + 1) (nxU l g c.toNat (n + 1)):=QBu fun j _=>by
        rw [stp,if_neg]
        rintro (⟨_,h2,_⟩ | ⟨_,h2,_⟩) <;> rw [hg] at h2 <;> cases h2
       simp +decide -dsimp -implicitDefEqProofs [go_sem,h',QC7,hg,w,hlen2,hn1]
       refine QAG (n + 1) fin.1 fin.2 (QAC (by simp) ?_)
       rw [e]
       simp +decide -dsimp -implicitDefEqProofs [go_sem,QAz,QBR]
      | true=>
       cases hst:l[n].star with
       | true=>
        have la:QA0 l[n] = .bool true :: .bool (decide (l[n].lit ≠ 0)) :: bB (rB 128 noF):=by unfold QA0 QAV; rw [hst]; rfl
        have st:=QGT (n:=l.length + 1) (f:=nxU l g c.toNat n) (i:=n) (b:=true)
        have e:(rB (l.length + 1) fun j=>if j = n then true else nxU l g c.toNat n j) = rB (l.length + 1) (nxU l g c.toNat (n + 1)):=QBu fun j _=>by
         rw [stp]
         by_cases hj:j = n
         ·rw [if_pos hj,if_pos (.inl ⟨hj,hg,h,hst⟩)]
         ·rw [if_neg hj,if_neg]
          rintro (⟨h2,_⟩ | ⟨_,_,_,h2,_⟩)
          ·exact hj h2
          ·rw [hst] at h2; cases h2
        rw [e] at st
        simp +decide -dsimp -implicitDefEqProofs [go_sem,h',h,la,QC7,hg,w,hlen2,hn1,st,QAq]
        refine QAG (n + 1) fin.1 fin.2 (QAC (by simp) ?_)
        simp +decide -dsimp -implicitDefEqProofs [go_sem,QAz,QBR]
       | false=>
        have la:QA0 l[n] = .bool false :: .bool (decide (l[n].lit ≠ 0)) :: bB (rB 128 (QLR l[n].set)):=by unfold QA0 QAV; rw [hst]; rfl
        have lset:(rB 128 (QLR l[n].set))[c.toNat]'(by rw [QJE]; exact c128) = l[n].set c.toNat:=by rw [QK7]; unfold QLR; rw [decide_eq_true hc,Bool.true_and]
        cases hset:l[n].set c.toNat with
        | true=>
         rw [hset] at lset
         have st:=QGT (n:=l.length + 1) (f:=nxU l g c.toNat n) (i:=n + 1) (b:=true)
         have e:(rB (l.length + 1) fun j=>if j = n + 1 then true else nxU l g c.toNat n j) = rB (l.length + 1) (nxU l g c.toNat (n + 1)):=QBu fun j _=>by
          rw [stp]
          by_cases hj:j = n + 1
          ·rw [if_pos hj,if_pos (.inr ⟨hj,hg,h,hst,hset⟩)]
          ·rw [if_neg hj,if_neg]
           rintro (⟨_,_,_,h2⟩ | ⟨h2,_⟩)
           ·rw [hst] at h2; cases h2
           ·exact hj h2
         rw [e] at st
         simp +decide -dsimp -implicitDefEqProofs [go_sem,h',h,la,QC7,hg,w,hlen2,hn1,hn2,tn,nn,st,sk,c128,QAq,QGX,lset]
         refine QAG (n + 1) fin.1 fin.2 (QAC (by simp) ?_)
         simp +decide -dsimp -implicitDefEqProofs [go_sem,QAz,QBR]
        | false=>
         rw [hset] at lset
         have e:rB (l.length + 1) (nxU l g c.toNat n) = rB (l.length + 1) (nxU l g c.toNat (n + 1)):=QBu fun j _=>by
          rw [stp,if_neg]
          rintro (⟨_,_,_,h2⟩ | ⟨_,_,_,_,h2⟩)
          ·rw [hst] at h2; cases h2
          ·rw [hset] at h2; cases h2
         simp +decide -dsimp -implicitDefEqProofs [go_sem,h',h,la,QC7,hg,w,hlen2,hn1,hn2,sk,c128,QAq,QGX,lset]
         refine QAG (n + 1) fin.1 fin.2 (QAC (by simp) ?_)
         rw [e]
         simp +decide -dsimp -implicitDefEqProofs [go_sem,QAz,QBR]
     ·have e:n = l.length:=by have:n ≤ l.length:=hn; omega
      subst e
      refine gs ?_
      refine QAC (by simp) ?_
      simp +decide -dsimp -implicitDefEqProofs [go_sem,QAz,QBR,QDV]
    have c2:=QNO l (nxU l g c.toNat l.length) hl
    refine QAD ?_
    refine gs ?_
    refine QAA c2 (by simp [QAB,QAE,QAz,QBR]) (by simp [QAE,QBR]) ?_
    refine gs ?_
    refine QAN (by simp) ?_
    simp +decide -dsimp -implicitDefEqProofs [go_sem,QAz,QBR]
   refine QAD ?_
   simp +decide -dsimp -implicitDefEqProofs [go_sem,wk]
   refine QAG (⟨k + 1,plU l (nxU l g c.toNat l.length) l.length⟩:OS) ⟨hk,fun i h h1 h2=>QG4 _ (Nat.le_refl _) i h h h1 h2,h3.trans (QUh _ (Nat.le_refl _)).symm⟩ (by show s.length - (k + 1) < s.length - k; omega) (QAC (by simp) ?_)
   simp +decide -dsimp -implicitDefEqProofs [go_sem,QAz,QBR]
  ·have hk':¬ (k:Int) < s.length:=by omega
   have e:s.drop k = []:=List.drop_eq_nil_of_le (by omega)
   rw [e] at h3
   refine QAD ?_
   simp +decide -dsimp -implicitDefEqProofs [go_sem,hk']
   refine QAs g ⟨h2,h3⟩ (QAC (by simp) ?_)
   simp +decide -dsimp -implicitDefEqProofs [go_sem,QAz,QBR]
 intro g ⟨h1,h2⟩
 have e:mtch l s = g l.length:=by
  rw [QaC h1] at h2
  cases hm:mtch l s with
  | true=>exact (h2.1 hm).symm
  | false=>
   cases hg:g l.length with
   | false=>rfl
   | true=>rw [h2.2 hg] at hm; cases hm
 rw [e]
 have hll:l.length < l.length + 1:=by omega
 refine QAD ?_
 simp +decide -dsimp -implicitDefEqProofs [go_sem,hlen2,hll,QC7]
end Go.Ab
namespace Go.Ab
open Go Go.Proofs
set_option maxRecDepth 20000
theorem QRm {s:List UInt8} (h:QBJ s = true):∀ c ∈ s,32 ≤ c.toNat ∧ c.toNat ≤ 126:=fun c hc=>by
 unfold QBJ at h
 have:=List.all_eq_true.1 h c hc
 simpa using this
theorem QNP (p s:List UInt8) (hl:p.length < 9223372036854775807) (hs:s.length ≤ 1000000):ACalls Tryz.prog 76 [.str p,.str s] [] (.bool (QDR p s)) []:=by
 have c1:=QGU p hl
 have c2:=QNJ s (by omega)
 unfold QDR
 refine QA2 cqq rfl ?_
 refine gS ?_
 cases hL:QCf p with
 | none=>
  have e2:¬ QCD p = 0:=by unfold QCD; rw [hL]; dsimp only; split <;> omega
  refine QAD ?_
  refine gs ?_
  refine QAA c1 rfl rfl ?_
  simp +decide -dsimp -implicitDefEqProofs [go_sem,e2]
 | some L=>
  have e2:QCD p = 0:=by unfold QCD; rw [hL]
  rw [e2] at c1
  cases hp:QBJ s with
  | false=>
   rw [hp] at c2
   refine QAD ?_
   refine gs ?_
   refine QAA c1 rfl rfl ?_
   refine gs ?_
   refine QAA c2 rfl rfl ?_
   simp +decide -dsimp -implicitDefEqProofs [go_sem]
  | true=>
   rw [hp] at c2
   have ht:QCb p = true:=by
    unfold QCf at hL
    split at hL
    ·assumption
    ·cases hL
   have hA:QGB p 0 [] [] = some L:=by unfold QCf at hL; rw [if_pos ht] at hL; exact hL
   have hpp:QBJ p = true:=by
    unfold QCb at ht
    simp only [Bool.and_eq_true] at ht
    exact ht.1
   have c3:=QNM p (by have:=(QGs ht).2; omega)
   unfold QMO at c3
   rw [if_pos hpp,hA] at c3
   obtain ⟨hs1,hs2⟩:=QHS hL
   simp only [Bool.true_and]
   refine gS ?_
   refine QAA c1 rfl rfl ?_
   refine gs ?_
   refine QAA c2 rfl rfl ?_
   refine gs ?_
   refine gS ?_
   refine QAA c3 rfl (by simp [QAE,QAB,QAi]) ?_
   refine gs ?_
   refine QAD ?_
   refine gs ?_
   refine QAQ (S:=Nat) (fun i=>⟨tmps 33 [(1,.str s),(5,.imm (L.map QBC)),(7,.int .i64 i)],[]⟩) (fun i=>L.length - i) (fun i=>i ≤ L.length ∧ (L.take i).any (fun l=>mtch l s) = false) 0 (by simp) (QAC (by simp) ?_) ?_
   ·simp +decide -dsimp -implicitDefEqProofs [go_sem,QAi]
   intro i ⟨hi,hi2⟩
   by_cases h:i < L.length
   ·have h':(i:Int) < L.length:=by omega
    have w:IntKind.i64.wrap ((i:Int) + 1) = i + 1:=w64 (by omega) (by omega)
    have cm:=QX0 L[i] s (by have:=hs1 _ (List.getElem_mem h); omega) hs (QRm hp)
    have ha:QBC L[i] = [.imm (L[i].map QA0)]:=rfl
    simp +decide -dsimp -implicitDefEqProofs [go_sem,h',h,ha]
    refine QAA cm (by simp [QAE,QAB,QAz]) rfl ?_
    cases hm:mtch L[i] s with
    | true=>
     have e:(L.any fun l=>mtch l s) = true:=List.any_eq_true.2 ⟨_,List.getElem_mem h,hm⟩
     rw [e]
     simp +decide -dsimp -implicitDefEqProofs [go_sem]
    | false=>
     simp +decide -dsimp -implicitDefEqProofs [go_sem,w]
     refine QAG (i + 1) ⟨h,by rw [List.take_succ_eq_append_getElem h,List.any_append,hi2]; simp [hm]⟩ (by show L.length - (i + 1) < L.length - i; omega) (QAC (by simp) ?_)
     simp +decide -dsimp -implicitDefEqProofs [go_sem,QAi]
   ·have h':¬ (i:Int) < L.length:=by omega
    have e:i = L.length:=by omega
    rw [e,List.take_length] at hi2
    rw [hi2]
    simp +decide -dsimp -implicitDefEqProofs [go_sem,h']
end Go.Ab
namespace Go.Ab
open Go Go.Proofs
set_option maxRecDepth 20000
theorem QaD (l m:List (List UInt8)) (hl:l.length < 1000000000):ACalls Tryz.prog 137 [.imm (l.map QAT),.imm (m.map QAT)] [] (.bool (decide (l = m))) []:=by
 refine QAH cqq rfl ?_
 by_cases hlen:l.length = m.length
 rotate_left
 ·have hlen':¬ (l.length:Int) = m.length:=by omega
  have e:decide (l = m) = false:=decide_eq_false fun h=>hlen (by rw [h])
  rw [e]
  simp +decide -dsimp -implicitDefEqProofs [go_sem,hlen']
 have hlen':(l.length:Int) = m.length:=by omega
 simp +decide -dsimp -implicitDefEqProofs [go_sem,hlen']
 refine QAQ (S:=Nat) (fun i=>⟨tmps 26 [(0,.imm (l.map QAT)),(1,.imm (m.map QAT)),(12,.int .i64 m.length),(13,.int .i64 i)],[]⟩) (fun i=>m.length - i) (fun i=>i ≤ m.length ∧ l.take i = m.take i) 0 (by simp) (QAC (by simp) ?_) ?_
 ·simp +decide -dsimp -implicitDefEqProofs [go_sem,QAF]
 intro i ⟨hi,hi2⟩
 by_cases h:i < m.length
 ·have h':(i:Int) < m.length:=by omega
  have hl2:i < l.length:=by omega
  have w:IntKind.i64.wrap ((i:Int) + 1) = i + 1:=w64 (by omega) (by omega)
  have s1:QAT l[i] = [.str l[i]]:=rfl
  have s2:QAT m[i] = [.str m[i]]:=rfl
  by_cases he:l[i] = m[i]
  ·simp +decide -dsimp -implicitDefEqProofs [go_sem,h',h,hl2,s2,he,w]
   refine QAG (i + 1) ⟨h,by rw [List.take_succ_eq_append_getElem h,List.take_succ_eq_append_getElem hl2,hi2,he]⟩ (by show m.length - (i + 1) < m.length - i; omega) (QAC (by simp) ?_)
   simp +decide -dsimp -implicitDefEqProofs [go_sem,QAF]
  ·have e:¬ l = m:=fun h2=>he (by simp [h2])
   simp +decide -dsimp -implicitDefEqProofs [go_sem,h',h,hl2,s1,s2,he,e]
 ·have h':¬ (i:Int) < m.length:=by omega
  have e:l = m:=by
   have:i = m.length:=by omega
   rw [this,List.take_length,← hlen,List.take_length] at hi2
   exact hi2
  simp +decide -dsimp -implicitDefEqProofs [go_sem,h',e]
def QEv (a b:List UInt8):Bool:=decide ((QAZ a).length < (QAZ b).length) && decide ((QAZ b).take (QAZ a).length = QAZ a)
theorem QUi (a b:List UInt8) (ha:QAf a = true) (hb:QAf b = true):ACalls Tryz.prog 98 [.str a,.str b] [] (.tup [.bool (QEv a b),.int .i64 0]) []:=by
 obtain ⟨a1,a2⟩:=QBW ha
 obtain ⟨b1,b2⟩:=QBW hb
 have c1:=QFX a (by have:=QBV ha; omega)
 have c2:=QFX b (by have:=QBV hb; omega)
 rw [a1] at c1
 rw [b1] at c2
 simp only at c1 c2
 have c3:=QaD ((QAZ b).take (QAZ a).length) (QAZ a) (by rw [List.length_take]; omega)
 unfold QEv
 generalize QAZ a = A at *
 generalize QAZ b = B at *
 refine QAH cqq rfl ?_
 refine gs ?_
 refine QAA c1 rfl (by simp [QAE,QAB,QAF]) ?_
 refine gs ?_
 refine QAA c2 rfl (by simp [QAE,QAB,QAF]) ?_
 by_cases h:A.length < B.length
 ·have h':(A.length:Int) < B.length:=by omega
  have hr1:∀ r ∈ B.map QAT,r.length = 1:=fun r hr=>by obtain ⟨x,_,rfl⟩:=List.mem_map.1 hr; rfl
  have hle:A.length ≤ B.length:=by omega
  have e2:(B.map QAT).take A.length = (B.take A.length).map QAT:=by rw [List.map_take]
  rw [decide_eq_true h,Bool.true_and]
  simp +decide -dsimp -implicitDefEqProofs [go_sem,h',hle]
  rw [e2]
  refine QAA c3 (by simp only [QAE,QAB,QAF,Bool.and_true]) rfl ?_
  simp +decide -dsimp -implicitDefEqProofs [go_sem]
 ·have h':¬ (A.length:Int) < B.length:=by omega
  rw [decide_eq_false h,Bool.false_and]
  simp +decide -dsimp -implicitDefEqProofs [go_sem,h']
theorem QOM (a b:List UInt8) (ha:QAf a = true) (hb:QAf b = true):ACalls Tryz.prog 59 [.str a,.str b] [] (.bool (QEv a b)) []:=by
 have c:=QUi a b ha hb
 refine QAH cqq rfl ?_
 refine gs ?_
 refine QAA c rfl rfl ?_
 cases QEv a b <;> simp +decide -dsimp -implicitDefEqProofs [go_sem]
theorem QCu (a b:List UInt8) (ha:QAf a = true) (hb:QAf b = true):ACalls Tryz.prog 54 [.str a,.str b] [] (.int .i64 (QFA a b)) []:=by
 have c:=QOR a b ha hb
 refine QAH cqq rfl ?_
 refine gs ?_
 refine QAA c rfl rfl ?_
 simp +decide -dsimp -implicitDefEqProofs [go_sem]
theorem QP0 {p q:List UInt8} (hq:q = [] ∨ ∃ q',q = 47 :: q'):∀ {x y:List UInt8},47 ∉ x → 47 ∉ y → ((x ++ 47 :: p) <+: (y ++ q) ↔ x = y ∧ (47 :: p) <+: q)
 | [],[],_,_=>by simp
 | [],b :: y,_,hy=>by
  have hb:¬ (47:UInt8) = b:=fun h=>hy (by simp [h])
  simp [List.cons_prefix_cons,hb]
 | a :: x,[],hx,_=>by
  have ha:¬ a = 47:=fun h=>hx (by simp [h])
  rcases hq with rfl | ⟨q',rfl⟩
  ·simp
  ·simp [List.cons_prefix_cons,ha]
 | a :: x,b :: y,hx,hy=>by
  have ih:=QP0 (p:=p) hq (x:=x) (y:=y) (fun h=>hx (by simp [h])) (fun h=>hy (by simp [h]))
  simp only [List.cons_append,List.cons_prefix_cons,List.cons.injEq]
  rw [ih]
  constructor
  ·rintro ⟨h1,h2,h3⟩; exact ⟨⟨h1,h2⟩,h3⟩
  ·rintro ⟨⟨h1,h2⟩,h3⟩; exact ⟨h1,h2,h3⟩
theorem QLT:∀ l:List (List UInt8),QBm l = [] ∨ ∃ q',QBm l = 47 :: q'
 | []=>.inl rfl
 | _x :: _r=>.inr ⟨_,rfl⟩
theorem QNQ:∀ {A B:List (List UInt8)},(∀ x ∈ A,47 ∉ x) → (∀ x ∈ B,47 ∉ x) → ((QBm A ++ [47]) <+: QBm B ↔ A.length < B.length ∧ B.take A.length = A)
 | [],[],_,_=>by simp [QBm]
 | [],b :: B,_,_=>by simp [QBm,List.cons_prefix_cons]
 | a :: A,[],_,_=>by simp [QBm]
 | a :: A,b :: B,hA,hB=>by
  have ih:=QNQ (A:=A) (B:=B) (fun x hx=>hA x (by simp [hx])) (fun x hx=>hB x (by simp [hx]))
  obtain ⟨p,hp⟩:∃ p,QBm A ++ [47] = 47 :: p:=by
   rcases QLT A with h | ⟨q,h⟩
   ·exact ⟨[],by rw [h]; rfl⟩
   ·exact ⟨q ++ [47],by rw [h]; rfl⟩
  show (47 :: (a ++ QBm A) ++ [47]) <+: 47 :: (b ++ QBm B) ↔ _
  rw [List.cons_append,List.cons_prefix_cons,List.append_assoc,hp,QP0 (QLT B) (hA a (by simp)) (hB b (by simp)),← hp,ih]
  simp only [List.length_cons,List.take_succ_cons,List.cons.injEq,true_and]
  constructor
  ·rintro ⟨h1,h2,h3⟩; exact ⟨by omega,h1.symm,h3⟩
  ·rintro ⟨h1,h2,h3⟩; exact ⟨h2.symm,by omega,h3⟩
theorem QGV {s:List UInt8} (h:QAe s = true):47 ∉ s:=fun h2=>by
 unfold QAe at h
 rw [Bool.and_eq_true] at h
 have:=List.all_eq_true.1 h.2 47 h2
 exact absurd (of_decide_eq_true this) (by decide +kernel)
theorem QGW {p:List UInt8} (h:QAf p = true):(∀ x ∈ QAZ p,47 ∉ x) ∧ QBm (QAZ p) = p:=by
 obtain ⟨h1,_⟩:=QBW h
 refine ⟨fun x hx=>?_,(QHA h1).symm⟩
 have hv:QAe x = true:=by
  unfold QCm at h1
  split at h1
  ·cases h1
  ·split at h1
   ·rename_i hq
    rw [← Option.some.inj h1] at hx
    exact List.all_eq_true.1 hq.2 x hx
   ·cases h1
 exact QGV hv
theorem QUj {a b:List UInt8} (ha:QAf a = true) (hb:QAf b = true):(a ++ [47]).isPrefixOf b = QEv a b:=by
 obtain ⟨a1,a2⟩:=QGW ha
 obtain ⟨b1,b2⟩:=QGW hb
 have:=QNQ a1 b1
 rw [a2,b2] at this
 unfold QEv
 rw [← Bool.decide_and,← decide_eq_decide.2 this]
 cases h:(a ++ [47]).isPrefixOf b with
 | true=>rw [decide_eq_true (List.isPrefixOf_iff_prefix.1 h)]
 | false=>rw [decide_eq_false (fun h2=>by rw [List.isPrefixOf_iff_prefix.2 h2] at h; cases h)]
theorem QIZ (a b:List UInt8) (ha:QAf a = true) (hb:QAf b = true):ACalls Tryz.prog 23 [.str a,.str b] [] (.bool (QEv a b)) []:=by
 obtain ⟨a1,a2⟩:=QBW ha
 obtain ⟨b1,b2⟩:=QBW hb
 have la:=QBV ha
 have c1:=QKO a (by omega)
 have c2:=QKO b (by have:=QBV hb; omega)
 rw [a1] at c1
 rw [b1] at c2
 simp only at c1 c2
 have c3:=QF3 b (a ++ [47]) (by simp; omega)
 rw [QUj ha hb] at c3
 refine QAH cqq rfl ?_
 refine gs ?_
 refine QAA c1 rfl (by simp [QAE,QAB,QAF]) ?_
 refine gs ?_
 refine QAA c2 rfl (by simp [QAE,QAB,QAF]) ?_
 refine gs ?_
 refine ⟨by omega,?_⟩
 refine QAA c3 rfl rfl ?_
 simp +decide -dsimp -implicitDefEqProofs [go_sem]
end Go.Ab
