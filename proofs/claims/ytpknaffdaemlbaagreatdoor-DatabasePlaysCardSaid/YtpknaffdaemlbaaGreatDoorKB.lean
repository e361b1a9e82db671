/- A layer of abstract values over the model, and what is proved with it: part KB. -/
import Derived.Test.YtpknaffdaemlbaaGreatDoorOX
import Derived.Test.YtpknaffdaemlbaaGreatDoorCX
import Derived.Test.YtpknaffdaemlbaaGreatDoorW9
import Derived.Test.YtpknaffdaemlbaaGreatDoorW3
import Derived.Test.YtpknaffdaemlbaaGreatDoorW4
import Derived.Test.YtpknaffdaemlbaaGreatDoorA5
import Derived.Test.YtpknaffdaemlbaaGreatDoorRB
set_option maxRecDepth 20000
set_option maxHeartbeats 16000000
namespace Go.Ab
open Go Go.Proofs
def c41:AFn:=⟨(sq [(x4 7 72 2),(ox 10 (.alloc 72 [.nils,.nils])),(y2 11)] (.seq (sq [(mv 29 0),(ox 30 (fc 13 [(t 29),(iv 2)])),(z8 31 .eql 30 0)] (cd 31 (sq [(mv 32 0),(y7 33 15 32),(mv 3 33)] (sq [(y1 34 2 7),(y7 35 74 34),(mv 12 35)] (sq [(mv 36 12),(y9 37 36),(z8 38 .gtr 37 0),(mv 39 38),(z4 40 0 39),(ot 41 (fc 13 [(t 40),(iv 2)]) 39),(ot 42 (b1 .eql 41 0) 39),(y3 43 39 42)] (cd 43 (.ops [(mv 44 12),(mv 45 0),(mv 46 12),(y9 47 46),(y8 48 13 45 47),(z6 49 12 44 48),(z1 50 0 49),(z2 51 50),(mv 3 51)]) .skip)))) .skip)) (.seq (sq [(mv 52 0),(ox 53 (fc 13 [(t 52),(iv 10)]))] (.block 0 (.seq (sq [(z8 55 .eql 53 0),(mv 54 55)] (cd 54 .skip (sq [(z8 56 .eql 53 1),(mv 54 56)] (cd 54 .skip (sq [(z8 57 .eql 53 2),(mv 54 57)] (cd 54 .skip (.ops [(z8 58 .eql 53 3),(mv 54 58)]))))))) (cd 54 (sq [(mv 59 0),(mv 60 0),(y7 61 15 60),(mv 62 0),(ox 63 (fc 13 [(t 62),(iv 9)])),(ox 64 (.bin .add (iv 1) (t 63))),(ox 65 (fc 17 [(t 59),(t 61),(t 64)])),(ox 13 (.alloc 34 rz)),(y5 12 13 65)] (.seq (sq [(mv 66 0),(ox 67 (fc 13 [(t 66),(iv 6)])),(z8 68 .eql 67 0)] (cd 68 (.ops [(mv 69 0),(y1 70 12 13),(y8 71 77 69 70),(y5 12 13 71)]) .skip)) (sq [(mv 72 1),(y1 73 12 13),(y8 74 18 72 73),(mv 14 74)] (sq [(y1 76 2 7),(y1 77 12 13),(y8 78 78 76 77),(mv 75 78),(z7 79 75 0),(z7 80 75 1),(ox 15 (.alloc 72 [.nils,.nils])),(y5 2 15 79),(mv 16 80)] (sq [(y1 81 2 15),(mv 82 14),(mv 83 16),(z9 84 .eql 82 83),(y5 2 10 81),(mv 11 84)] .ret))))) (.seq (sq [(z8 86 .eql 53 4),(mv 85 86)] (cd 85 .skip (.ops [(z8 87 .eql 53 5),(mv 85 87)]))) (cd 85 (sq [(mv 88 1),(mv 89 3),(y8 90 16 88 89),(mv 17 90)] (sq [(y1 92 2 7),(mv 93 3),(y8 94 79 92 93),(mv 91 94),(z7 95 91 0),(z7 96 91 1),(ox 18 (.alloc 72 [.nils,.nils])),(y5 2 18 95),(mv 19 96)] (sq [(y1 97 2 18),(mv 98 17),(mv 99 19),(z9 100 .eql 98 99),(y5 2 10 97),(mv 11 100)] .ret))) (sq [(z8 102 .eql 53 6),(mv 101 102)] (cd 101 (.seq (sq [(y1 103 2 7),(y7 104 75 103),(mv 20 104)] (sq [(mv 105 20),(y9 106 105),(z8 107 .gtr 106 0),(mv 108 107),(z4 109 0 108),(ot 110 (fc 13 [(t 109),(iv 3)]) 108),(ot 111 (b1 .gtr 110 0) 108),(y3 112 108 111)] (cd 112 (.ops [(mv 113 20),(mv 114 0),(mv 115 20),(y9 116 115),(y8 117 13 114 116),(z6 118 1 113 117),(z2 119 118),(mv 4 119)]) .skip))) (sq [(mv 120 1),(mv 121 4),(y8 122 36 120 121),(mv 21 122)] (sq [(y1 124 2 7),(mv 125 4),(y8 126 80 124 125),(mv 123 126),(z7 127 123 0),(z7 128 123 1),(ox 22 (.alloc 72 [.nils,.nils])),(y5 2 22 127),(mv 23 128)] (sq [(y1 129 2 22),(mv 130 21),(mv 131 23),(z9 132 .eql 130 131),(y5 2 10 129),(mv 11 132)] .ret)))) (sq [(z8 134 .eql 53 7),(mv 133 134)] (cd 133 (sq [(mv 135 1),(y7 136 14 135)] (sq [(y1 137 2 7),(y7 138 81 137),(y5 2 10 138),(ox 11 (mb true))] .ret)) (sq [(z8 140 .eql 53 8),(mv 139 140)] (cd 139 (sq [(mv 141 0),(ox 142 (fc 13 [(t 141),(iv 5)])),(z8 143 .sub 142 1),(mv 24 143)] (sq [(mv 144 1),(mv 145 24),(y8 146 19 144 145)] (sq [(y1 147 2 7),(mv 148 24),(y8 149 42 147 148),(y5 2 10 149),(ox 11 (mb true))] .ret))) .skip)))))))))))) (sq [(mv 151 1),(mv 152 3),(y8 153 20 151 152),(mv 150 153),(z7 154 150 0),(z7 155 150 1),(ox 25 (.alloc 34 rz)),(y5 12 25 154),(mv 26 155)] (sq [(y1 157 2 7),(mv 158 3),(y8 159 82 157 158),(mv 156 159),(z7 160 156 0),(z7 161 156 1),(ox 27 (.alloc 34 rz)),(y5 12 27 160),(mv 28 161)] (.seq (.draw [(y1 162 2 7),(mv 163 26),(mv 164 28),(ox 165 (.binb false (t 163) (t 164))),(mv 166 165),(ot 167 (.load (some 12) (t 25)) 166),(ot 168 (.load (some 12) (t 27)) 166),(ot 169 (fc 21 [(t 167),(t 168)]) 166),(y3 170 166 169),(y5 2 10 162),(mv 11 170)] [0,0,0,6,14,30,30,126,254,255,1023]) .ret)))))),171,[(.cell 10 (some 2)),(.tmp 11)]⟩
theorem c41_ok:QAE Tryz.prog [] 41 = some c41:=by kernel_rfl
end Go.Ab
namespace Go.Ab
open Go Go.Proofs
def spR (t:List Int) (k:Nat) (av:AV) (H:List AObj):Prop:=∃ r k',av = .agg (QAU r) ∧ H = [QAK t k'] ∧ Few r ∧ k' ≤ k + 30
def QTC (r:Rcd) (a b c:AV):AObj:=.box 34 [.str r.path,.int .i64 r.index,a,b,c,.imm (r.run.map QAf),.imm (r.load.map QAf),.str r.name,.int .i64 r.prio,.str r.owner,.str r.group,.int .i64 r.mode]
def QXi (j:Nat):List UInt8:=[116,UInt8.ofNat (97 + j)]
def QHx (i:Nat):List (List UInt8):=(List.range i).map QXi
theorem QNC (i:Nat):QHx (i + 1) = QHx i ++ [QXi i]:=by simp [QHx,List.range_succ]
theorem QO0 (i:Nat):(QHx i).length = i:=by simp [QHx]
theorem QTD {n m:Nat} (h:n < 256) (h':m < 256):unb [[AV.int .u8 (n:Int)],[AV.int .u8 (m:Int)]] = some [UInt8.ofNat n,UInt8.ofNat m]:=by
 rw [QG8 h,QG8 h']; exact QGA [UInt8.ofNat n,UInt8.ofNat m]
def QQL:List (List UInt8):=[[],[47],[97],[47,97,47],[47,97,47,47,98],[47,46,46],[47,97,32,98],[47,49,47,50,47,51,47,52,47,53,47,54,47,55,47,56]]
theorem QQM:∀ x ∈ QQL,x.length ≤ 20:=by decide
def QQN:List (List UInt8):=[[65],[90,90],[97],[49,65],[],[83,85,66,83,89,83,84,69,77]]
theorem QQO:∀ x ∈ QQN,x.length ≤ 20:=by decide
def QQP:List (List UInt8):=[[49],[10],[127],[111,107]]
theorem QQQ:∀ x ∈ QQP,x.length ≤ 20:=by decide
def QQR:List (List UInt8):=[[97],[122,122],[],[122,32,122],[117,97,99,99,101,115,115],[46,46]]
theorem QQS:∀ x ∈ QQR,x.length ≤ 20:=by decide
def QQT:List (List UInt8):=[[97],[122,122],[],[47,122],[122,47,47,122],[122,122,47],[122,47,46,46],[122,122,47,97,35,98]]
theorem QQU:∀ x ∈ QQT,x.length ≤ 20:=by decide
def QQV:List (List UInt8):=[[],[120],[9],[114,117,110,32,122]]
theorem QQW:∀ x ∈ QQV,x.length ≤ 20:=by decide
def QQX:List (List UInt8):=[[],[120],[122],[97],[0]]
theorem QQY:∀ x ∈ QQX,x.length ≤ 20:=by decide
def QQZ:List (List UInt8):=[[97,58,98],[97,33,98],[49,50,51,52,53,54,55,56,57,48,49,50,51,52,53,54],[49,50,51,52,53,54,55,56,57,48,49,50,51,52,53],[46,46],[120]]
theorem QQa:∀ x ∈ QQZ,x.length ≤ 20:=by decide
def QQb:List (List UInt8):=[[],[97,32,98],[120],[46,46]]
theorem QQc:∀ x ∈ QQb,x.length ≤ 20:=by decide
def QMW:List (List UInt8):=[[],[10],[121]]
theorem QO1:∀ x ∈ QMW,x.length ≤ 20:=by decide
theorem QQd (t:List Int) (k:Nat) (r:Rcd) (hk:k < 800000000) (hr:Small r):ACallsR Tryz.prog 77 [.ptr 0 0,.agg (QAU r)] [QAK t k] (spR t k):=by
 refine QKa (spR t k) 0 c77_ok ?_
 unfold c77
 have z1:=hr.props; have z2:=hr.tags; have z3:=hr.links; have z4:=hr.runs; have z5:=hr.loads; have z6:=hr.path
 have few:=hr.few
 refine QAL ⟨tmps 225 [(0,.ptr 0 0),(3,.ptr 1 0),(4,.ptr 2 0)],[QAK t k,.box 34 (QAU r),.box 34 [.str [],.int .i64 0,.nils,.nils,.nils,.nils,.nils,.str [],.int .i64 0,.str [],.str [],.int .i64 0]]⟩ (QAJ ?_)
  (QAL ⟨tmps 225 [(0,.ptr 0 0),(3,.ptr 1 0),(4,.ptr 2 0)],[QAK t k,QTC r (.own 3 r.props.length) (.imm (r.tags.map QAf)) (.imm (r.links.map QAf)),.box 34 [.str [],.int .i64 0,.nils,.nils,.nils,.nils,.nils,.str [],.int .i64 0,.str [],.str [],.int .i64 0],.reg 93 2 (r.props.map QBF)]⟩ (QAJ ?_)
  (QAL ⟨tmps 225 [(0,.ptr 0 0),(3,.ptr 1 0),(4,.ptr 2 0)],[QAK t k,QTC r (.own 3 r.props.length) (.own 4 r.tags.length) (.imm (r.links.map QAf)),.box 34 [.str [],.int .i64 0,.nils,.nils,.nils,.nils,.nils,.str [],.int .i64 0,.str [],.str [],.int .i64 0],.reg 93 2 (r.props.map QBF),.reg 9 1 (r.tags.map QAf)]⟩ (QAJ ?_)
  (QAL ⟨tmps 225 [(0,.ptr 0 0),(3,.ptr 1 0),(4,.ptr 2 0)],[QAK t k,QTC r (.own 3 r.props.length) (.own 4 r.tags.length) (.own 5 r.links.length),.box 34 [.str [],.int .i64 0,.nils,.nils,.nils,.nils,.nils,.str [],.int .i64 0,.str [],.str [],.int .i64 0],.reg 93 2 (r.props.map QBF),.reg 9 1 (r.tags.map QAf),.reg 9 1 (r.links.map QAf)]⟩ (QAJ ?_) (QAJ ?_))))
 ·unfold QAU
  simp +decide -dsimp -implicitDefEqProofs [go_sem]
  refine QAH (by simp) ?_
  simp +decide -dsimp -implicitDefEqProofs [go_sem,QAK]
 ·unfold QAU
  simp +decide -dsimp -implicitDefEqProofs [go_sem,maxLen]
  refine ⟨fun q x y h e=>by subst e; rfl,⟨by omega,by omega⟩,?_⟩
  refine QAH (by simp) ?_
  simp +decide -dsimp -implicitDefEqProofs [go_sem,QAK,QTC]
 ·unfold QTC
  simp +decide -dsimp -implicitDefEqProofs [go_sem,maxLen]
  refine ⟨⟨by omega,by omega⟩,?_⟩
  refine QAH (by simp) ?_
  simp +decide -dsimp -implicitDefEqProofs [go_sem,QAK]
 ·unfold QTC
  simp +decide -dsimp -implicitDefEqProofs [go_sem,maxLen]
  refine ⟨⟨by omega,by omega⟩,?_⟩
  refine QAH (by simp) ?_
  simp +decide -dsimp -implicitDefEqProofs [go_sem,QAK]
 have o1:=QBK t k 14 (by omega) (by omega)
 have b1:=QAy (QAZ t k) 14 (by omega)
 generalize fold (QAZ t k) 14 = v at o1 b1
 have fr:∀ {a b:AV} {c d:AV → Prop},True:=trivial
 unfold QTC
 simp +decide -dsimp -implicitDefEqProofs [go_sem]
 refine QAB [0] o1 rfl rfl (by simp) rfl (by simp +decide -dsimp -implicitDefEqProofs [go_sem,QAC]) ?_
 simp +decide -dsimp -implicitDefEqProofs [go_sem,QAC]
 by_cases h0:v = 0
 ·rw [if_pos h0]
  have ox:=QEN t (k + 1) QQL (by omega) (by decide) (by decide)
  have mx:=QQM _ (QBW (ss:=QQL) (QAZ t (k + 1)) (by decide))
  generalize QGq QQL (QAZ t (k + 1)) = x at ox mx
  unfold QDc at ox
  refine QAB [0] ox rfl rfl (by simp) rfl (by simp +decide -dsimp -implicitDefEqProofs [go_sem,QAC]) ?_
  simp +decide -dsimp -implicitDefEqProofs [go_sem,QAC]
  refine QAT (.agg (QAU { r with path:=x })) [QAK t (k + 1 + 1)] ⟨_,_,rfl,rfl,⟨by show x.length < _; omega,few.tags,few.props,few.vals,few.links,few.link,few.runs,few.rn,few.loads,few.ld⟩,by omega⟩ rfl ?_
  simp +decide -dsimp -implicitDefEqProofs [go_sem,QAK,QAU,QAf,QBF]
 rw [if_neg h0]
 by_cases h1:v = 1
 ·rw [if_pos h1]
  have o2:=QBK t (k + 1) 4 (by omega) (by omega)
  have b2:=QAy (QAZ t (k + 1)) 4 (by omega)
  generalize fold (QAZ t (k + 1)) 4 = y at o2 b2
  refine QAB [0] o2 rfl rfl (by simp) rfl (by simp +decide -dsimp -implicitDefEqProofs [go_sem,QAC]) ?_
  rcases (by omega:y = 0 ∨ y = 1 ∨ y = 2 ∨ y = 3) with rfl | rfl | rfl | rfl
  ·simp +decide -dsimp -implicitDefEqProofs [go_sem,QAC]
   refine QAT (.agg (QAU { r with index:=0 })) [QAK t (k + 1 + 1)] ⟨_,_,rfl,rfl,⟨few.path,few.tags,few.props,few.vals,few.links,few.link,few.runs,few.rn,few.loads,few.ld⟩,by omega⟩ rfl ?_
   simp +decide -dsimp -implicitDefEqProofs [go_sem,QAK,QAU,QAf,QBF]
  ·simp +decide -dsimp -implicitDefEqProofs [go_sem,QAC]
   refine QAT (.agg (QAU { r with index:=-1 })) [QAK t (k + 1 + 1)] ⟨_,_,rfl,rfl,⟨few.path,few.tags,few.props,few.vals,few.links,few.link,few.runs,few.rn,few.loads,few.ld⟩,by omega⟩ rfl ?_
   simp +decide -dsimp -implicitDefEqProofs [go_sem,QAK,QAU,QAf,QBF]
  ·simp +decide -dsimp -implicitDefEqProofs [go_sem,QAC]
   refine QAT (.agg (QAU { r with index:=1073741824 })) [QAK t (k + 1 + 1)] ⟨_,_,rfl,rfl,⟨few.path,few.tags,few.props,few.vals,few.links,few.link,few.runs,few.rn,few.loads,few.ld⟩,by omega⟩ rfl ?_
   simp +decide -dsimp -implicitDefEqProofs [go_sem,QAK,QAU,QAf,QBF]
  ·simp +decide -dsimp -implicitDefEqProofs [go_sem,QAC]
   refine QAT (.agg (QAU { r with index:=1073741825 })) [QAK t (k + 1 + 1)] ⟨_,_,rfl,rfl,⟨few.path,few.tags,few.props,few.vals,few.links,few.link,few.runs,few.rn,few.loads,few.ld⟩,by omega⟩ rfl ?_
   simp +decide -dsimp -implicitDefEqProofs [go_sem,QAK,QAU,QAf,QBF]
 rw [if_neg h1]
 by_cases h2:v = 2
 ·rw [if_pos h2]
  have ox:=QEN t (k + 1) QQN (by omega) (by decide) (by decide)
  have mx:=QQO _ (QBW (ss:=QQN) (QAZ t (k + 1)) (by decide))
  generalize QGq QQN (QAZ t (k + 1)) = x at ox mx
  unfold QDc at ox
  refine QBD [0] ox rfl rfl (by simp) rfl (by simp +decide -dsimp -implicitDefEqProofs [go_sem,QAC]) ?_
  simp +decide -dsimp -implicitDefEqProofs [go_sem,QAC]
  have oy:=QEN t (k + 1 + 1) QQP (by omega) (by decide) (by decide)
  have my:=QQQ _ (QBW (ss:=QQP) (QAZ t (k + 1 + 1)) (by decide))
  generalize QGq QQP (QAZ t (k + 1 + 1)) = y at oy my
  unfold QDc at oy
  refine QBD [0] oy rfl rfl (by simp) rfl (by simp +decide -dsimp -implicitDefEqProofs [go_sem,QAC]) ?_
  simp +decide -dsimp -implicitDefEqProofs [go_sem,QAC,maxLen]
  refine ⟨⟨by omega,by omega⟩,?_⟩
  refine QAT (.agg (QAU { r with props:=r.props ++ [(x,y)] })) [QAK t (k + 1 + 1 + 1)] ⟨_,_,rfl,rfl,⟨few.path,few.tags,by show (r.props ++ _).length < _; simp; omega,fun p hp=>by
   rcases List.mem_append.1 hp with hp | hp
   ·exact few.vals p hp
   ·rw [List.mem_singleton.1 hp]; show y.length < _; omega,few.links,few.link,few.runs,few.rn,few.loads,few.ld⟩,by omega⟩ rfl ?_
  simp +decide -dsimp -implicitDefEqProofs [go_sem,QAK,QAU,QAf,QBF]
 rw [if_neg h2]
 by_cases h3:v = 3
 ·rw [if_pos h3]
  have ox:=QEN t (k + 1) QQR (by omega) (by decide) (by decide)
  have mx:=QQS _ (QBW (ss:=QQR) (QAZ t (k + 1)) (by decide))
  generalize QGq QQR (QAZ t (k + 1)) = x at ox mx
  unfold QDc at ox
  refine QBD [0] ox rfl rfl (by simp) rfl (by simp +decide -dsimp -implicitDefEqProofs [go_sem,QAC]) ?_
  simp +decide -dsimp -implicitDefEqProofs [go_sem,QAC,maxLen]
  refine ⟨⟨by omega,by omega⟩,?_⟩
  refine QAT (.agg (QAU { r with tags:=r.tags ++ [x] })) [QAK t (k + 1 + 1)] ⟨_,_,rfl,rfl,⟨few.path,by show (r.tags ++ _).length < _; simp; omega,few.props,few.vals,few.links,few.link,few.runs,few.rn,few.loads,few.ld⟩,by omega⟩ rfl ?_
  simp +decide -dsimp -implicitDefEqProofs [go_sem,QAK,QAU,QAf,QBF]
 rw [if_neg h3]
 by_cases h4:v = 4
 ·rw [if_pos h4]
  have ox:=QEN t (k + 1) QQT (by omega) (by decide) (by decide)
  have mx:=QQU _ (QBW (ss:=QQT) (QAZ t (k + 1)) (by decide))
  generalize QGq QQT (QAZ t (k + 1)) = x at ox mx
  unfold QDc at ox
  refine QBD [0] ox rfl rfl (by simp) rfl (by simp +decide -dsimp -implicitDefEqProofs [go_sem,QAC]) ?_
  simp +decide -dsimp -implicitDefEqProofs [go_sem,QAC,maxLen]
  refine ⟨⟨by omega,by omega⟩,?_⟩
  refine QAT (.agg (QAU { r with links:=r.links ++ [x] })) [QAK t (k + 1 + 1)] ⟨_,_,rfl,rfl,⟨few.path,few.tags,few.props,few.vals,by show (r.links ++ _).length < _; simp; omega,fun p hp=>by
   rcases List.mem_append.1 hp with hp | hp
   ·exact few.link p hp
   ·rw [List.mem_singleton.1 hp]; show x.length < _; omega,few.runs,few.rn,few.loads,few.ld⟩,by omega⟩ rfl ?_
  simp +decide -dsimp -implicitDefEqProofs [go_sem,QAK,QAU,QAf,QBF]
 rw [if_neg h4]
 by_cases h5:v = 5
 ·rw [if_pos h5]
  simp +decide -dsimp -implicitDefEqProofs [go_sem,maxLen]
  refine ⟨⟨by omega,by omega⟩,?_⟩
  have ox:=QEN t (k + 1) QQV (by omega) (by decide) (by decide)
  have mx:=QQW _ (QBW (ss:=QQV) (QAZ t (k + 1)) (by decide))
  generalize QGq QQV (QAZ t (k + 1)) = x at ox mx
  unfold QDc at ox
  refine QAB [0] ox rfl rfl (by simp) rfl (by simp +decide -dsimp -implicitDefEqProofs [go_sem,QAC]) ?_
  simp +decide -dsimp -implicitDefEqProofs [go_sem,QAC,maxLen]
  refine ⟨⟨by omega,by omega⟩,?_⟩
  refine QAT (.agg (QAU { r with run:=r.run ++ [x] })) [QAK t (k + 1 + 1)] ⟨_,_,rfl,rfl,⟨few.path,few.tags,few.props,few.vals,few.links,few.link,by show (r.run ++ _).length < _; simp; omega,fun p hp=>by
   rcases List.mem_append.1 hp with hp | hp
   ·exact few.rn p hp
   ·rw [List.mem_singleton.1 hp]; show x.length < _; omega,few.loads,few.ld⟩,by omega⟩ rfl ?_
  simp +decide -dsimp -implicitDefEqProofs [go_sem,QAK,QAU,QAf,QBF]
 rw [if_neg h5]
 by_cases h6:v = 6
 ·rw [if_pos h6]
  simp +decide -dsimp -implicitDefEqProofs [go_sem,maxLen]
  refine ⟨⟨by omega,by omega⟩,?_⟩
  have ox:=QEN t (k + 1) QQX (by omega) (by decide) (by decide)
  have mx:=QQY _ (QBW (ss:=QQX) (QAZ t (k + 1)) (by decide))
  generalize QGq QQX (QAZ t (k + 1)) = x at ox mx
  unfold QDc at ox
  refine QAB [0] ox rfl rfl (by simp) rfl (by simp +decide -dsimp -implicitDefEqProofs [go_sem,QAC]) ?_
  simp +decide -dsimp -implicitDefEqProofs [go_sem,QAC,maxLen]
  refine ⟨⟨by omega,by omega⟩,?_⟩
  refine QAT (.agg (QAU { r with load:=r.load ++ [x] })) [QAK t (k + 1 + 1)] ⟨_,_,rfl,rfl,⟨few.path,few.tags,few.props,few.vals,few.links,few.link,few.runs,few.rn,by show (r.load ++ _).length < _; simp; omega,fun p hp=>by
   rcases List.mem_append.1 hp with hp | hp
   ·exact few.ld p hp
   ·rw [List.mem_singleton.1 hp]; show x.length < _; omega⟩,by omega⟩ rfl ?_
  simp +decide -dsimp -implicitDefEqProofs [go_sem,QAK,QAU,QAf,QBF]
 rw [if_neg h6]
 by_cases h7:v = 7
 ·rw [if_pos h7]
  have ox:=QEN t (k + 1) QQZ (by omega) (by decide) (by decide)
  have mx:=QQa _ (QBW (ss:=QQZ) (QAZ t (k + 1)) (by decide))
  generalize QGq QQZ (QAZ t (k + 1)) = x at ox mx
  unfold QDc at ox
  refine QAB [0] ox rfl rfl (by simp) rfl (by simp +decide -dsimp -implicitDefEqProofs [go_sem,QAC]) ?_
  simp +decide -dsimp -implicitDefEqProofs [go_sem,QAC]
  refine QAT (.agg (QAU { r with name:=x })) [QAK t (k + 1 + 1)] ⟨_,_,rfl,rfl,⟨few.path,few.tags,few.props,few.vals,few.links,few.link,few.runs,few.rn,few.loads,few.ld⟩,by omega⟩ rfl ?_
  simp +decide -dsimp -implicitDefEqProofs [go_sem,QAK,QAU,QAf,QBF]
 rw [if_neg h7]
 by_cases h8:v = 8
 ·rw [if_pos h8]
  have o2:=QBK t (k + 1) 5 (by omega) (by omega)
  have b2:=QAy (QAZ t (k + 1)) 5 (by omega)
  generalize fold (QAZ t (k + 1)) 5 = y at o2 b2
  refine QAB [0] o2 rfl rfl (by simp) rfl (by simp +decide -dsimp -implicitDefEqProofs [go_sem,QAC]) ?_
  rcases (by omega:y = 0 ∨ y = 1 ∨ y = 2 ∨ y = 3 ∨ y = 4) with rfl | rfl | rfl | rfl | rfl
  ·simp +decide -dsimp -implicitDefEqProofs [go_sem,QAC]
   refine QAT (.agg (QAU { r with prio:=1000 })) [QAK t (k + 1 + 1)] ⟨_,_,rfl,rfl,⟨few.path,few.tags,few.props,few.vals,few.links,few.link,few.runs,few.rn,few.loads,few.ld⟩,by omega⟩ rfl ?_
   simp +decide -dsimp -implicitDefEqProofs [go_sem,QAK,QAU,QAf,QBF]
  ·simp +decide -dsimp -implicitDefEqProofs [go_sem,QAC]
   refine QAT (.agg (QAU { r with prio:=1001 })) [QAK t (k + 1 + 1)] ⟨_,_,rfl,rfl,⟨few.path,few.tags,few.props,few.vals,few.links,few.link,few.runs,few.rn,few.loads,few.ld⟩,by omega⟩ rfl ?_
   simp +decide -dsimp -implicitDefEqProofs [go_sem,QAK,QAU,QAf,QBF]
  ·simp +decide -dsimp -implicitDefEqProofs [go_sem,QAC]
   refine QAT (.agg (QAU { r with prio:=-1000 })) [QAK t (k + 1 + 1)] ⟨_,_,rfl,rfl,⟨few.path,few.tags,few.props,few.vals,few.links,few.link,few.runs,few.rn,few.loads,few.ld⟩,by omega⟩ rfl ?_
   simp +decide -dsimp -implicitDefEqProofs [go_sem,QAK,QAU,QAf,QBF]
  ·simp +decide -dsimp -implicitDefEqProofs [go_sem,QAC]
   refine QAT (.agg (QAU { r with prio:=-1001 })) [QAK t (k + 1 + 1)] ⟨_,_,rfl,rfl,⟨few.path,few.tags,few.props,few.vals,few.links,few.link,few.runs,few.rn,few.loads,few.ld⟩,by omega⟩ rfl ?_
   simp +decide -dsimp -implicitDefEqProofs [go_sem,QAK,QAU,QAf,QBF]
  ·simp +decide -dsimp -implicitDefEqProofs [go_sem,QAC]
   refine QAT (.agg (QAU { r with prio:=0 })) [QAK t (k + 1 + 1)] ⟨_,_,rfl,rfl,⟨few.path,few.tags,few.props,few.vals,few.links,few.link,few.runs,few.rn,few.loads,few.ld⟩,by omega⟩ rfl ?_
   simp +decide -dsimp -implicitDefEqProofs [go_sem,QAK,QAU,QAf,QBF]
 rw [if_neg h8]
 by_cases h9:v = 9
 ·rw [if_pos h9]
  have ox:=QEN t (k + 1) QQb (by omega) (by decide) (by decide)
  have mx:=QQc _ (QBW (ss:=QQb) (QAZ t (k + 1)) (by decide))
  generalize QGq QQb (QAZ t (k + 1)) = x at ox mx
  unfold QDc at ox
  refine QAB [0] ox rfl rfl (by simp) rfl (by simp +decide -dsimp -implicitDefEqProofs [go_sem,QAC]) ?_
  simp +decide -dsimp -implicitDefEqProofs [go_sem,QAC]
  refine QAT (.agg (QAU { r with owner:=x })) [QAK t (k + 1 + 1)] ⟨_,_,rfl,rfl,⟨few.path,few.tags,few.props,few.vals,few.links,few.link,few.runs,few.rn,few.loads,few.ld⟩,by omega⟩ rfl ?_
  simp +decide -dsimp -implicitDefEqProofs [go_sem,QAK,QAU,QAf,QBF]
 rw [if_neg h9]
 by_cases h10:v = 10
 ·rw [if_pos h10]
  have ox:=QEN t (k + 1) QMW (by omega) (by decide) (by decide)
  have mx:=QO1 _ (QBW (ss:=QMW) (QAZ t (k + 1)) (by decide))
  generalize QGq QMW (QAZ t (k + 1)) = x at ox mx
  unfold QDc at ox
  refine QAB [0] ox rfl rfl (by simp) rfl (by simp +decide -dsimp -implicitDefEqProofs [go_sem,QAC]) ?_
  simp +decide -dsimp -implicitDefEqProofs [go_sem,QAC]
  refine QAT (.agg (QAU { r with group:=x })) [QAK t (k + 1 + 1)] ⟨_,_,rfl,rfl,⟨few.path,few.tags,few.props,few.vals,few.links,few.link,few.runs,few.rn,few.loads,few.ld⟩,by omega⟩ rfl ?_
  simp +decide -dsimp -implicitDefEqProofs [go_sem,QAK,QAU,QAf,QBF]
 rw [if_neg h10]
 by_cases h11:v = 11
 ·rw [if_pos h11]
  have o2:=QBK t (k + 1) 4 (by omega) (by omega)
  have b2:=QAy (QAZ t (k + 1)) 4 (by omega)
  generalize fold (QAZ t (k + 1)) 4 = y at o2 b2
  refine QAB [0] o2 rfl rfl (by simp) rfl (by simp +decide -dsimp -implicitDefEqProofs [go_sem,QAC]) ?_
  rcases (by omega:y = 0 ∨ y = 1 ∨ y = 2 ∨ y = 3) with rfl | rfl | rfl | rfl
  ·simp +decide -dsimp -implicitDefEqProofs [go_sem,QAC]
   refine QAT (.agg (QAU { r with mode:=0 })) [QAK t (k + 1 + 1)] ⟨_,_,rfl,rfl,⟨few.path,few.tags,few.props,few.vals,few.links,few.link,few.runs,few.rn,few.loads,few.ld⟩,by omega⟩ rfl ?_
   simp +decide -dsimp -implicitDefEqProofs [go_sem,QAK,QAU,QAf,QBF]
  ·simp +decide -dsimp -implicitDefEqProofs [go_sem,QAC]
   refine QAT (.agg (QAU { r with mode:=4095 })) [QAK t (k + 1 + 1)] ⟨_,_,rfl,rfl,⟨few.path,few.tags,few.props,few.vals,few.links,few.link,few.runs,few.rn,few.loads,few.ld⟩,by omega⟩ rfl ?_
   simp +decide -dsimp -implicitDefEqProofs [go_sem,QAK,QAU,QAf,QBF]
  ·simp +decide -dsimp -implicitDefEqProofs [go_sem,QAC]
   refine QAT (.agg (QAU { r with mode:=4096 })) [QAK t (k + 1 + 1)] ⟨_,_,rfl,rfl,⟨few.path,few.tags,few.props,few.vals,few.links,few.link,few.runs,few.rn,few.loads,few.ld⟩,by omega⟩ rfl ?_
   simp +decide -dsimp -implicitDefEqProofs [go_sem,QAK,QAU,QAf,QBF]
  ·simp +decide -dsimp -implicitDefEqProofs [go_sem,QAC]
   refine QAT (.agg (QAU { r with mode:=-1 })) [QAK t (k + 1 + 1)] ⟨_,_,rfl,rfl,⟨few.path,few.tags,few.props,few.vals,few.links,few.link,few.runs,few.rn,few.loads,few.ld⟩,by omega⟩ rfl ?_
   simp +decide -dsimp -implicitDefEqProofs [go_sem,QAK,QAU,QAf,QBF]
 rw [if_neg h11]
 by_cases h12:v = 12
 ·rw [if_pos h12]
  have o2:=QBK t (k + 1) 3 (by omega) (by omega)
  have b2:=QAy (QAZ t (k + 1)) 3 (by omega)
  generalize fold (QAZ t (k + 1)) 3 = f at o2 b2
  have w1:IntKind.i64.wrap (f + 63) = f + 63:=w64 (by omega) (by omega)
  have w2:IntKind.i64.wrap (f + 63 - (r.props.length:Int)) = f + 63 - r.props.length:=w64 (by omega) (by omega)
  refine QBD [0] o2 rfl rfl (by simp) rfl (by simp +decide -dsimp -implicitDefEqProofs [go_sem,QAC]) ?_
  simp +decide -dsimp -implicitDefEqProofs [go_sem,QAC,w1,w2]
  refine QAR (S:=Int × List (List UInt8 × List UInt8)) (fun s=>⟨tmps 225 [(0,.ptr 0 0),(3,.ptr 1 0),(4,.ptr 2 0),(5,.int .i64 s.1)],[QAK t (k + 1 + 1),.box 34 [.str r.path,.int .i64 r.index,.own 3 s.2.length,.own 4 r.tags.length,.own 5 r.links.length,.imm (r.run.map QAf),.imm (r.load.map QAf),.str r.name,.int .i64 r.prio,.str r.owner,.str r.group,.int .i64 r.mode],.box 34 [.str [],.int .i64 0,.nils,.nils,.nils,.nils,.nils,.str [],.int .i64 0,.str [],.str [],.int .i64 0],.reg 93 2 (s.2.map QBF),.reg 9 1 (r.tags.map QAf),.reg 9 1 (r.links.map QAf)]⟩) (fun s=>s.1.toNat)
   (fun s=>s.1 ≤ 70 ∧ s.2.length + s.1.toNat ≤ 140 ∧ ∀ x ∈ s.2,x.2.length ≤ 256) (f + 63 - r.props.length,r.props) ⟨by show _ ≤ _; omega,by show r.props.length + (f + 63 - (r.props.length:Int)).toNat ≤ 140; omega,fun x hx=>(hr.attr x hx).2⟩ (QAD (by simp) ?_) ?_
  ·simp +decide -dsimp -implicitDefEqProofs [go_sem,QAK]
  rintro ⟨c,l⟩ ⟨hc,hl,hv⟩
  simp only at hc hl hv
  by_cases h:0 < c
  ·obtain ⟨m,rfl⟩:∃ m:Nat,c = m:=⟨c.toNat,by omega⟩
   have d1:IntKind.i64.wrap ((m:Int) / 26) = (m:Int) / 26:=w64 (by omega) (by omega)
   have d1':(m:Int).tdiv 26 = (m:Int) / 26:=Int.tdiv_eq_ediv_of_nonneg (by omega)
   have d2:(m:Int).tmod 26 = (m:Int) % 26:=Int.tmod_eq_emod_of_nonneg (by omega)
   have d3:IntKind.i64.wrap (65 + (m:Int) / 26) = 65 + (m:Int) / 26:=w64 (by omega) (by omega)
   have d4:IntKind.i64.wrap (65 + (m:Int) % 26) = 65 + (m:Int) % 26:=w64 (by omega) (by omega)
   have d5:IntKind.u8.wrap (65 + (m:Int) / 26) = 65 + (m:Int) / 26:=by rw [IntKind.wrap_u8]; omega
   have d6:IntKind.u8.wrap (65 + (m:Int) % 26) = 65 + (m:Int) % 26:=by rw [IntKind.wrap_u8]; omega
   have d7:IntKind.i64.wrap ((m:Int) - 1) = (m:Int) - 1:=w64 (by omega) (by omega)
   have hu:unb [[AV.int .u8 (65 + (m:Int) / 26)],[AV.int .u8 (65 + (m:Int) % 26)]] = some [UInt8.ofNat (65 + m / 26),UInt8.ofNat (65 + m % 26)]:=by
    have:=QTD (n:=65 + m / 26) (m:=65 + m % 26) (by omega) (by omega)
    rwa [show ((65 + m / 26:Nat):Int) = 65 + (m:Int) / 26 by omega,show ((65 + m % 26:Nat):Int) = 65 + (m:Int) % 26 by omega] at this
   obtain ⟨nm,hnm⟩:∃ nm:List UInt8,nm = [UInt8.ofNat (65 + m / 26),UInt8.ofNat (65 + m % 26)]:=⟨_,rfl⟩
   rw [← hnm] at hu
   have hnl:nm.length = 2:=by rw [hnm]; rfl
   clear hnm
   have h':0 < m:=by omega
   simp +decide -dsimp -implicitDefEqProofs [go_sem,h',d1,d1',d2,d3,d4,d5,d6,d7,hu,maxLen]
   refine ⟨by omega,⟨by omega,by omega⟩,?_⟩
   have eR:l.map QBF ++ [[AV.str (84 :: nm),AV.str [49]]] = (l ++ [(84 :: nm,[49])]).map QBF:=by simp [QBF]
   rw [eR]
   refine QAI ((m:Int) - 1,l ++ [(84 :: nm,[49])]) ⟨by show _ ≤ _; omega,by show (l ++ _).length + Int.toNat _ ≤ _; simp; omega,fun x hx=>?_⟩ (by show Int.toNat _ < Int.toNat _; omega) (QAD (by simp) ?_)
   ·rcases List.mem_append.1 hx with hx | hx
    ·exact hv x hx
    ·rw [List.mem_singleton.1 hx]; simp
   simp +decide -dsimp -implicitDefEqProofs [go_sem,QAK,QBF]
  have h':¬ (0:Int) < c:=h
  simp +decide -dsimp -implicitDefEqProofs [go_sem,h']
  obtain ⟨n0,hn0⟩:∃ n0,n0 = l.length:=⟨_,rfl⟩
  have hn1:n0 ≤ 140:=by omega
  rw [← hn0]
  refine QAR (S:=Nat × List (List UInt8 × List UInt8)) (fun s=>⟨tmps 225 [(0,.ptr 0 0),(3,.ptr 1 0),(4,.ptr 2 0),(178,.int .i64 n0),(179,.int .i64 s.1)],[QAK t (k + 1 + 1),.box 34 [.str r.path,.int .i64 r.index,.own 3 n0,.own 4 r.tags.length,.own 5 r.links.length,.imm (r.run.map QAf),.imm (r.load.map QAf),.str r.name,.int .i64 r.prio,.str r.owner,.str r.group,.int .i64 r.mode],.box 34 [.str [],.int .i64 0,.nils,.nils,.nils,.nils,.nils,.str [],.int .i64 0,.str [],.str [],.int .i64 0],.reg 93 2 (s.2.map QBF),.reg 9 1 (r.tags.map QAf),.reg 9 1 (r.links.map QAf)]⟩) (fun s=>n0 - s.1)
   (fun s=>s.1 ≤ n0 ∧ s.2.length = n0 ∧ ∀ x ∈ s.2,x.2.length ≤ 256) (0,l) ⟨by simp,hn0.symm,hv⟩ (QAD (by simp) ?_) ?_
  ·simp +decide -dsimp -implicitDefEqProofs [go_sem,QAK,hn0]
  clear hn0 hl hv h h' hc
  rintro ⟨i,l⟩ ⟨hi,hl,hv⟩
  simp only at hi hl hv
  by_cases h:i < n0
  rotate_left
  ·have e:i = n0:=by omega
   subst e
   simp +decide -dsimp -implicitDefEqProofs [go_sem]
   refine QAT (.agg (QAU { r with props:=l })) [QAK t (k + 1 + 1)] ⟨_,_,rfl,rfl,⟨few.path,few.tags,by show l.length < _; omega,fun x hx=>by have:=hv x hx; omega,few.links,few.link,few.runs,few.rn,few.loads,few.ld⟩,by omega⟩ rfl ?_
   simp +decide -dsimp -implicitDefEqProofs [go_sem,QAK,QAU,hl]
  have w1:IntKind.i64.wrap ((i:Int) + 1) = i + 1:=w64 (by omega) (by omega)
  simp +decide -dsimp -implicitDefEqProofs [go_sem,h]
  refine QAR (S:=Nat × List (List UInt8 × List UInt8)) (fun s=>⟨tmps 225 [(0,.ptr 0 0),(3,.ptr 1 0),(4,.ptr 2 0),(7,.int .i64 s.1),(178,.int .i64 n0),(179,.int .i64 i)],[QAK t (k + 1 + 1),.box 34 [.str r.path,.int .i64 r.index,.own 3 n0,.own 4 r.tags.length,.own 5 r.links.length,.imm (r.run.map QAf),.imm (r.load.map QAf),.str r.name,.int .i64 r.prio,.str r.owner,.str r.group,.int .i64 r.mode],.box 34 [.str [],.int .i64 0,.nils,.nils,.nils,.nils,.nils,.str [],.int .i64 0,.str [],.str [],.int .i64 0],.reg 93 2 (s.2.map QBF),.reg 9 1 (r.tags.map QAf),.reg 9 1 (r.links.map QAf)]⟩) (fun s=>s.1)
   (fun s=>s.1 ≤ i ∧ s.2.length = n0 ∧ ∀ x ∈ s.2,x.2.length ≤ 256) (i,l) ⟨by simp,hl,hv⟩ (QAD (by simp) ?_) ?_
  ·simp +decide -dsimp -implicitDefEqProofs [go_sem,QAK]
  clear hl hv
  rintro ⟨j,l⟩ ⟨hj,hl,hv⟩
  simp only at hj hl hv
  by_cases hj0:j = 0
  ·subst hj0
   simp +decide -dsimp -implicitDefEqProofs [go_sem,w1]
   refine QAI (i + 1,l) ⟨by show i + 1 ≤ n0; omega,hl,hv⟩ (by show n0 - (i + 1) < n0 - i; omega) (QAD (by simp) ?_)
   simp +decide -dsimp -implicitDefEqProofs [go_sem,QAK]
  obtain ⟨q,rfl⟩:∃ q,j = q + 1:=⟨j - 1,by omega⟩
  have p1:(0:Int) < (q:Int) + 1:=by omega
  have p2:(0:Int) ≤ (q:Int) + 1:=by omega
  have p3:((q:Int) + 1).toNat = q + 1:=by omega
  have p4:IntKind.i64.wrap (q:Int) = q:=w64 (by omega) (by omega)
  have p5:q + 1 < n0:=by omega
  have p6:q < n0:=by omega
  have p7:q + 1 < l.length:=by omega
  have p8:q < l.length:=by omega
  by_cases hlt:Op.bytesLess l[q + 1].1 l[q].1 = true
  ·simp +decide -dsimp -implicitDefEqProofs [go_sem,p1,p2,p3,p4,p5,p6,hl,hlt]
   have eR:((l.map QBF).set (q + 1) (QBF l[q] ++ List.drop 2 (QBF l[q + 1]))).set q (QBF l[q + 1] ++ List.drop 2 (QBF l[q])) = ((l.set (q + 1) l[q]).set q l[q + 1]).map QBF:=by
    have e1:∀ x,List.drop 2 (QBF x) = []:=fun x=>rfl
    rw [e1,e1,List.append_nil,List.append_nil,List.map_set,List.map_set]
   rw [eR]
   refine QAI (q,(l.set (q + 1) l[q]).set q l[q + 1]) ⟨by show q ≤ i; omega,by simp [hl],fun x hx=>?_⟩ (by show q < q + 1; omega) (QAD (by simp) ?_)
   ·rcases List.mem_or_eq_of_mem_set hx with hx | rfl
    ·rcases List.mem_or_eq_of_mem_set hx with hx | rfl
     ·exact hv x hx
     ·exact hv _ (List.getElem_mem _)
    ·exact hv _ (List.getElem_mem _)
   simp +decide -dsimp -implicitDefEqProofs [go_sem,QAK,-List.map_set]
  ·simp +decide -dsimp -implicitDefEqProofs [go_sem,p1,p2,p3,p4,p5,p6,hl,hlt,w1]
   refine QAI (i + 1,l) ⟨by show i + 1 ≤ n0; omega,hl,hv⟩ (by show n0 - (i + 1) < n0 - i; omega) (QAD (by simp) ?_)
   simp +decide -dsimp -implicitDefEqProofs [go_sem,QAK]
 rw [if_neg h12]
 refine QAR (S:=Nat × Nat) (fun s=>⟨tmps 225 [(0,.ptr 0 0),(3,.ptr 1 0),(4,.ptr 2 0),(8,.int .i64 s.1)],[QAK t s.2,.box 34 [.str r.path,.int .i64 r.index,.own 3 r.props.length,.own 6 s.1,.own 5 r.links.length,.imm (r.run.map QAf),.imm (r.load.map QAf),.str r.name,.int .i64 r.prio,.str r.owner,.str r.group,.int .i64 r.mode],.box 34 [.str [],.int .i64 0,.nils,.nils,.nils,.nils,.nils,.str [],.int .i64 0,.str [],.str [],.int .i64 0],.reg 93 2 (r.props.map QBF),.reg 9 1 (r.tags.map QAf),.reg 9 1 (r.links.map QAf),.reg 9 1 ((QHx s.1).map QAf)]⟩) (fun s=>18 - s.1)
  (fun s=>s.1 ≤ 17 ∧ s.2 ≤ k + 1 + s.1) (0,k + 1) (by simp) ((Wk.nilB 1 3 9 1 rfl rfl (by simp)).trans (QAD (by simp) ?_)) ?_
 ·simp +decide -dsimp -implicitDefEqProofs [go_sem,QAK,QHx]
 rintro ⟨i,kk⟩ ⟨hi,hkk⟩
 simp only at hi hkk
 have o2:=QBK t kk 3 (by omega) (by omega)
 have b2:=QAy (QAZ t kk) 3 (by omega)
 generalize fold (QAZ t kk) 3 = f at o2 b2
 have w1:IntKind.i64.wrap (15 + f) = 15 + f:=w64 (by omega) (by omega)
 have w2:IntKind.i64.wrap ((i:Int) + 1) = i + 1:=w64 (by omega) (by omega)
 have w3:IntKind.i64.wrap (97 + (i:Int)) = 97 + i:=w64 (by omega) (by omega)
 have w4:IntKind.u8.wrap (97 + (i:Int)) = 97 + i:=by rw [IntKind.wrap_u8]; omega
 have hu:unb [[AV.int .u8 (97 + (i:Int))]] = some [UInt8.ofNat (97 + i)]:=by have:=QNU (n:=97 + i) (by omega); rwa [show ((97 + i:Nat):Int) = 97 + (i:Int) by omega] at this
 have hl:=QO0 i
 obtain ⟨ch,hch⟩:∃ ch,ch = UInt8.ofNat (97 + i):=⟨_,rfl⟩
 rw [← hch] at hu
 simp +decide -dsimp -implicitDefEqProofs [go_sem]
 refine QAB [0] o2 rfl rfl (by simp) rfl (by simp +decide -dsimp -implicitDefEqProofs [go_sem,QAC]) ?_
 by_cases hc:(i:Int) < 15 + f
 ·simp +decide -dsimp -implicitDefEqProofs [go_sem,QAC,w1,hc,w2,w3,w4,hu,hl,maxLen]
  refine ⟨⟨by omega,by omega⟩,?_⟩
  have eR:(QHx i).map QAf ++ [[AV.str [116,ch]]] = (QHx (i + 1)).map QAf:=by rw [QNC,hch]; simp [QAf,QXi]
  rw [eR]
  refine QAI (i + 1,kk + 1) ⟨by show i + 1 ≤ 17; omega,by show kk + 1 ≤ _; omega⟩ (by show 18 - (i + 1) < 18 - i; omega) (QAD (by simp) ?_)
  simp +decide -dsimp -implicitDefEqProofs [go_sem,QAK]
 ·simp +decide -dsimp -implicitDefEqProofs [go_sem,QAC,w1,hc]
  refine QAT (.agg (QAU { r with tags:=QHx i })) [QAK t (kk + 1)] ⟨_,_,rfl,rfl,⟨few.path,by show (QHx i).length < _; omega,few.props,few.vals,few.links,few.link,few.runs,few.rn,few.loads,few.ld⟩,by omega⟩ rfl ?_
  simp +decide -dsimp -implicitDefEqProofs [go_sem,QAK,QAU,hl]
end Go.Ab
namespace Go.Ab
open Go Go.Proofs Go.Sort
def bxW (d:QAs) (p:List Wr):AObj:=.box 72 [.imm ((QAn d).map QBM),.imm (p.map wrR)]
def QVz (t:List Int) (k n:Nat) (dur seen:QAs) (pend:List Wr) (av:AV) (G:List AObj):Prop:=
 ∃ k' dur' seen' pend',k' ≤ k + 300 ∧ Cpl dur' seen' pend' (n + 1) ∧ av = .tup [QBs dur' pend',.bool true] ∧
  (G = [QAK t k',dbB 2 3 4 pend'.length,mO dur',mO seen',.reg 88 1 (pend'.map QCG),.unborn,.unborn,bxW dur pend,bxW dur' pend'] ∨
   (pend' = [] ∧ G = [QAK t k',dbB 5 3 6 0,mO dur,mO seen',.reg 88 1 (pend.map QCG),mO dur',.reg 88 1 [],bxW dur pend,bxW dur' []]) ∨
   (pend' = [] ∧ G = [QAK t k',dbB 2 5 6 0,mO dur',mO seen,.reg 88 1 (pend.map QCG),mO seen',.reg 88 1 [],bxW dur pend,bxW dur' []]))
abbrev hW (t:List Int) (k:Nat) (dur seen:QAs) (pend:List Wr) (l:List AObj):List AObj:=QAK t k :: dbB 2 3 4 pend.length :: mO dur :: mO seen :: .reg 88 1 (pend.map QCG) :: .unborn :: .unborn :: bxW dur pend :: .box 72 [.nils,.nils] :: l
abbrev tW (p:List UInt8) (l:List (Nat × AV)):List AV:=tmps 171 ((0,.ptr 0 0) :: (1,.ptr 1 0) :: (3,.str p) :: (7,.ptr 7 0) :: (10,.ptr 8 0) :: l)
theorem QND {P:Program} {own:List Nat} {f:Nat} {fn:AFn} {xs:List AV} {H:List AObj} (n:Nat) (R:AV → List AObj → Prop) (hf:QAE P own f = some fn)
  (h:awp P H.length fn.body (QVk H.length fn.res R) ⟨xs ++ List.replicate (fn.nt - xs.length) .junk,H ++ List.replicate n .unborn⟩):ACallsR P f xs H R:=
 QKb R hf (QIj (Wk.pushN n) h)
theorem QV0 (t:List Int) (k n:Nat) (dur seen:QAs) (pend:List Wr) (path name:List UInt8) (hC:Cpl dur seen pend n) (hn:n ≤ 400) (hk:k < 500000000) (hpn:path.length ≤ 2000) (hnm:name.length ≤ 2000):
  ACallsR Tryz.prog 41 [.ptr 0 0,.ptr 1 0,QBs dur pend,.str path,.str name] [QAK t k,dbB 2 3 4 pend.length,mO dur,mO seen,.reg 88 1 (pend.map QCG)] (QVz t k n dur seen pend):=by
 have hec:=QAY
 have her:=QFe
 have hrr:=QEB
 have hrc:=QBZ
 have hwR:=QCt
 have hsr:=QAp
 have hwr:=QAr
 have hcl:=QBI
 have hsc:∀ (m:QAs) (k:Nat) (a b:AV),(a,b) ∈ smK .str m → QAM k a = true ∧ QAM k b = true:=fun m k=>QBU (k:=k) fun _=>rfl
 have hss:∀ (k:Nat) (l:List (List UInt8)),QAV k (l.map QAf) = true:=fun k l=>QAa fun _ _=>rfl
 obtain ⟨l,hl,hll⟩:=QQ1 hC.L.F.o
 have rA:=hC.L.all_c hl
 have hL:=hC.L.len
 have hln:l.length ≤ 100000:=by omega
 refine QND 2 _ c41_ok ?_
 unfold c41
 unfold QBs at rA ⊢
 refine QAL ⟨tW path [(4,.str name)],(hW t k dur seen pend [])⟩ (QAJ ?_) ?_
 ·simp +decide -dsimp -implicitDefEqProofs [go_sem]
  refine QAH (by simp) ?_
  simp +decide -dsimp -implicitDefEqProofs [go_sem,QAK,dbB,QAl,bxW,hcl,hec,hwR]
  exact ⟨hsc _ _,hsc _ _⟩
 refine QCk (S:=Nat × List UInt8) (fun s=>⟨tW s.2 [(4,.str name)],(hW t s.1 dur seen pend [])⟩) (fun s=>s.1 ≤ k + 20 ∧ s.2.length ≤ 2000) (QAJ ?_) ?_
 ·have c0:=QBK t k 2 (by omega) (by omega)
  have b0:=QAy (QAZ t k) 2 (by omega)
  generalize fold (QAZ t k) 2 = g at c0 b0
  simp +decide -dsimp -implicitDefEqProofs [go_sem]
  refine QAB [0] c0 rfl rfl (by simp) rfl (by simp +decide -dsimp -implicitDefEqProofs [go_sem,QAC]) ?_
  have hbx:bxW dur pend = .box 72 [.imm ((QAn dur).map QBM),.imm (pend.map wrR)]:=rfl
  by_cases g0:g = 0
  rotate_left
  ·simp +decide -dsimp -implicitDefEqProofs [go_sem,QAC,g0]
   refine QBt (k + 1,path) ⟨by show k + 1 ≤ k + 20; omega,hpn⟩ (QAD (by simp) ?_)
   simp +decide -dsimp -implicitDefEqProofs [go_sem,QAK,dbB,QAl,bxW,hcl,hec,hwR]
   exact ⟨hsc _ _,hsc _ _⟩
  subst g0
  simp +decide -dsimp -implicitDefEqProofs [go_sem,QAC]
  refine QAk [0] (QI8 t (k + 1) (by omega)) rfl (fun v G ⟨_,_,_,hG,_⟩=>by rw [hG]; rfl) (by simp) rfl (by simp +decide -dsimp -implicitDefEqProofs [go_sem,QAC]) ?_
  rintro _ _ ⟨p,k2,rfl,rfl,hpl,hk2⟩
  have hps:=QBV hpl
  simp +decide -dsimp -implicitDefEqProofs [go_sem,QAC,hbx]
  refine QAA rA (by simp +decide -dsimp -implicitDefEqProofs [go_sem,hec,hwR]) (by simp +decide -dsimp -implicitDefEqProofs [go_sem,hrc]) ?_
  by_cases hl0:0 < l.length
  rotate_left
  ·simp +decide -dsimp -implicitDefEqProofs [go_sem,hl0]
   refine QBt (k2,p) ⟨by show k2 ≤ k + 20; omega,by show p.length ≤ 2000; omega⟩ (QAD (by simp) ?_)
   simp +decide -dsimp -implicitDefEqProofs [go_sem,QAK,dbB,QAl,bxW,hcl,hec,hwR]
   exact ⟨hsc _ _,hsc _ _⟩
  have c1:=QBK t k2 2 (by omega) (by omega)
  have b1:=QAy (QAZ t k2) 2 (by omega)
  generalize fold (QAZ t k2) 2 = g1 at c1 b1
  simp +decide -dsimp -implicitDefEqProofs [go_sem,hl0]
  refine QAB [0] c1 rfl rfl (by simp) rfl (by simp +decide -dsimp -implicitDefEqProofs [go_sem,QAC]) ?_
  by_cases g1z:g1 = 0
  rotate_left
  ·simp +decide -dsimp -implicitDefEqProofs [go_sem,QAC,g1z]
   refine QBt (k2 + 1,p) ⟨by show k2 + 1 ≤ k + 20; omega,by show p.length ≤ 2000; omega⟩ (QAD (by simp) ?_)
   simp +decide -dsimp -implicitDefEqProofs [go_sem,QAK,dbB,QAl,bxW,hcl,hec,hwR]
   exact ⟨hsc _ _,hsc _ _⟩
  subst g1z
  have c2:=QBK t (k2 + 1) l.length (by omega) (by omega)
  have b2:=QAy (QAZ t (k2 + 1)) l.length (by omega)
  obtain ⟨j,hj⟩:∃ j:Nat,fold (QAZ t (k2 + 1)) l.length = j:=⟨_,(Int.toNat_of_nonneg b2.1).symm⟩
  rw [hj] at c2 b2
  have hjl:j < l.length:=by omega
  have hjp:=QBV (QBS ((hl.mem l[j]).1 (List.getElem_mem hjl)).1)
  simp +decide -dsimp -implicitDefEqProofs [go_sem,QAC]
  refine QAB [0] c2 rfl rfl (by simp) rfl (by simp +decide -dsimp -implicitDefEqProofs [go_sem,QAC]) ?_
  simp +decide -dsimp -implicitDefEqProofs [go_sem,QAC,hjl,QAN,QGz]
  refine QBt (k2 + 1 + 1,l[j].path) ⟨by show k2 + 1 + 1 ≤ k + 20; omega,by show l[j].path.length ≤ 2000; omega⟩ (QAD (by simp) ?_)
  simp +decide -dsimp -implicitDefEqProofs [go_sem,QAK,dbB,QAl,bxW,hcl,hec,hwR]
  exact ⟨hsc _ _,hsc _ _⟩
 ·rintro ⟨k1,p⟩ ⟨hk1,hp⟩
  simp only at hk1 hp ⊢
  have cg:=QBK t k1 10 (by omega) (by omega)
  have bg:=QAy (QAZ t k1) 10 (by omega)
  generalize fold (QAZ t k1) 10 = g at cg bg
  have hbx:bxW dur pend = .box 72 [.imm ((QAn dur).map QBM),.imm (pend.map wrR)]:=rfl
  have cG:∃ r b,QW5 l p r b ∧ ACalls Tryz.prog 20 [.ptr 0 0,.str p] (dbO dur seen pend) (QGn r b) (dbO dur seen pend):=by
   by_cases hpl:QAd p = true
   ·obtain ⟨r,b,hr,c⟩:=QQh dur seen pend p hpl (by omega) (by
     cases hg:QAv (QAw p) seen with
     | none=>simp
     | some t=>have:=hC.L.F.tx _ _ hg; simp only [Option.getD_some]; omega)
    exact ⟨r,b,QR7 hl hr,c⟩
   ·exact ⟨QCR,false,.inr ⟨fun x hx e=>hpl (e ▸ QBS ((hl.mem x).1 hx).1),rfl,rfl⟩,QPg dur seen pend p hpl (by omega)⟩
  have hdr:∀ m,QBC [1,2,3,4] (dbB 1 2 3 m) = dbB 2 3 4 m:=fun _=>rfl
  have hgr:∀ (is:List Nat) (l:List Wr),QBC is (.reg 88 1 (l.map QCG)) = .reg 88 1 (l.map QCG):=fun is l=>by simp only [QBC,hwr]
  have hwRr:∀ (is:List Nat) (l:List Wr),QA4 is (l.map wrR) = l.map wrR:=fun is l=>by
   induction l with
   | nil=>rfl
   | cons x r ih=>simp [QA4,ih,wrR,QDB,ren]
  refine QJL ?_
  refine QAL ⟨tW p [(4,.str name),(53,.int .i64 g)],(hW t (k1 + 1) dur seen pend [])⟩ (QAJ ?_) ?_
  ·simp +decide -dsimp -implicitDefEqProofs [go_sem]
   refine QAB [0] cg rfl rfl (by simp) rfl (by simp +decide -dsimp -implicitDefEqProofs [go_sem,QAC]) ?_
   simp +decide -dsimp -implicitDefEqProofs [go_sem,QAC]
   refine QAH (by simp) ?_
   simp +decide -dsimp -implicitDefEqProofs [go_sem,QAK,dbB,QAl,bxW,hcl,hec,hwR]
   (repeat' apply And.intro) <;> first | exact hsc _ _ | exact hss _ _ | omega | rfl
  refine QBm ?_
  refine QAL ⟨tmps 171 [(0,.ptr 0 0),(1,.ptr 1 0),(3,.str p),(4,.str name),(53,.int .i64 g),(54,.bool (decide (g ≤ 3))),(7,.ptr 7 0),(10,.ptr 8 0)],(hW t (k1 + 1) dur seen pend [])⟩ (QAJ ?_) ?_
  ·have e3:g = 0 ∨ g = 1 ∨ g = 2 ∨ g = 3 ∨ 3 < g:=by omega
   rcases e3 with rfl | rfl | rfl | rfl | h3
   rotate_right
   ·have n0:¬ g = 0:=by omega
    have n1:¬ g = 1:=by omega
    have n2:¬ g = 2:=by omega
    have n3:¬ g = 3:=by omega
    have n4:¬ g ≤ 3:=by omega
    simp +decide -dsimp -implicitDefEqProofs [go_sem,n0,n1,n2,n4]
    refine QAH (by simp) ?_
    simp +decide -dsimp -implicitDefEqProofs [go_sem,QAK,dbB,QAl,bxW,hcl,hec,hwR]
    (repeat' apply And.intro) <;> first | exact hsc _ _ | exact hss _ _ | omega | rfl
   all_goals
    simp +decide -dsimp -implicitDefEqProofs [go_sem]
    refine QAH (by simp) ?_
    simp +decide -dsimp -implicitDefEqProofs [go_sem,QAK,dbB,QAl,bxW,hcl,hec,hwR]
    (repeat' apply And.intro) <;> first | exact hsc _ _ | exact hss _ _ | omega | rfl
  refine QG4 ?_
  by_cases h3:g ≤ 3
  ·rw [show (Opd.t 54).ev (tmps 171 [(0,.ptr 0 0),(1,.ptr 1 0),(3,.str p),(4,.str name),(53,.int .i64 g),(54,.bool (decide (g ≤ 3))),(7,.ptr 7 0),(10,.ptr 8 0)]) = .bool (decide (g ≤ 3)) from rfl,decide_eq_true h3]
   show awp _ _ _ _ _
   refine QCk (S:=Nat × Rcd) (fun s=>⟨tW p [(13,.ptr 9 0)],(hW t s.1 dur seen pend [.box 34 (QAU s.2)])⟩) (fun s=>s.1 ≤ k + 200 ∧ QAb s.2 = true) (QAJ ?_) ?_
   ·simp +decide -dsimp -implicitDefEqProofs [go_sem]
    refine QAk [0] (QI8 t (k1 + 1) (by omega)) rfl (fun v G ⟨_,_,_,hG,_⟩=>by rw [hG]; rfl) (by simp) rfl (by simp +decide -dsimp -implicitDefEqProofs [go_sem,QAC]) ?_
    rintro _ _ ⟨pp,k2,rfl,rfl,hpl,hk2⟩
    have c1:=QBK t k2 9 (by omega) (by omega)
    have b1:=QAy (QAZ t k2) 9 (by omega)
    generalize fold (QAZ t k2) 9 = gi at c1 b1
    have wg:IntKind.i64.wrap (1 + gi) = 1 + gi:=w64 (by omega) (by omega)
    simp +decide -dsimp -implicitDefEqProofs [go_sem,QAC]
    refine QAB [0] c1 rfl rfl (by simp) rfl (by simp +decide -dsimp -implicitDefEqProofs [go_sem,QAC]) ?_
    simp +decide -dsimp -implicitDefEqProofs [go_sem,QAC,wg]
    refine QAk [0] (QHc t (k2 + 1) pp (1 + gi) (by omega) hpl (by omega)) rfl (fun v G ⟨_,_,_,hG,_⟩=>by rw [hG]; rfl) (by simp) rfl (by simp +decide -dsimp -implicitDefEqProofs [go_sem,QAC]) ?_
    rintro _ _ ⟨r,k3,rfl,rfl,hS,hrp,_,hk3⟩
    simp +decide -dsimp -implicitDefEqProofs [go_sem,QAC,QAN,QA5]
    refine QBt (k3,r) ⟨by show k3 ≤ k + 200; omega,hS⟩ (QAD (by simp) ?_)
    simp +decide -dsimp -implicitDefEqProofs [go_sem,QAK,dbB,QAl,bxW,hcl,hec,hwR,QIt]
    (repeat' apply And.intro) <;> first | exact hsc _ _ | exact hss _ _ | omega | rfl
   rintro ⟨k2,r⟩ ⟨hk2,hS⟩
   simp only at hk2 hS ⊢
   refine QCk (S:=Nat × Rcd) (fun s=>⟨tW p [(13,.ptr 9 0)],(hW t s.1 dur seen pend [.box 34 (QAU s.2)])⟩) (fun s=>s.1 ≤ k + 300 ∧ Few s.2) (QAJ ?_) ?_
   ·have c1:=QBK t k2 6 (by omega) (by omega)
    have b1:=QAy (QAZ t k2) 6 (by omega)
    generalize fold (QAZ t k2) 6 = gs at c1 b1
    simp +decide -dsimp -implicitDefEqProofs [go_sem]
    refine QAB [0] c1 rfl rfl (by simp) rfl (by simp +decide -dsimp -implicitDefEqProofs [go_sem,QAC]) ?_
    by_cases hz:gs = 0
    rotate_left
    ·simp +decide -dsimp -implicitDefEqProofs [go_sem,QAC,hz]
     refine QBt (k2 + 1,r) ⟨by show k2 + 1 ≤ k + 300; omega,(QBf hS).few⟩ (QAD (by simp) ?_)
     simp +decide -dsimp -implicitDefEqProofs [go_sem,QAK,dbB,QAl,bxW,hcl,hec,hwR,QIt]
     (repeat' apply And.intro) <;> first | exact hsc _ _ | exact hss _ _ | omega | rfl
    subst hz
    simp +decide -dsimp -implicitDefEqProofs [go_sem,QAC,QAN,QAP]
    refine QAk [0] (QQd t (k2 + 1) r (by omega) (QBf hS)) rfl (fun v G ⟨_,_,_,hG,_⟩=>by rw [hG]; rfl) (by simp) (by simp +decide -dsimp -implicitDefEqProofs [go_sem,QA5]) (by simp +decide -dsimp -implicitDefEqProofs [go_sem,QAC]) ?_
    rintro _ _ ⟨r2,k3,rfl,rfl,hf,hk3⟩
    simp +decide -dsimp -implicitDefEqProofs [go_sem,QAC,QAN,QA5]
    refine QBt (k3,r2) ⟨by show k3 ≤ k + 300; omega,hf⟩ (QAD (by simp) ?_)
    simp +decide -dsimp -implicitDefEqProofs [go_sem,QAK,dbB,QAl,bxW,hcl,hec,hwR,QIt,QA3]
    (repeat' apply And.intro) <;> first | exact hsc _ _ | exact hss _ _ | omega | rfl
   rintro ⟨k3,r2⟩ ⟨hk3,hf⟩
   simp only at hk3 hf ⊢
   clear hS
   have hcn:QGM seen < 512:=by have h1:=QKn seen; have h2:=hC.L.F.n; omega
   have hpl:pend.length < 1000000:=by have:=hC.hn; omega
   by_cases hS:QAb r2 = true
   ·have cP:=QO4 dur seen pend r2 hS hpl hcn
    have rP:=(QQ0 hC.L r2 hf hcn).1 hS
    have hC2:=hC.put (QAw r2.path,some (QBJ r2)) (QHQ (QBS hS)) (fun t e=>by cases e; exact QC7 hS) (by omega)
    have hdw:Go.Ab.doW seen (QAw r2.path,some (QBJ r2)) = QC4 (QAw r2.path) (QBJ r2) seen:=rfl
    rw [hdw] at hC2
    generalize (QAw r2.path,some (QBJ r2)) = w at cP rP hC2
    generalize QC4 (QAw r2.path) (QBJ r2) seen = seen2 at cP hC2 hdw
    generalize pend ++ [w] = pw at cP rP hC2
    refine QAJ ?_
    unfold dbO at cP
    unfold QBs at rP
    simp +decide -dsimp -implicitDefEqProofs [go_sem,QAN,QAP]
    refine QAB [1,2,3,4] cP rfl rfl (by simp) (by simp +decide -dsimp -implicitDefEqProofs [go_sem,QA5]) (by simp +decide -dsimp -implicitDefEqProofs [go_sem,hdr,hgr,QBE]) ?_
    simp +decide -dsimp -implicitDefEqProofs [go_sem,hdr,hgr,QBE,hbx,QAN,QAP]
    refine QAA rP (by simp +decide -dsimp -implicitDefEqProofs [go_sem,hec,hwR,QAg]) (by simp +decide -dsimp -implicitDefEqProofs [go_sem,hec,hwR]) ?_
    simp +decide -dsimp -implicitDefEqProofs [go_sem]
    refine QCJ (tmps 171 [(10,.ptr 8 0),(11,.bool true)]) [QAK t k3,dbB 2 3 4 (pw).length,mO (dur),mO (seen2),.reg 88 1 ((pw).map QCG),.unborn,.unborn,bxW dur pend,bxW (dur) (pw)] (QAD (by simp) ?_) ?_
    ·simp +decide -dsimp -implicitDefEqProofs [go_sem,QAK,dbB,QAl,bxW,hcl,hec,hwR]
     (repeat' apply And.intro) <;> first | exact hsc _ _ | exact hss _ _ | omega | rfl
    simp +decide -dsimp -implicitDefEqProofs [go_sem,bxW,QB7]
    exact ⟨k3,dur,seen2,pw,by omega,hC2,rfl,.inl rfl⟩
   ·have cP:=QPf dur seen pend r2 hf hS
    have rP:=(QQ0 hC.L r2 hf hcn).2 hS
    refine QAJ ?_
    unfold dbO at cP
    unfold QBs at rP
    simp +decide -dsimp -implicitDefEqProofs [go_sem,QAN,QAP]
    refine QAB [1,2,3,4] cP rfl rfl (by simp) (by simp +decide -dsimp -implicitDefEqProofs [go_sem,QA5]) (by simp +decide -dsimp -implicitDefEqProofs [go_sem,hdr,hgr,QBE]) ?_
    simp +decide -dsimp -implicitDefEqProofs [go_sem,hdr,hgr,QBE,hbx,QAN,QAP]
    refine QAA rP (by simp +decide -dsimp -implicitDefEqProofs [go_sem,hec,hwR,QAg]) (by simp +decide -dsimp -implicitDefEqProofs [go_sem,hec,hwR]) ?_
    simp +decide -dsimp -implicitDefEqProofs [go_sem]
    refine QCJ (tmps 171 [(10,.ptr 8 0),(11,.bool true)]) [QAK t k3,dbB 2 3 4 (pend).length,mO (dur),mO (seen),.reg 88 1 ((pend).map QCG),.unborn,.unborn,bxW dur pend,bxW (dur) (pend)] (QAD (by simp) ?_) ?_
    ·simp +decide -dsimp -implicitDefEqProofs [go_sem,QAK,dbB,QAl,bxW,hcl,hec,hwR]
     (repeat' apply And.intro) <;> first | exact hsc _ _ | exact hss _ _ | omega | rfl
    simp +decide -dsimp -implicitDefEqProofs [go_sem,bxW,QB7]
    exact ⟨k3,dur,seen,pend,by omega,hC.le (Nat.le_succ n),rfl,.inl rfl⟩
  rw [show (Opd.t 54).ev (tmps 171 [(0,.ptr 0 0),(1,.ptr 1 0),(3,.str p),(4,.str name),(53,.int .i64 g),(54,.bool (decide (g ≤ 3))),(7,.ptr 7 0),(10,.ptr 8 0)]) = .bool (decide (g ≤ 3)) from rfl,decide_eq_false h3]
  show awp _ _ _ _ _
  refine QAL ⟨tmps 171 [(0,.ptr 0 0),(1,.ptr 1 0),(3,.str p),(4,.str name),(53,.int .i64 g),(85,.bool (decide (g ≤ 5))),(7,.ptr 7 0),(10,.ptr 8 0)],(hW t (k1 + 1) dur seen pend [])⟩ (QAJ ?_) ?_
  ·have e3:g = 4 ∨ g = 5 ∨ 5 < g:=by omega
   rcases e3 with rfl | rfl | h3
   rotate_right
   ·have n0:¬ g = 4:=by omega
    have n1:¬ g = 5:=by omega
    have n4:¬ g ≤ 5:=by omega
    simp +decide -dsimp -implicitDefEqProofs [go_sem,n0,n4]
    refine QAH (by simp) ?_
    simp +decide -dsimp -implicitDefEqProofs [go_sem,QAK,dbB,QAl,bxW,hcl,hec,hwR]
    (repeat' apply And.intro) <;> first | exact hsc _ _ | exact hss _ _ | omega | rfl
   all_goals
    simp +decide -dsimp -implicitDefEqProofs [go_sem]
    refine QAH (by simp) ?_
    simp +decide -dsimp -implicitDefEqProofs [go_sem,QAK,dbB,QAl,bxW,hcl,hec,hwR]
    (repeat' apply And.intro) <;> first | exact hsc _ _ | exact hss _ _ | omega | rfl
  refine QG4 ?_
  have hpl:pend.length < 1000000:=by have:=hC.hn; omega
  by_cases h5:g ≤ 5
  ·rw [show (Opd.t 85).ev (tmps 171 [(0,.ptr 0 0),(1,.ptr 1 0),(3,.str p),(4,.str name),(53,.int .i64 g),(85,.bool (decide (g ≤ 5))),(7,.ptr 7 0),(10,.ptr 8 0)]) = .bool (decide (g ≤ 5)) from rfl,decide_eq_true h5]
   show awp _ _ _ _ _
   refine QAJ ?_
   by_cases hpp:QAd p = true
   rotate_left
   ·have cX:=QLJ dur seen pend p hpp (by omega)
    have rX:=QJ9 dur pend p hpp (by omega)
    unfold dbO at cX
    unfold QBs at rX
    simp +decide -dsimp -implicitDefEqProofs [go_sem]
    refine QAB [1,2,3,4] cX rfl rfl (by simp) rfl (by simp +decide -dsimp -implicitDefEqProofs [go_sem,hdr,hgr,QBE]) ?_
    simp +decide -dsimp -implicitDefEqProofs [go_sem,hdr,hgr,QBE,hbx]
    refine QAA rX (by simp +decide -dsimp -implicitDefEqProofs [go_sem,hec,hwR]) (by simp +decide -dsimp -implicitDefEqProofs [go_sem,hec,hwR]) ?_
    simp +decide -dsimp -implicitDefEqProofs [go_sem]
    refine QCJ (tmps 171 [(10,.ptr 8 0),(11,.bool true)]) [QAK t (k1 + 1),dbB 2 3 4 (pend).length,mO (dur),mO (seen),.reg 88 1 ((pend).map QCG),.unborn,.unborn,bxW dur pend,bxW (dur) (pend)] (QAD (by simp) ?_) ?_
    ·simp +decide -dsimp -implicitDefEqProofs [go_sem,QAK,dbB,QAl,bxW,hcl,hec,hwR]
     (repeat' apply And.intro) <;> first | exact hsc _ _ | exact hss _ _ | omega | rfl
    simp +decide -dsimp -implicitDefEqProofs [go_sem,bxW,QB7]
    exact ⟨(k1 + 1),dur,seen,pend,by omega,hC.le (Nat.le_succ n),rfl,.inl rfl⟩
   cases hg:QAv (QAw p) seen with
   | none=>
    have cX:=(QJd dur seen pend p hpp (by omega) hpl).2 hg
    have rX:=(QJ8 hC.L p hpp).2 hg
    unfold dbO at cX
    unfold QBs at rX
    simp +decide -dsimp -implicitDefEqProofs [go_sem]
    refine QAB [1,2,3,4] cX rfl rfl (by simp) rfl (by simp +decide -dsimp -implicitDefEqProofs [go_sem,hdr,hgr,QBE]) ?_
    simp +decide -dsimp -implicitDefEqProofs [go_sem,hdr,hgr,QBE,hbx]
    refine QAA rX (by simp +decide -dsimp -implicitDefEqProofs [go_sem,hec,hwR]) (by simp +decide -dsimp -implicitDefEqProofs [go_sem,hec,hwR]) ?_
    simp +decide -dsimp -implicitDefEqProofs [go_sem]
    refine QCJ (tmps 171 [(10,.ptr 8 0),(11,.bool true)]) [QAK t (k1 + 1),dbB 2 3 4 (pend).length,mO (dur),mO (seen),.reg 88 1 ((pend).map QCG),.unborn,.unborn,bxW dur pend,bxW (dur) (pend)] (QAD (by simp) ?_) ?_
    ·simp +decide -dsimp -implicitDefEqProofs [go_sem,QAK,dbB,QAl,bxW,hcl,hec,hwR]
     (repeat' apply And.intro) <;> first | exact hsc _ _ | exact hss _ _ | omega | rfl
    simp +decide -dsimp -implicitDefEqProofs [go_sem,bxW,QB7]
    exact ⟨(k1 + 1),dur,seen,pend,by omega,hC.le (Nat.le_succ n),rfl,.inl rfl⟩
   | some tx=>
    have hne:QAv (QAw p) seen ≠ none:=by rw [hg]; simp
    have cX:=(QJd dur seen pend p hpp (by omega) hpl).1 hne
    have rX:=(QJ8 hC.L p hpp).1 hne
    have hC2:=hC.put (QAw p,none) (QHQ hpp) (fun t e=>by cases e) (by omega)
    have hdw:Go.Ab.doW seen (QAw p,none) = QDt (QAw p) seen:=rfl
    rw [hdw] at hC2
    generalize (QAw p,none) = w at cX rX hC2
    generalize QDt (QAw p) seen = seen2 at cX hC2 hdw
    generalize pend ++ [w] = pw at cX rX hC2
    unfold dbO at cX
    unfold QBs at rX
    simp +decide -dsimp -implicitDefEqProofs [go_sem]
    refine QAB [1,2,3,4] cX rfl rfl (by simp) rfl (by simp +decide -dsimp -implicitDefEqProofs [go_sem,hdr,hgr,QBE]) ?_
    simp +decide -dsimp -implicitDefEqProofs [go_sem,hdr,hgr,QBE,hbx]
    refine QAA rX (by simp +decide -dsimp -implicitDefEqProofs [go_sem,hec,hwR]) (by simp +decide -dsimp -implicitDefEqProofs [go_sem,hec,hwR]) ?_
    simp +decide -dsimp -implicitDefEqProofs [go_sem]
    refine QCJ (tmps 171 [(10,.ptr 8 0),(11,.bool true)]) [QAK t (k1 + 1),dbB 2 3 4 (pw).length,mO (dur),mO (seen2),.reg 88 1 ((pw).map QCG),.unborn,.unborn,bxW dur pend,bxW (dur) (pw)] (QAD (by simp) ?_) ?_
    ·simp +decide -dsimp -implicitDefEqProofs [go_sem,QAK,dbB,QAl,bxW,hcl,hec,hwR]
     (repeat' apply And.intro) <;> first | exact hsc _ _ | exact hss _ _ | omega | rfl
    simp +decide -dsimp -implicitDefEqProofs [go_sem,bxW,QB7]
    exact ⟨(k1 + 1),dur,seen2,pw,by omega,hC2,rfl,.inl rfl⟩
  rw [show (Opd.t 85).ev (tmps 171 [(0,.ptr 0 0),(1,.ptr 1 0),(3,.str p),(4,.str name),(53,.int .i64 g),(85,.bool (decide (g ≤ 5))),(7,.ptr 7 0),(10,.ptr 8 0)]) = .bool (decide (g ≤ 5)) from rfl,decide_eq_false h5]
  show awp _ _ _ _ _
  refine QAL ⟨tmps 171 [(0,.ptr 0 0),(1,.ptr 1 0),(3,.str p),(4,.str name),(53,.int .i64 g),(101,.bool (decide (g = 6))),(7,.ptr 7 0),(10,.ptr 8 0)],(hW t (k1 + 1) dur seen pend [])⟩ (QAJ ?_) ?_
  ·simp +decide -dsimp -implicitDefEqProofs [go_sem]
   refine QAH (by simp) ?_
   simp +decide -dsimp -implicitDefEqProofs [go_sem,QAK,dbB,QAl,bxW,hcl,hec,hwR]
   (repeat' apply And.intro) <;> first | exact hsc _ _ | exact hss _ _ | omega | rfl
  refine QG4 ?_
  by_cases h6:g = 6
  ·rw [show (Opd.t 101).ev (tmps 171 [(0,.ptr 0 0),(1,.ptr 1 0),(3,.str p),(4,.str name),(53,.int .i64 g),(101,.bool (decide (g = 6))),(7,.ptr 7 0),(10,.ptr 8 0)]) = .bool (decide (g = 6)) from rfl,decide_eq_true h6]
   show awp _ _ _ _ _
   have rD:=QGD hC.L
   unfold QBs at rD
   have hdk:∀ x ∈ QFx seen,x.length ≤ 1000000:=fun x hx=>by
    have:=(QJV hC.L.F.o).1 hx
    exact hC.L.F.k x ((QED hC.L.F.o).2 (by cases e:QAv x seen with | none=>exact absurd e this.1 | some _=>rfl))
   have hdl:(QFx seen).length ≤ 100000:=by
    classical
    have h1:(QFx seen).length ≤ (QFy (ksS seen)).length:=by unfold QFx; exact List.length_filter_le _ _
    rw [QC2,QEj] at h1
    have h2:=QEi (m:=seen)
    omega
   have hsR:=QBg
   refine QCk (S:=Nat × List UInt8) (fun s=>⟨tW p [(4,.str s.2)],(hW t s.1 dur seen pend [])⟩) (fun s=>s.1 ≤ k + 200 ∧ s.2.length ≤ 1000000) (QAJ ?_) ?_
   ·generalize QFx seen = L at rD hdk hdl
    simp +decide -dsimp -implicitDefEqProofs [go_sem,hbx]
    refine QAA rD (by simp +decide -dsimp -implicitDefEqProofs [go_sem,hec,hwR]) (by simp +decide -dsimp -implicitDefEqProofs [go_sem,hss]) ?_
    by_cases hL0:0 < L.length
    rotate_left
    ·simp +decide -dsimp -implicitDefEqProofs [go_sem,hL0]
     refine QBt (k1 + 1,name) ⟨by show k1 + 1 ≤ k + 200; omega,by show name.length ≤ _; omega⟩ (QAD (by simp) ?_)
     simp +decide -dsimp -implicitDefEqProofs [go_sem,QAK,dbB,QAl,bxW,hcl,hec,hwR]
     (repeat' apply And.intro) <;> first | exact hsc _ _ | exact hss _ _ | omega | rfl
    have c1:=QBK t (k1 + 1) 3 (by omega) (by omega)
    have b1:=QAy (QAZ t (k1 + 1)) 3 (by omega)
    generalize fold (QAZ t (k1 + 1)) 3 = gs at c1 b1
    simp +decide -dsimp -implicitDefEqProofs [go_sem,hL0]
    refine QAB [0] c1 rfl rfl (by simp) rfl (by simp +decide -dsimp -implicitDefEqProofs [go_sem,QAC]) ?_
    by_cases hz:0 < gs
    rotate_left
    ·simp +decide -dsimp -implicitDefEqProofs [go_sem,QAC,hz]
     refine QBt (k1 + 1 + 1,name) ⟨by show k1 + 1 + 1 ≤ k + 200; omega,by show name.length ≤ _; omega⟩ (QAD (by simp) ?_)
     simp +decide -dsimp -implicitDefEqProofs [go_sem,QAK,dbB,QAl,bxW,hcl,hec,hwR]
     (repeat' apply And.intro) <;> first | exact hsc _ _ | exact hss _ _ | omega | rfl
    have c2:=QBK t (k1 + 1 + 1) L.length (by omega) (by omega)
    have b2:=QAy (QAZ t (k1 + 1 + 1)) L.length (by omega)
    obtain ⟨j,hj⟩:∃ j:Nat,fold (QAZ t (k1 + 1 + 1)) L.length = j:=⟨_,(Int.toNat_of_nonneg b2.1).symm⟩
    rw [hj] at c2 b2
    have hjl:j < L.length:=by omega
    simp +decide -dsimp -implicitDefEqProofs [go_sem,QAC,hz]
    refine QAB [0] c2 rfl rfl (by simp) rfl (by simp +decide -dsimp -implicitDefEqProofs [go_sem,QAC]) ?_
    simp +decide -dsimp -implicitDefEqProofs [go_sem,QAC,hjl]
    refine QBt (k1 + 1 + 1 + 1,L[j]) ⟨by show k1 + 1 + 1 + 1 ≤ k + 200; omega,hdk _ (List.getElem_mem hjl)⟩ (QAD (by simp) ?_)
    simp +decide -dsimp -implicitDefEqProofs [go_sem,QAK,dbB,QAl,bxW,hcl,hec,hwR]
    (repeat' apply And.intro) <;> first | exact hsc _ _ | exact hss _ _ | omega | rfl
   rintro ⟨k2,nm⟩ ⟨hk2,hnm⟩
   simp only at hk2 hnm ⊢
   refine QAJ ?_
   by_cases hm:nm ∈ QFx seen
   ·have hm':=(QJV hC.L.F.o).1 hm
    have cX:=(QOw dur seen pend nm hC.L.F hpl).1 hm'
    have rX:=(QL5 hC.L nm).1 hm
    have hC2:=hC.put (nm,none) hnm (fun t e=>by cases e) (by omega)
    have hdw:Go.Ab.doW seen (nm,none) = QDt nm seen:=rfl
    rw [hdw] at hC2
    generalize (nm,none) = w at cX rX hC2
    generalize QDt nm seen = seen2 at cX hC2 hdw
    generalize pend ++ [w] = pw at cX rX hC2
    unfold dbO at cX
    unfold QBs at rX
    simp +decide -dsimp -implicitDefEqProofs [go_sem]
    refine QAB [1,2,3,4] cX rfl rfl (by simp) rfl (by simp +decide -dsimp -implicitDefEqProofs [go_sem,hdr,hgr,QBE]) ?_
    simp +decide -dsimp -implicitDefEqProofs [go_sem,hdr,hgr,QBE,hbx]
    refine QAA rX (by simp +decide -dsimp -implicitDefEqProofs [go_sem,hec,hwR]) (by simp +decide -dsimp -implicitDefEqProofs [go_sem,hec,hwR]) ?_
    simp +decide -dsimp -implicitDefEqProofs [go_sem]
    refine QCJ (tmps 171 [(10,.ptr 8 0),(11,.bool true)]) [QAK t k2,dbB 2 3 4 (pw).length,mO (dur),mO (seen2),.reg 88 1 ((pw).map QCG),.unborn,.unborn,bxW dur pend,bxW (dur) (pw)] (QAD (by simp) ?_) ?_
    ·simp +decide -dsimp -implicitDefEqProofs [go_sem,QAK,dbB,QAl,bxW,hcl,hec,hwR]
     (repeat' apply And.intro) <;> first | exact hsc _ _ | exact hss _ _ | omega | rfl
    simp +decide -dsimp -implicitDefEqProofs [go_sem,bxW,QB7]
    exact ⟨k2,dur,seen2,pw,by omega,hC2,rfl,.inl rfl⟩
   ·have hm':QAv nm seen = none ∨ QCA seen nm:=by
     by_cases e:QAv nm seen = none
     ·exact .inl e
     ·exact .inr (Classical.byContradiction fun hw=>hm ((QJV hC.L.F.o).2 ⟨e,hw⟩))
    have cX:=(QOw dur seen pend nm hC.L.F hpl).2 hm'
    have rX:=(QL5 hC.L nm).2 hm
    unfold dbO at cX
    unfold QBs at rX
    simp +decide -dsimp -implicitDefEqProofs [go_sem]
    refine QAB [1,2,3,4] cX rfl rfl (by simp) rfl (by simp +decide -dsimp -implicitDefEqProofs [go_sem,hdr,hgr,QBE]) ?_
    simp +decide -dsimp -implicitDefEqProofs [go_sem,hdr,hgr,QBE,hbx]
    refine QAA rX (by simp +decide -dsimp -implicitDefEqProofs [go_sem,hec,hwR]) (by simp +decide -dsimp -implicitDefEqProofs [go_sem,hec,hwR]) ?_
    simp +decide -dsimp -implicitDefEqProofs [go_sem]
    refine QCJ (tmps 171 [(10,.ptr 8 0),(11,.bool true)]) [QAK t k2,dbB 2 3 4 (pend).length,mO (dur),mO (seen),.reg 88 1 ((pend).map QCG),.unborn,.unborn,bxW dur pend,bxW (dur) (pend)] (QAD (by simp) ?_) ?_
    ·simp +decide -dsimp -implicitDefEqProofs [go_sem,QAK,dbB,QAl,bxW,hcl,hec,hwR]
     (repeat' apply And.intro) <;> first | exact hsc _ _ | exact hss _ _ | omega | rfl
    simp +decide -dsimp -implicitDefEqProofs [go_sem,bxW,QB7]
    exact ⟨k2,dur,seen,pend,by omega,hC.le (Nat.le_succ n),rfl,.inl rfl⟩
  rw [show (Opd.t 101).ev (tmps 171 [(0,.ptr 0 0),(1,.ptr 1 0),(3,.str p),(4,.str name),(53,.int .i64 g),(101,.bool (decide (g = 6))),(7,.ptr 7 0),(10,.ptr 8 0)]) = .bool (decide (g = 6)) from rfl,decide_eq_false h6]
  show awp _ _ _ _ _
  refine QAJ ?_
  by_cases h7:g = 7
  ·have cY:=ACallsR.unbornG 2 (QRa dur seen pend) (fun v G h=>by rw [h.2]; exact Nat.le_refl _)
   have rY:=QTB dur pend hC.L.o hC.L.n
   rw [QPh (QCa pend hC.L.o) hC.L.F.o hC.L.e] at rY
   unfold QBs at rY
   have hC2:=(hC.sync (by omega)).le (Nat.le_succ n)
   have hdr2:QBC [1,2,3,4,5,6] (dbB 1 2 3 pend.length) = dbB 2 3 4 pend.length:=rfl
   have hdr3:QBC [1,2,3,4,5,6] (dbB 4 2 5 0) = dbB 5 3 6 0:=rfl
   have hgr0:∀ (is:List Nat),QBC is (.reg 88 1 []) = .reg 88 1 []:=fun _=>rfl
   simp only [dbO,List.replicate,List.cons_append,List.nil_append] at cY
   simp +decide -dsimp -implicitDefEqProofs [go_sem,h7]
   refine QAk [1,2,3,4,5,6] cY rfl (fun v G h=>by rw [h.2]; rfl) (by simp) rfl (by simp +decide -dsimp -implicitDefEqProofs [go_sem,hdr2,hgr,QBE]) ?_
   rintro _ _ ⟨rfl,rfl⟩
   simp +decide -dsimp -implicitDefEqProofs [go_sem,hdr3,hgr,hgr0,QBE,hbx]
   refine QAA rY (by simp +decide -dsimp -implicitDefEqProofs [go_sem,hec,hwR]) (by simp +decide -dsimp -implicitDefEqProofs [go_sem,hec]) ?_
   simp +decide -dsimp -implicitDefEqProofs [go_sem]
   refine QCJ (tmps 171 [(10,.ptr 8 0),(11,.bool true)]) [QAK t (k1 + 1),dbB 5 3 6 0,mO dur,mO seen,.reg 88 1 (pend.map QCG),mO seen,.reg 88 1 [],bxW dur pend,bxW seen []] (QAD (by simp) ?_) ?_
   ·simp +decide -dsimp -implicitDefEqProofs [go_sem,QAK,dbB,QAl,bxW,hcl,hec,hwR]
    (repeat' apply And.intro) <;> first | exact hsc _ _ | exact hss _ _ | omega | rfl
   simp +decide -dsimp -implicitDefEqProofs [go_sem,bxW,QB7]
   exact ⟨k1 + 1,seen,seen,[],by omega,hC2,rfl,.inr (.inl ⟨rfl,rfl⟩)⟩
  by_cases h8:g = 8
  ·have c1:=QBK t (k1 + 1) 5 (by omega) (by omega)
   have b1:=QAy (QAZ t (k1 + 1)) 5 (by omega)
   generalize fold (QAZ t (k1 + 1)) 5 = gk at c1 b1
   have wk:IntKind.i64.wrap (gk - 1) = gk - 1:=w64 (by omega) (by omega)
   have cY:=ACallsR.unbornG 2 (QO5 dur seen pend (gk - 1) hpl) (fun v G h=>by rw [h.2]; exact Nat.le_refl _)
   have rY:=QMT dur pend (gk - 1) hC.L.o hC.L.n
   have hC2:=(hC.crash (QDr (gk - 1) pend.length) (by omega)).le (Nat.le_succ n)
   generalize QA8 dur (pend.take (QDr (gk - 1) pend.length)) = dF at cY rY hC2
   unfold QBs at rY
   have hdr2:QBC [1,2,3,4,5,6] (dbB 1 2 3 pend.length) = dbB 2 3 4 pend.length:=rfl
   have hdr3:QBC [1,2,3,4,5,6] (dbB 1 4 5 0) = dbB 2 5 6 0:=rfl
   have hgr0:∀ (is:List Nat),QBC is (.reg 88 1 []) = .reg 88 1 []:=fun _=>rfl
   simp only [dbO,List.replicate,List.cons_append,List.nil_append] at cY
   simp +decide -dsimp -implicitDefEqProofs [go_sem,h8]
   refine QAB [0] c1 rfl rfl (by simp) rfl (by simp +decide -dsimp -implicitDefEqProofs [go_sem,QAC]) ?_
   simp +decide -dsimp -implicitDefEqProofs [go_sem,QAC,wk]
   refine QAk [1,2,3,4,5,6] cY rfl (fun v G h=>by rw [h.2]; rfl) (by simp) rfl (by simp +decide -dsimp -implicitDefEqProofs [go_sem,hdr2,hgr,QBE]) ?_
   rintro _ _ ⟨rfl,rfl⟩
   simp +decide -dsimp -implicitDefEqProofs [go_sem,hdr3,hgr,hgr0,QBE,hbx]
   refine QAA rY (by simp +decide -dsimp -implicitDefEqProofs [go_sem,hec,hwR]) (by simp +decide -dsimp -implicitDefEqProofs [go_sem,hec]) ?_
   simp +decide -dsimp -implicitDefEqProofs [go_sem]
   refine QCJ (tmps 171 [(10,.ptr 8 0),(11,.bool true)]) [QAK t (k1 + 1 + 1),dbB 2 5 6 0,mO dF,mO seen,.reg 88 1 (pend.map QCG),mO dF,.reg 88 1 [],bxW dur pend,bxW dF []] (QAD (by simp) ?_) ?_
   ·simp +decide -dsimp -implicitDefEqProofs [go_sem,QAK,dbB,QAl,bxW,hcl,hec,hwR]
    (repeat' apply And.intro) <;> first | exact hsc _ _ | exact hss _ _ | omega | rfl
   simp +decide -dsimp -implicitDefEqProofs [go_sem,bxW,QB7]
   exact ⟨k1 + 1 + 1,dF,dF,[],by omega,hC2,rfl,.inr (.inr ⟨rfl,rfl⟩)⟩
  obtain ⟨r,b,hr,cX⟩:=cG
  have rX:=QUR hC.L hl hln p hr
  have hfit:Fit r:=by
   rcases hr with ⟨x,hx,_,rfl,_⟩ | ⟨_,rfl,_⟩
   ·exact (QBf ((hl.mem _).1 hx).1).few.fit
   ·exact nil0_few.fit
  have cS:=QO8 r r hfit hfit
  rw [decide_eq_true rfl] at cS
  unfold dbO QGn at cX
  unfold QBs QGn at rX
  simp +decide -dsimp -implicitDefEqProofs [go_sem,h7,h8]
  refine QAJ ?_
  simp +decide -dsimp -implicitDefEqProofs [go_sem]
  refine QAB [1,2,3,4] cX rfl rfl (by simp) rfl (by simp +decide -dsimp -implicitDefEqProofs [go_sem,hdr,hgr,QBE]) ?_
  simp +decide -dsimp -implicitDefEqProofs [go_sem,hdr,hgr,QBE,hbx,QAN,QA5]
  refine QAA rX (by simp +decide -dsimp -implicitDefEqProofs [go_sem,hec,hwR]) (by simp +decide -dsimp -implicitDefEqProofs [go_sem,QAg]) ?_
  simp +decide -dsimp -implicitDefEqProofs [go_sem,QAN,QAP]
  refine QAO cS (by simp +decide -dsimp -implicitDefEqProofs [go_sem,QAg]) rfl ?_
  simp +decide -dsimp -implicitDefEqProofs [go_sem]
  refine QCJ (tmps 171 [(10,.ptr 8 0),(11,.bool true)]) [QAK t (k1 + 1),dbB 2 3 4 (pend).length,mO (dur),mO (seen),.reg 88 1 ((pend).map QCG),.unborn,.unborn,bxW dur pend,bxW (dur) (pend)] (QAD (by simp) ?_) ?_
  ·simp +decide -dsimp -implicitDefEqProofs [go_sem,QAK,dbB,QAl,bxW,hcl,hec,hwR]
   (repeat' apply And.intro) <;> first | exact hsc _ _ | exact hss _ _ | omega | rfl
  simp +decide -dsimp -implicitDefEqProofs [go_sem,bxW,QB7]
  exact ⟨(k1 + 1),dur,seen,pend,by omega,hC.le (Nat.le_succ n),rfl,.inl rfl⟩
end Go.Ab
