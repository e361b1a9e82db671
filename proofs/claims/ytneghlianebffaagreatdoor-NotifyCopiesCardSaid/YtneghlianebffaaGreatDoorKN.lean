/- The example of the chapter. -/
import Derived.Test.YtneghlianebffaaGreatDoorOX
import Derived.Test.YtneghlianebffaaGreatDoorS2
import Derived.Test.YtneghlianebffaaGreatDoorB1
namespace Go.Ab
open Go Go.Proofs
set_option maxRecDepth 20000
def QKQ:Nat → List El → List UInt8 → Bool
 | 0,_,_=>false
 | _ + 1,[],s=>s.isEmpty
 | n + 1,e :: l,s=>if e.star then QKQ n l s || (match s with | []=>false | _ :: t=>QKQ n (e :: l) t)
  else match s with | []=>false | c :: t=>e.set c.toNat && QKQ n l t
theorem QHz:∀ (n:Nat) (l:List El) (s:List UInt8),l.length + s.length < n → QKQ n l s = mtch l s
 | 0,_,_,h=>by omega
 | n + 1,[],s,_=>by rw [QMH]; rfl
 | n + 1,e :: l,s,h=>by
  simp only [List.length_cons] at h
  unfold QKQ
  cases he:e.star with
  | true=>
   rw [QHR he,if_pos rfl,QHz n l s (by omega)]
   cases s with
   | nil=>rfl
   | cons c t=>
    simp only [List.length_cons] at h
    have h2:=QHz n (e :: l) t (by simp only [List.length_cons]; omega)
    show (mtch l (c :: t) || QKQ n (e :: l) t) = (mtch l (c :: t) || mtch (e :: l) t)
    rw [h2]
  | false=>
   rw [QLD he]
   simp only [Bool.false_eq_true,if_false]
   cases s with
   | nil=>rfl
   | cons c t=>
    simp only [List.length_cons] at h
    have h2:=QHz n l t (by omega)
    show (e.set c.toNat && QKQ n l t) = (e.set c.toNat && mtch l t)
    rw [h2]
def QNW (p s:List UInt8):Bool:=match QCf p with
 | none=>false
 | some L=>QBJ s && L.any fun l=>QKQ (l.length + s.length + 1) l s
theorem QQH:QDR = QNW:=by
 funext p s
 unfold QDR QNW
 cases QCf p with
 | none=>rfl
 | some L=>
  have e:(fun l=>mtch l s) = fun l=>QKQ (l.length + s.length + 1) l s:=by
   funext l
   exact (QHz _ _ _ (by omega)).symm
  simp only [e]
def QYO (f:Flt) (r:Rcd):Bool:=QNW f.sub (QI0 r.props QEc) && (decide (f.tag = []) || r.tags.any (QNW f.tag))
theorem QDc:QA4 = QYO:=by
 funext f r
 unfold QA4 QYO
 rw [QQH]
def tS:Txt:=[115]
def QDu:Txt:=[98,108,111,99,107]
def QSN:Txt:=[117,115,98]
def QKR:Txt:=[115,99,115,105]
def tA:Txt:=[47,97]
def tAB:Txt:=[47,97,47,98]
deriving instance DecidableEq for RSb
deriving instance DecidableEq for RBus
def kF:Flt:=⟨QDu,[]⟩
def kW0:RBus:=⟨[],[],0⟩
def kW1:RBus:=⟨[],[⟨tS,kF,[],[],true⟩],0⟩
theorem k1:kW0.subR tS kF = (kW1,0):=by
 delta RBus.subR
 decide +kernel
def kW2:RBus:=⟨[],[⟨tS,kF,[],[],false⟩],0⟩
theorem k2:kW1.readR tS 0 = (kW2,([],true,0)):=by
 delta RBus.readR RBus.wanted
 rw [QDc]
 decide +kernel
def kW3:RBus:=⟨[],[⟨tS,kF,[],[],false⟩],0⟩
theorem k3:kW2.readyR (QCw tAB 2 QDu) = (kW3,305):=by
 delta RBus.readyR RBus.tell QAp
 rw [QDc]
 decide +kernel
def kW4:RBus:=⟨[QCw tA 1 QSN],[⟨tS,kF,[],[],false⟩],1⟩
theorem k4:kW3.readyR (QCw tA 1 QSN) = (kW4,0):=by
 delta RBus.readyR RBus.tell QAp
 rw [QDc]
 decide +kernel
def kW5:RBus:=⟨[QCw tA 1 QSN,QCw tAB 2 QDu],[⟨tS,kF,[⟨2,1,QCw tAB 2 QDu⟩],[tAB],false⟩],2⟩
theorem k5:kW4.readyR (QCw tAB 2 QDu) = (kW5,0):=by
 delta RBus.readyR RBus.tell QAp
 rw [QDc]
 decide +kernel
def kW6:RBus:=⟨[QCw tA 1 QSN,QCw tAB 2 QDu],[⟨tS,kF,[],[tAB],false⟩],2⟩
theorem k6:kW5.readR tS 9 = (kW6,([⟨2,1,QCw tAB 2 QDu⟩],false,0)):=by
 delta RBus.readR RBus.wanted
 rw [QDc]
 decide +kernel
def kW7:RBus:=⟨[QCw tA 1 QSN,QCw tAB 2 QDu],[⟨tS,kF,[],[tAB],false⟩],2⟩
theorem k7:kW6.goneR tA = (kW7,308):=by
 delta RBus.goneR RBus.tell QAp
 rw [QDc]
 decide +kernel
def kW8:RBus:=⟨[QCw tA 1 QSN,QCw tAB 2 QKR],[⟨tS,kF,[⟨3,2,QCw tAB 2 QKR⟩],[],false⟩],3⟩
theorem k8:kW7.readyR (QCw tAB 2 QKR) = (kW8,0):=by
 delta RBus.readyR RBus.tell QAp
 rw [QDc]
 decide +kernel
def kW9:RBus:=⟨[QCw tA 1 QSN,QCw tAB 2 QKR],[⟨tS,kF,[],[],false⟩],3⟩
theorem k9:kW8.readR tS 9 = (kW9,([⟨3,2,QCw tAB 2 QKR⟩],false,0)):=by
 delta RBus.readR RBus.wanted
 rw [QDc]
 decide +kernel
end Go.Ab
namespace Go.Ab
open Go Go.Proofs
def c32:AFn:=⟨(sq [(ox 2 (.mov (iv 0)))] (sq [(mv 3 0),(ox 4 (.nilchk (.t 3))),(ox 5 (fa 2 4)),(ox 6 (ld 5)),(mv 2 6)] .ret)),7,[(.tmp 2)]⟩
theorem c32_ok:QAg Tryz.prog [] 32 = some c32:=by kernel_rfl
def c6:AFn:=⟨(sq [(ox 2 (mb false))] (sq [(mv 19 0),(ox 20 (.build [.nils,(.int .i64 0)] [(0,(1,(.t 19)))])),(ox 21 (.box 48 (.t 20))),(mv 3 21)] (sq [(mv 22 3),(ox 23 (.bslice 9 1 false [(.v (.str [42])),(.v (.str [98,108,111,99,107])),(.v (.str [110,101,116,124,98,108,111,99,107]))])),(ox 24 (fc 24 [(.t 22),(.t 23)])),(mv 25 3),(ox 26 (.bslice 9 1 false [(.v (.str [])),(.v (.str [115,101,97,116]))])),(ox 27 (fc 24 [(.t 25),(.t 26)])),(ox 28 (.build [(.str []),(.str [])] [(0,(1,(.t 24))),(1,(1,(.t 27)))])),(ox 4 (.alloc 27 [(.str []),(.str [])])),(on (.store (some 2) (.t 4) (.t 28)))] (sq [(ox 29 (fc 12 [])),(ox 30 (fc 12 [])),(mv 5 29),(mv 6 30)] (.seq (sq [(mv 31 5),(ox 32 (.ext (.pnil false) [(.t 31)])),(mv 33 32),(of 34 (.mov (.t 6)) 33),(of 35 (.ext (.pnil false) [(.t 34)]) 33),(ox 36 (.pick (.t 33) (.v (.bool true)) (.t 35))),(mv 37 36),(of 38 (.mov (.t 5)) 37),(of 39 (.load (some 2) (.t 4)) 37),(of 40 (fc 13 [(.t 38),(.v (.str [111,119,110])),(.t 39)]) 37),(of 41 (b1 .neq 40 0) 37),(ox 42 (.pick (.t 37) (.v (.bool true)) (.t 41))),(mv 43 42),(of 44 (.mov (.t 6)) 43),(of 45 (.load (some 2) (.t 4)) 43),(of 46 (fc 13 [(.t 44),(.v (.str [111,119,110])),(.t 45)]) 43),(of 47 (b1 .neq 46 0) 43),(ox 48 (.pick (.t 43) (.v (.bool true)) (.t 47)))] (cd 48 (sq [(ox 2 (mb false))] .ret) .skip)) (sq [(ox 7 (.alloc 52 [.nils,.nils,(.int .i64 0)]))] (.seq (sq [(mv 49 3),(ox 50 (fc 20 [(.t 49),(iv 16)])),(mv 8 50)] (.block 0 (.loop (.seq (sq [(mv 51 8),(ox 52 (b1 .gtr 51 0))] (cd 52 .skip (.exit 0))) (.seq (.block 1 (sq [(mv 55 3),(ox 56 (.load (some 3) (.t 7))),(ox 57 (fc 25 [(.t 55),(.t 56)])),(mv 9 57)] (sq [(mv 58 3),(mv 59 9),(ox 60 (fc 26 [(.t 58),(.t 59),(iv 1)])),(ox 10 (.alloc 36 [(.str []),(.int .i64 0),.nils,.nils,.nils,.nils,.nils,(.str []),(.int .i64 0),(.str []),(.str []),(.int .i64 0)])),(on (.store (some 12) (.t 10) (.t 60)))] (sq [(ox 11 (.mov (iv 0))),(ox 12 (.mov (iv 0)))] (.seq (sq [(mv 61 3),(ox 62 (fc 20 [(.t 61),(iv 3)])),(ox 63 (b1 .eql 62 0))] (cd 63 (sq [(mv 64 5),(mv 65 9),(ox 66 (fc 27 [(.t 64),(.t 65)])),(mv 67 6),(mv 68 9),(ox 69 (fc 27 [(.t 67),(.t 68)])),(mv 11 66),(mv 12 69)] (.ops [(ox 71 (.load (some 3) (.t 7))),(mv 72 9),(ox 73 (fc 28 [(.t 71),(.t 72)])),(mv 70 73),(ox 74 (xt 70 0)),(ox 75 (xt 70 1)),(on (.store (some 3) (.t 7) (.t 74)))])) (.seq (.draw [(mv 76 5),(ox 77 (.load (some 12) (.t 10))),(ox 78 (fc 16 [(.t 76),(.t 77)])),(mv 79 6),(ox 80 (.load (some 12) (.t 10))),(ox 81 (fc 16 [(.t 79),(.t 80)])),(mv 11 78),(mv 12 81)] [0,0,3,0,0,31,63,127]) (.ops [(ox 83 (.load (some 3) (.t 7))),(ox 84 (.load (some 12) (.t 10))),(ox 85 (fc 29 [(.t 83),(.t 84)])),(mv 82 85),(ox 86 (xt 82 0)),(ox 87 (xt 82 1)),(on (.store (some 3) (.t 7) (.t 86)))])))) (sq [(mv 88 6),(mv 89 3),(ox 90 (.bslice 9 1 false [(.v (.str [115])),(.v (.str [116]))])),(ox 91 (fc 24 [(.t 89),(.t 90)])),(mv 92 3),(ox 93 (fc 30 [(.t 92)])),(ox 94 (fc 13 [(.t 88),(.t 91),(.t 93)]))] (sq [(mv 95 6),(mv 96 3),(ox 97 (.bslice 9 1 false [(.v (.str [115])),(.v (.str [116]))])),(ox 98 (fc 24 [(.t 96),(.t 97)])),(mv 99 3),(ox 100 (fc 20 [(.t 99),(iv 4)])),(ox 101 (fc 14 [(.t 95),(.t 98),(.t 100)]))] (sq [(mv 102 6),(mv 103 3),(ox 104 (.bslice 9 1 false [(.v (.str [115])),(.v (.str [116]))])),(ox 105 (fc 24 [(.t 103),(.t 104)])),(ox 106 (fc 19 [(.t 102),(.t 105)]))] (sq [(mv 108 5),(ox 109 (fc 14 [(.t 108),(.v (.str [111,119,110])),(iv 2)])),(mv 107 109),(ox 110 (xt 107 0)),(ox 111 (xt 107 1)),(ox 112 (xt 107 2)),(mv 13 110),(mv 14 111),(mv 15 112)] (sq [(mv 114 6),(ox 115 (fc 14 [(.t 114),(.v (.str [111,119,110])),(iv 2)])),(mv 113 115),(ox 116 (xt 113 0)),(ox 117 (xt 113 1)),(ox 118 (xt 113 2)),(mv 16 116),(mv 17 117),(mv 18 118)] (sq [(mv 119 11),(mv 120 12),(ox 121 (b2 .neq 119 120)),(mv 122 121),(of 123 (.mov (.t 15)) 122),(of 124 (.mov (.t 18)) 122),(of 125 (b2 .neq 123 124) 122),(ox 126 (.pick (.t 122) (.v (.bool true)) (.t 125))),(mv 127 126),(of 128 (.mov (.t 14)) 127),(of 129 (.mov (.t 17)) 127),(of 130 (.binb true (.t 128) (.t 129)) 127),(ox 131 (.pick (.t 127) (.v (.bool true)) (.t 130))),(mv 132 131),(of 133 (.mov (.t 13)) 132),(of 134 (.mov (.t 16)) 132),(of 135 (fc 31 [(.t 133),(.t 134)]) 132),(of 136 (.un .not (.t 135)) 132),(ox 137 (.pick (.t 132) (.v (.bool true)) (.t 136)))] (cd 137 (sq [(ox 2 (mb false))] .ret) .skip)))))))))))) (.ops [(mv 53 8),(ox 54 (b1 .sub 53 1)),(mv 8 54)])))))) (sq [(ox 138 (fc 18 [])),(mv 2 138)] .ret)))))))),139,[(.tmp 2)]⟩
end Go.Ab
namespace Go.Ab
open Go Go.Proofs
set_option maxRecDepth 20000
theorem QNX (p:Txt) (n:Int) (s:Txt) (hp:p.length ≤ 1000) (hs:s.length ≤ 1000):Few (QCw p n s):=by
 refine ⟨?_,?_,?_,?_,?_,?_,?_,?_,?_,?_⟩ <;> simp [QCw] <;> omega
def noK (_:Nat):Prop:=False
set_option maxHeartbeats 1000000 in
theorem QF6:ACalls Tryz.prog 18 [] [] (.bool true) []:=by
 refine QA2 cqq rfl ?_
 refine gS ?_
 refine gS ?_
 refine QAS (QIG [] noK (fun _ h=>h.elim)) ?_
 rintro _ G0 ⟨rfl,⟨⟨B0,h0⟩,_⟩⟩
 refine gs ?_
 refine gS ?_
 refine QAS (QK6 (W:=kW0) h0 tS kF (by decide)) ?_
 rintro v G1 ⟨hv,⟨⟨B1,h1⟩,_⟩⟩
 rw [k1] at hv h1
 subst hv
 refine gs ?_
 refine gS ?_
 refine QAS (QE0 h1 (by decide) tS 0) ?_
 rintro v G2 ⟨hv,⟨⟨B2,h2⟩,_⟩⟩
 rw [k2] at hv h2
 subst hv
 refine gs ?_
 refine gS ?_
 refine QAA (QNr tAB 2 QDu) rfl (by rw [QAE]; exact QBr 0 _) ?_
 refine gs ?_
 refine QAS (QGL h2 (by decide) (QCw tAB 2 QDu) (QNX _ _ _ (by decide) (by decide))) ?_
 rintro v G3 ⟨hv,⟨⟨B3,h3⟩,_⟩⟩
 rw [k3] at hv h3
 subst hv
 refine gs ?_
 refine gS ?_
 refine QAA (QNr tA 1 QSN) rfl (by rw [QAE]; exact QBr 0 _) ?_
 refine gs ?_
 refine QAS (QGL h3 (by decide) (QCw tA 1 QSN) (QNX _ _ _ (by decide) (by decide))) ?_
 rintro v G4 ⟨hv,⟨⟨B4,h4⟩,_⟩⟩
 rw [k4] at hv h4
 subst hv
 refine gs ?_
 refine QAA (QNr tAB 2 QDu) rfl (by rw [QAE]; exact QBr 0 _) ?_
 refine gs ?_
 refine QAS (QGL h4 (by decide) (QCw tAB 2 QDu) (QNX _ _ _ (by decide) (by decide))) ?_
 rintro v G5 ⟨hv,⟨⟨B5,h5⟩,_⟩⟩
 rw [k5] at hv h5
 subst hv
 refine gs ?_
 refine gS ?_
 refine QAS (QE0 h5 (by decide) tS 9) ?_
 rintro v G6 ⟨hv,⟨⟨B6,h6⟩,_⟩⟩
 rw [k6] at hv h6
 subst hv
 refine gs ?_
 refine gS ?_
 refine QAS (QPQ h6 (by decide) tA) ?_
 rintro v G7 ⟨hv,⟨⟨B7,h7⟩,_⟩⟩
 rw [k7] at hv h7
 subst hv
 refine gs ?_
 refine gS ?_
 refine QAA (QNr tAB 2 QKR) rfl (by rw [QAE]; exact QBr 0 _) ?_
 refine gs ?_
 refine QAS (QGL h7 (by decide) (QCw tAB 2 QKR) (QNX _ _ _ (by decide) (by decide))) ?_
 rintro v G8 ⟨hv,⟨⟨B8,h8⟩,_⟩⟩
 rw [k8] at hv h8
 subst hv
 refine gs ?_
 refine gS ?_
 refine QAS (QE0 h8 (by decide) tS 9) ?_
 rintro v G9 ⟨hv,⟨⟨B9,h9⟩,_⟩⟩
 rw [k9] at hv h9
 subst hv
 refine gs ?_
 refine QAD ?_
 have e1:=QB4 ⟨2,1,QCw tAB 2 QDu⟩
 have e2:=QB4 ⟨3,2,QCw tAB 2 QKR⟩
 have e3:(QCw tAB 2 QDu).path = [47,97,47,98]:=rfl
 rw [e3] at e1
 generalize (QCw tAB 2 QDu) = R1 at e1
 generalize (QCw tAB 2 QKR) = R2 at e2
 simp (maxSteps:=1000000) +decide -dsimp -implicitDefEqProofs [go_sem,e1,e2]
end Go.Ab
