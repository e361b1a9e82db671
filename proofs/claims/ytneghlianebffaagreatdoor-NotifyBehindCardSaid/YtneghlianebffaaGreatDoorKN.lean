/- The example of the chapter. -/
import Derived.Test.YtneghlianebffaaGreatDoorOX
import Derived.Test.YtneghlianebffaaGreatDoorS2
import Derived.Test.YtneghlianebffaaGreatDoorB1
namespace Go.Ab
open Go Go.Proofs
set_option maxRecDepth 20000
def mtchF : Nat → List El → List UInt8 → Bool
  | 0, _, _ => false
  | _ + 1, [], s => s.isEmpty
  | n + 1, e :: l, s => if e.star then mtchF n l s || (match s with | [] => false | _ :: t => mtchF n (e :: l) t)
    else match s with | [] => false | c :: t => e.set c.toNat && mtchF n l t
theorem mtchF_eq : ∀ (n : Nat) (l : List El) (s : List UInt8), l.length + s.length < n → mtchF n l s = mtch l s
  | 0, _, _, h => by omega
  | n + 1, [], s, _ => by rw [m_nil]; rfl
  | n + 1, e :: l, s, h => by
    simp only [List.length_cons] at h
    unfold mtchF
    cases he : e.star with
    | true =>
      rw [m_star he, if_pos rfl, mtchF_eq n l s (by omega)]
      cases s with
      | nil => rfl
      | cons c t =>
        simp only [List.length_cons] at h
        have h2 := mtchF_eq n (e :: l) t (by simp only [List.length_cons]; omega)
        show (mtch l (c :: t) || mtchF n (e :: l) t) = (mtch l (c :: t) || mtch (e :: l) t)
        rw [h2]
    | false =>
      rw [m_one he]
      simp only [Bool.false_eq_true, if_false]
      cases s with
      | nil => rfl
      | cons c t =>
        simp only [List.length_cons] at h
        have h2 := mtchF_eq n l t (by omega)
        show (e.set c.toNat && mtchF n l t) = (e.set c.toNat && mtch l t)
        rw [h2]
def matchF (p s : List UInt8) : Bool := match parseL p with
  | none => false
  | some L => printB s && L.any fun l => mtchF (l.length + s.length + 1) l s
theorem matchF_eq : matchB = matchF := by
  funext p s
  unfold matchB matchF
  cases parseL p with
  | none => rfl
  | some L =>
    have e : (fun l => mtch l s) = fun l => mtchF (l.length + s.length + 1) l s := by
      funext l
      exact (mtchF_eq _ _ _ (by omega)).symm
    simp only [e]
def wantF (f : Flt) (r : Rcd) : Bool := matchF f.sub (getP r.props subsysT) && (decide (f.tag = []) || r.tags.any (matchF f.tag))
theorem wantF_eq : wantB = wantF := by
  funext f r
  unfold wantB wantF
  rw [matchF_eq]
def tS : Txt := [115]
def tBlock : Txt := [98, 108, 111, 99, 107]
def tUsb : Txt := [117, 115, 98]
def tScsi : Txt := [115, 99, 115, 105]
def tA : Txt := [47, 97]
def tAB : Txt := [47, 97, 47, 98]
deriving instance DecidableEq for RSb
deriving instance DecidableEq for RBus
def kF : Flt := ⟨tBlock, []⟩
def kW0 : RBus := ⟨[], [], 0⟩
def kW1 : RBus := ⟨[], [⟨tS, kF, [], [], true⟩], 0⟩
theorem k1 : kW0.subR tS kF = (kW1, 0) := by
  delta RBus.subR
  decide +kernel
def kW2 : RBus := ⟨[], [⟨tS, kF, [], [], false⟩], 0⟩
theorem k2 : kW1.readR tS 0 = (kW2, ([], true, 0)) := by
  delta RBus.readR RBus.wanted
  rw [wantF_eq]
  decide +kernel
def kW3 : RBus := ⟨[], [⟨tS, kF, [], [], false⟩], 0⟩
theorem k3 : kW2.readyR (mkRec tAB 2 tBlock) = (kW3, 305) := by
  delta RBus.readyR RBus.tell rtell1
  rw [wantF_eq]
  decide +kernel
def kW4 : RBus := ⟨[mkRec tA 1 tUsb], [⟨tS, kF, [], [], false⟩], 1⟩
theorem k4 : kW3.readyR (mkRec tA 1 tUsb) = (kW4, 0) := by
  delta RBus.readyR RBus.tell rtell1
  rw [wantF_eq]
  decide +kernel
def kW5 : RBus := ⟨[mkRec tA 1 tUsb, mkRec tAB 2 tBlock], [⟨tS, kF, [⟨2, 1, mkRec tAB 2 tBlock⟩], [tAB], false⟩], 2⟩
theorem k5 : kW4.readyR (mkRec tAB 2 tBlock) = (kW5, 0) := by
  delta RBus.readyR RBus.tell rtell1
  rw [wantF_eq]
  decide +kernel
def kW6 : RBus := ⟨[mkRec tA 1 tUsb, mkRec tAB 2 tBlock], [⟨tS, kF, [], [tAB], false⟩], 2⟩
theorem k6 : kW5.readR tS 9 = (kW6, ([⟨2, 1, mkRec tAB 2 tBlock⟩], false, 0)) := by
  delta RBus.readR RBus.wanted
  rw [wantF_eq]
  decide +kernel
def kW7 : RBus := ⟨[mkRec tA 1 tUsb, mkRec tAB 2 tBlock], [⟨tS, kF, [], [tAB], false⟩], 2⟩
theorem k7 : kW6.goneR tA = (kW7, 308) := by
  delta RBus.goneR RBus.tell rtell1
  rw [wantF_eq]
  decide +kernel
def kW8 : RBus := ⟨[mkRec tA 1 tUsb, mkRec tAB 2 tScsi], [⟨tS, kF, [⟨3, 2, mkRec tAB 2 tScsi⟩], [], false⟩], 3⟩
theorem k8 : kW7.readyR (mkRec tAB 2 tScsi) = (kW8, 0) := by
  delta RBus.readyR RBus.tell rtell1
  rw [wantF_eq]
  decide +kernel
def kW9 : RBus := ⟨[mkRec tA 1 tUsb, mkRec tAB 2 tScsi], [⟨tS, kF, [], [], false⟩], 3⟩
theorem k9 : kW8.readR tS 9 = (kW9, ([⟨3, 2, mkRec tAB 2 tScsi⟩], false, 0)) := by
  delta RBus.readR RBus.wanted
  rw [wantF_eq]
  decide +kernel
end Go.Ab
namespace Go.Ab
open Go Go.Proofs
def c5 : AFn := ⟨(sq [(ox 2 (mb false))] (sq [(mv 13 0), (ox 14 (.build [.nils, (.int .i64 0)] [(0, (1, (.t 13)))])), (ox 15 (.box 48 (.t 14))), (mv 3 15)] (sq [(ox 16 (fc 12 [])), (ox 17 (.build [.nils, .nils, (.int .i64 0)] [])), (ox 5 (.alloc 52 [.nils, .nils, (.int .i64 0)])), (mv 4 16), (on (.store (some 3) (.t 5) (.t 17)))] (.seq (sq [(mv 18 4), (ox 19 (.ext (.pnil false) [(.t 18)]))] (cd 19 (sq [(ox 2 (mb false))] .ret) .skip)) (.seq (sq [(mv 20 3), (ox 21 (fc 20 [(.t 20), (iv 24)])), (mv 6 21)] (.block 0 (.loop (.seq (sq [(mv 22 6), (ox 23 (b1 .gtr 22 0))] (cd 23 .skip (.exit 0))) (.seq (.block 1 (sq [(mv 27 3), (mv 28 4), (ox 29 (.load (some 3) (.t 5))), (ox 30 (fc 21 [(.t 27), (.t 28), (.t 29), (.v (.str [118]))])), (mv 26 30), (ox 31 (xt 26 0)), (ox 32 (xt 26 1)), (on (.store (some 3) (.t 5) (.t 31)))] (sq [(mv 33 4), (ox 34 (fc 22 [(.t 33)])), (mv 7 34)] (sq [(ox 8 (.mov (iv 0)))] (.block 2 (.loop (.seq (sq [(mv 35 8), (mv 36 7), (ox 37 (.len .sl (.t 36))), (ox 38 (b2 .lss 35 37))] (cd 38 .skip (.exit 2))) (.seq (.block 3 (sq [(ox 9 (.mov (iv 0))), (ox 10 (.mov (iv 0)))] (.seq (sq [(ox 11 (.mov (iv 0)))] (.block 4 (.loop (.seq (sq [(mv 41 11), (mv 42 7), (mv 43 8), (ox 44 (.iaddr none 12 (.t 42) (.t 43))), (ox 45 (fa 0 44)), (ox 46 (ld 45)), (ox 47 (.len .str (.t 46))), (ox 48 (b2 .lss 41 47))] (cd 48 .skip (.exit 4))) (.seq (.block 5 (sq [(mv 51 7), (mv 52 8), (ox 53 (.iaddr none 12 (.t 51) (.t 52))), (ox 54 (fa 0 53)), (ox 55 (ld 54)), (mv 56 11), (ox 57 (.idx (.t 55) (.t 56))), (ox 58 (.bin .eql (.t 57) (.v (.int .u8 47))))] (cd 58 (.ops [(mv 59 10), (ox 60 (b1 .add 59 1)), (mv 10 60)]) .skip))) (.ops [(mv 49 11), (ox 50 (b1 .add 49 1)), (mv 11 50)])))))) (.seq (sq [(ox 12 (.mov (iv 0)))] (.block 6 (.loop (.seq (sq [(mv 61 12), (mv 62 7), (ox 63 (.len .sl (.t 62))), (ox 64 (b2 .lss 61 63))] (cd 64 .skip (.exit 6))) (.seq (.block 7 (.seq (.draw [(mv 67 7), (mv 68 12), (ox 69 (.iaddr none 12 (.t 67) (.t 68))), (ox 70 (fa 0 69)), (ox 71 (ld 70)), (mv 72 7), (mv 73 8), (ox 74 (.iaddr none 12 (.t 72) (.t 73))), (ox 75 (fa 0 74)), (ox 76 (ld 75)), (ox 77 (fc 23 [(.t 71), (.t 76)]))] [0, 0, 3, 7, 15, 0, 0, 96, 224, 480, 1023]) (cd 77 (.ops [(mv 78 9), (ox 79 (b1 .add 78 1)), (mv 9 79)]) .skip))) (.ops [(mv 65 12), (ox 66 (b1 .add 65 1)), (mv 12 66)])))))) (sq [(mv 80 9), (mv 81 10), (ox 82 (b1 .sub 81 1)), (ox 83 (b2 .neq 80 82))] (cd 83 (sq [(ox 2 (mb false))] .ret) .skip)))))) (.ops [(mv 39 8), (ox 40 (b1 .add 39 1)), (mv 8 40)]))))))))) (.ops [(mv 24 6), (ox 25 (b1 .sub 24 1)), (mv 6 25)])))))) (sq [(ox 84 (fc 18 [])), (mv 2 84)] .ret)))))), 85, [(.tmp 2)]⟩
def c6 : AFn := ⟨(sq [(ox 2 (mb false))] (sq [(mv 19 0), (ox 20 (.build [.nils, (.int .i64 0)] [(0, (1, (.t 19)))])), (ox 21 (.box 48 (.t 20))), (mv 3 21)] (sq [(mv 22 3), (ox 23 (.bslice 9 1 false [(.v (.str [42])), (.v (.str [98, 108, 111, 99, 107])), (.v (.str [110, 101, 116, 124, 98, 108, 111, 99, 107]))])), (ox 24 (fc 24 [(.t 22), (.t 23)])), (mv 25 3), (ox 26 (.bslice 9 1 false [(.v (.str [])), (.v (.str [115, 101, 97, 116]))])), (ox 27 (fc 24 [(.t 25), (.t 26)])), (ox 28 (.build [(.str []), (.str [])] [(0, (1, (.t 24))), (1, (1, (.t 27)))])), (ox 4 (.alloc 27 [(.str []), (.str [])])), (on (.store (some 2) (.t 4) (.t 28)))] (sq [(ox 29 (fc 12 [])), (ox 30 (fc 12 [])), (mv 5 29), (mv 6 30)] (.seq (sq [(mv 31 5), (ox 32 (.ext (.pnil false) [(.t 31)])), (mv 33 32), (of 34 (.mov (.t 6)) 33), (of 35 (.ext (.pnil false) [(.t 34)]) 33), (ox 36 (.pick (.t 33) (.v (.bool true)) (.t 35))), (mv 37 36), (of 38 (.mov (.t 5)) 37), (of 39 (.load (some 2) (.t 4)) 37), (of 40 (fc 13 [(.t 38), (.v (.str [111, 119, 110])), (.t 39)]) 37), (of 41 (b1 .neq 40 0) 37), (ox 42 (.pick (.t 37) (.v (.bool true)) (.t 41))), (mv 43 42), (of 44 (.mov (.t 6)) 43), (of 45 (.load (some 2) (.t 4)) 43), (of 46 (fc 13 [(.t 44), (.v (.str [111, 119, 110])), (.t 45)]) 43), (of 47 (b1 .neq 46 0) 43), (ox 48 (.pick (.t 43) (.v (.bool true)) (.t 47)))] (cd 48 (sq [(ox 2 (mb false))] .ret) .skip)) (sq [(ox 7 (.alloc 52 [.nils, .nils, (.int .i64 0)]))] (.seq (sq [(mv 49 3), (ox 50 (fc 20 [(.t 49), (iv 16)])), (mv 8 50)] (.block 0 (.loop (.seq (sq [(mv 51 8), (ox 52 (b1 .gtr 51 0))] (cd 52 .skip (.exit 0))) (.seq (.block 1 (sq [(mv 55 3), (ox 56 (.load (some 3) (.t 7))), (ox 57 (fc 25 [(.t 55), (.t 56)])), (mv 9 57)] (sq [(mv 58 3), (mv 59 9), (ox 60 (fc 26 [(.t 58), (.t 59), (iv 1)])), (ox 10 (.alloc 36 [(.str []), (.int .i64 0), .nils, .nils, .nils, .nils, .nils, (.str []), (.int .i64 0), (.str []), (.str []), (.int .i64 0)])), (on (.store (some 12) (.t 10) (.t 60)))] (sq [(ox 11 (.mov (iv 0))), (ox 12 (.mov (iv 0)))] (.seq (sq [(mv 61 3), (ox 62 (fc 20 [(.t 61), (iv 3)])), (ox 63 (b1 .eql 62 0))] (cd 63 (sq [(mv 64 5), (mv 65 9), (ox 66 (fc 27 [(.t 64), (.t 65)])), (mv 67 6), (mv 68 9), (ox 69 (fc 27 [(.t 67), (.t 68)])), (mv 11 66), (mv 12 69)] (.ops [(ox 71 (.load (some 3) (.t 7))), (mv 72 9), (ox 73 (fc 28 [(.t 71), (.t 72)])), (mv 70 73), (ox 74 (xt 70 0)), (ox 75 (xt 70 1)), (on (.store (some 3) (.t 7) (.t 74)))])) (.seq (.draw [(mv 76 5), (ox 77 (.load (some 12) (.t 10))), (ox 78 (fc 16 [(.t 76), (.t 77)])), (mv 79 6), (ox 80 (.load (some 12) (.t 10))), (ox 81 (fc 16 [(.t 79), (.t 80)])), (mv 11 78), (mv 12 81)] [0, 0, 3, 0, 0, 31, 63, 127]) (.ops [(ox 83 (.load (some 3) (.t 7))), (ox 84 (.load (some 12) (.t 10))), (ox 85 (fc 29 [(.t 83), (.t 84)])), (mv 82 85), (ox 86 (xt 82 0)), (ox 87 (xt 82 1)), (on (.store (some 3) (.t 7) (.t 86)))])))) (sq [(mv 88 6), (mv 89 3), (ox 90 (.bslice 9 1 false [(.v (.str [115])), (.v (.str [116]))])), (ox 91 (fc 24 [(.t 89), (.t 90)])), (mv 92 3), (ox 93 (fc 30 [(.t 92)])), (ox 94 (fc 13 [(.t 88), (.t 91), (.t 93)]))] (sq [(mv 95 6), (mv 96 3), (ox 97 (.bslice 9 1 false [(.v (.str [115])), (.v (.str [116]))])), (ox 98 (fc 24 [(.t 96), (.t 97)])), (mv 99 3), (ox 100 (fc 20 [(.t 99), (iv 4)])), (ox 101 (fc 14 [(.t 95), (.t 98), (.t 100)]))] (sq [(mv 102 6), (mv 103 3), (ox 104 (.bslice 9 1 false [(.v (.str [115])), (.v (.str [116]))])), (ox 105 (fc 24 [(.t 103), (.t 104)])), (ox 106 (fc 19 [(.t 102), (.t 105)]))] (sq [(mv 108 5), (ox 109 (fc 14 [(.t 108), (.v (.str [111, 119, 110])), (iv 2)])), (mv 107 109), (ox 110 (xt 107 0)), (ox 111 (xt 107 1)), (ox 112 (xt 107 2)), (mv 13 110), (mv 14 111), (mv 15 112)] (sq [(mv 114 6), (ox 115 (fc 14 [(.t 114), (.v (.str [111, 119, 110])), (iv 2)])), (mv 113 115), (ox 116 (xt 113 0)), (ox 117 (xt 113 1)), (ox 118 (xt 113 2)), (mv 16 116), (mv 17 117), (mv 18 118)] (sq [(mv 119 11), (mv 120 12), (ox 121 (b2 .neq 119 120)), (mv 122 121), (of 123 (.mov (.t 15)) 122), (of 124 (.mov (.t 18)) 122), (of 125 (b2 .neq 123 124) 122), (ox 126 (.pick (.t 122) (.v (.bool true)) (.t 125))), (mv 127 126), (of 128 (.mov (.t 14)) 127), (of 129 (.mov (.t 17)) 127), (of 130 (.binb true (.t 128) (.t 129)) 127), (ox 131 (.pick (.t 127) (.v (.bool true)) (.t 130))), (mv 132 131), (of 133 (.mov (.t 13)) 132), (of 134 (.mov (.t 16)) 132), (of 135 (fc 31 [(.t 133), (.t 134)]) 132), (of 136 (.un .not (.t 135)) 132), (ox 137 (.pick (.t 132) (.v (.bool true)) (.t 136)))] (cd 137 (sq [(ox 2 (mb false))] .ret) .skip)))))))))))) (.ops [(mv 53 8), (ox 54 (b1 .sub 53 1)), (mv 8 54)])))))) (sq [(ox 138 (fc 18 [])), (mv 2 138)] .ret)))))))), 139, [(.tmp 2)]⟩
def c7 : AFn := ⟨(sq [(ox 4 (mb false))] (.seq (sq [(mv 11 1), (ox 12 (.len .str (.t 11))), (ox 13 (b1 .gtr 12 300))] (cd 13 (sq [(ox 14 (fc 18 [])), (mv 4 14)] .ret) .skip)) (sq [(mv 15 0), (ox 16 (.build [.nils, (.int .i64 0)] [(0, (1, (.t 15)))])), (ox 17 (.box 48 (.t 16))), (mv 5 17)] (sq [(ox 18 (fc 12 [])), (ox 19 (.build [.nils, .nils, (.int .i64 0)] [])), (ox 7 (.alloc 52 [.nils, .nils, (.int .i64 0)])), (mv 6 18), (on (.store (some 3) (.t 7) (.t 19)))] (.seq (sq [(mv 20 6), (ox 21 (.ext (.pnil false) [(.t 20)]))] (cd 21 (sq [(ox 4 (mb false))] .ret) .skip)) (.seq (sq [(mv 22 5), (ox 23 (fc 20 [(.t 22), (iv 24)])), (mv 8 23)] (.block 0 (.loop (.seq (sq [(mv 24 8), (ox 25 (b1 .gtr 24 0))] (cd 25 .skip (.exit 0))) (.seq (.block 1 (sq [(mv 29 5), (mv 30 6), (ox 31 (.load (some 3) (.t 7))), (mv 32 1), (ox 33 (fc 21 [(.t 29), (.t 30), (.t 31), (.t 32)])), (mv 28 33), (ox 34 (xt 28 0)), (ox 35 (xt 28 1)), (ox 9 (.alloc 52 [.nils, .nils, (.int .i64 0)])), (on (.store (some 3) (.t 9) (.t 34))), (mv 10 35)] (sq [(ox 36 (.load (some 3) (.t 9))), (on (.store (some 3) (.t 7) (.t 36)))] (.seq (.draw [(mv 37 10), (ox 38 (.un .not (.t 37))), (mv 39 38), (of 40 (.mov (.t 6)) 39), (of 41 (fc 32 [(.t 40)]) 39), (of 42 (fa 2 7) 39), (of 43 (ld 42) 39), (of 44 (b2 .neq 41 43) 39), (ox 45 (.pick (.t 39) (.v (.bool true)) (.t 44))), (mv 46 45), (of 47 (.mov (.t 6)) 46), (of 48 (fc 22 [(.t 47)]) 46), (of 49 (fa 0 7) 46), (of 50 (ld 49) 46), (of 51 (fc 33 [(.t 48), (.t 50)]) 46), (of 52 (.un .not (.t 51)) 46), (ox 53 (.pick (.t 46) (.v (.bool true)) (.t 52)))] [0, 1, 3, 7, 15, 7, 39, 127, 255, 511, 1023, 2047, 1023, 5119, 16383, 32767, 65535]) (cd 53 (sq [(ox 4 (mb false))] .ret) .skip))))) (.ops [(mv 26 8), (ox 27 (b1 .sub 26 1)), (mv 8 27)])))))) (sq [(ox 54 (fc 18 [])), (mv 4 54)] .ret))))))), 55, [(.tmp 4)]⟩
end Go.Ab
namespace Go.Ab
open Go Go.Proofs
set_option maxRecDepth 20000
theorem mk_few (p : Txt) (n : Int) (s : Txt) (hp : p.length ≤ 1000) (hs : s.length ≤ 1000) : Few (mkRec p n s) := by
  refine ⟨?_, ?_, ?_, ?_, ?_, ?_, ?_, ?_, ?_, ?_⟩ <;> simp [mkRec] <;> omega
def noK (_ : Nat) : Prop := False
set_option maxHeartbeats 1000000 in
theorem known_c : ACalls Tryz.prog 18 [] [] (.bool true) [] := by
  refine acalls_A c18_ok rfl ?_
  unfold c18
  refine awp_go ?_
  simp +decide -dsimp -implicitDefEqProofs [go_sem]
  unfold goE
  refine awp_go ?_
  simp +decide -dsimp -implicitDefEqProofs [go_sem]
  refine callE_R (newW_c [] noK (fun _ h => h.elim)) ?_
  rintro _ G0 ⟨rfl, ⟨⟨B0, h0⟩, _⟩⟩
  simp +decide -dsimp -implicitDefEqProofs [go_sem]
  unfold goE
  refine awp_go ?_
  simp +decide -dsimp -implicitDefEqProofs [go_sem]
  refine callE_R (subW_c (W := kW0) h0 tS kF (by decide)) ?_
  rintro v G1 ⟨hv, ⟨⟨B1, h1⟩, _⟩⟩
  rw [k1] at hv h1
  subst hv
  simp +decide -dsimp -implicitDefEqProofs [go_sem]
  unfold goE
  refine awp_go ?_
  simp +decide -dsimp -implicitDefEqProofs [go_sem]
  refine callE_R (readW_c h1 (by decide) tS 0) ?_
  rintro v G2 ⟨hv, ⟨⟨B2, h2⟩, _⟩⟩
  rw [k2] at hv h2
  subst hv
  simp +decide -dsimp -implicitDefEqProofs [go_sem]
  unfold goE
  refine awp_go ?_
  simp +decide -dsimp -implicitDefEqProofs [go_sem]
  refine callE_pure (made_c tAB 2 tBlock) rfl (by rw [closed]; exact rRow_cl 0 _) ?_
  simp +decide -dsimp -implicitDefEqProofs [go_sem]
  refine callE_R (readyW_c h2 (by decide) (mkRec tAB 2 tBlock) (mk_few _ _ _ (by decide) (by decide))) ?_
  rintro v G3 ⟨hv, ⟨⟨B3, h3⟩, _⟩⟩
  rw [k3] at hv h3
  subst hv
  simp +decide -dsimp -implicitDefEqProofs [go_sem]
  unfold goE
  refine awp_go ?_
  simp +decide -dsimp -implicitDefEqProofs [go_sem]
  refine callE_pure (made_c tA 1 tUsb) rfl (by rw [closed]; exact rRow_cl 0 _) ?_
  simp +decide -dsimp -implicitDefEqProofs [go_sem]
  refine callE_R (readyW_c h3 (by decide) (mkRec tA 1 tUsb) (mk_few _ _ _ (by decide) (by decide))) ?_
  rintro v G4 ⟨hv, ⟨⟨B4, h4⟩, _⟩⟩
  rw [k4] at hv h4
  subst hv
  simp +decide -dsimp -implicitDefEqProofs [go_sem]
  refine callE_pure (made_c tAB 2 tBlock) rfl (by rw [closed]; exact rRow_cl 0 _) ?_
  simp +decide -dsimp -implicitDefEqProofs [go_sem]
  refine callE_R (readyW_c h4 (by decide) (mkRec tAB 2 tBlock) (mk_few _ _ _ (by decide) (by decide))) ?_
  rintro v G5 ⟨hv, ⟨⟨B5, h5⟩, _⟩⟩
  rw [k5] at hv h5
  subst hv
  simp +decide -dsimp -implicitDefEqProofs [go_sem]
  unfold goE
  refine awp_go ?_
  simp +decide -dsimp -implicitDefEqProofs [go_sem]
  refine callE_R (readW_c h5 (by decide) tS 9) ?_
  rintro v G6 ⟨hv, ⟨⟨B6, h6⟩, _⟩⟩
  rw [k6] at hv h6
  subst hv
  simp +decide -dsimp -implicitDefEqProofs [go_sem]
  unfold goE
  refine awp_go ?_
  simp +decide -dsimp -implicitDefEqProofs [go_sem]
  refine callE_R (goneW_c h6 (by decide) tA) ?_
  rintro v G7 ⟨hv, ⟨⟨B7, h7⟩, _⟩⟩
  rw [k7] at hv h7
  subst hv
  simp +decide -dsimp -implicitDefEqProofs [go_sem]
  unfold goE
  refine awp_go ?_
  simp +decide -dsimp -implicitDefEqProofs [go_sem]
  refine callE_pure (made_c tAB 2 tScsi) rfl (by rw [closed]; exact rRow_cl 0 _) ?_
  simp +decide -dsimp -implicitDefEqProofs [go_sem]
  refine callE_R (readyW_c h7 (by decide) (mkRec tAB 2 tScsi) (mk_few _ _ _ (by decide) (by decide))) ?_
  rintro v G8 ⟨hv, ⟨⟨B8, h8⟩, _⟩⟩
  rw [k8] at hv h8
  subst hv
  simp +decide -dsimp -implicitDefEqProofs [go_sem]
  unfold goE
  refine awp_go ?_
  simp +decide -dsimp -implicitDefEqProofs [go_sem]
  refine callE_R (readW_c h8 (by decide) tS 9) ?_
  rintro v G9 ⟨hv, ⟨⟨B9, h9⟩, _⟩⟩
  rw [k9] at hv h9
  subst hv
  simp +decide -dsimp -implicitDefEqProofs [go_sem]
  unfold goE
  refine awp_of ?_
  have e1 := ntRow_e ⟨2, 1, mkRec tAB 2 tBlock⟩
  have e2 := ntRow_e ⟨3, 2, mkRec tAB 2 tScsi⟩
  have e3 : (mkRec tAB 2 tBlock).path = [47, 97, 47, 98] := rfl
  rw [e3] at e1
  generalize (mkRec tAB 2 tBlock) = R1 at e1
  generalize (mkRec tAB 2 tScsi) = R2 at e2
  simp (maxSteps := 1000000) +decide -dsimp -implicitDefEqProofs [go_sem, e1, e2]
end Go.Ab
