/- Numerals as they are read: ParseInt, the reader's number. -/
import Derived.Test.YtpknaffdaemlbaaGreatDoorW5
import Derived.Test.YtpknaffdaemlbaaGreatDoorC1
set_option maxRecDepth 20000
set_option maxHeartbeats 4000000
namespace Go.Ab
open Go Go.Proofs
theorem QPk:(8:Nat) ^ 10 = 1073741824:=by decide
theorem QN6:(10:Nat) ^ 10 = 10000000000:=by decide
def piR (b:Nat) (s:List UInt8) (av:AV) (H:List AObj):Prop:=H = [] ∧ ∃ n e,av = .tup [.int .i64 n,e] ∧
 (e = .raw .nilIface ∨ e = .raw (.iface 240 (.int .i64 1)) ∨ e = .raw (.iface 240 (.int .i64 2))) ∧ (∀ m:Int,m.natAbs < b ^ 10 → s = QBA b m → n = m ∧ e = .raw .nilIface)
theorem QN7 {b:Nat} {s:List UInt8} {n k:Int} (hk:k = 1 ∨ k = 2) (h:∀ m:Int,m.natAbs < b ^ 10 → ¬ s = QBA b m):piR b s (.tup [.int .i64 n,.raw (.iface 240 (.int .i64 k))]) []:=
 ⟨rfl,n,_,rfl,by rcases hk with rfl | rfl <;> simp,fun m hm hs=>(h m hm hs).elim⟩
theorem QFg {b:Nat} (hb:2 ≤ b) (hb2:b ≤ 10) {u:Nat} (h:u < b ^ 10):QKv b (QCn b u) ∧ QDi b (QCn b u) = u ∧ QCn b u ≠ []:=by
 obtain ⟨h1,h2,h3,_⟩:=QCO hb hb2 u
 refine ⟨⟨h2,?_⟩,h1,h3⟩
 have:b ^ 10 ≤ 10 ^ 10:=Nat.pow_le_pow_left hb2 10
 rw [h1]; omega

theorem QLK (s:List UInt8) (hl:s.length < 4294967281):ACallsR Tryz.prog 193 [.str s,.int .i64 8,.int .i64 64] [] (piR 8 s):=by
 refine QC0 (piR 8 s) 0 c193_ok ?_
 unfold c193
 have x1:IntKind.u64.wrap 63 = 63:=by decide
 have x2:IntKind.u64.wrap 9223372036854775808 = 9223372036854775808:=by decide
 have x3:IntKind.u64.wrap 9223372036854775807 = 9223372036854775807:=by decide
 have x4:IntKind.i64.wrap 9223372036854775807 = 9223372036854775807:=by decide
 have x5:IntKind.i64.wrap 9223372036854775808 = -9223372036854775808:=by decide
 have x6:IntKind.i64.wrap (- -9223372036854775808) = -9223372036854775808:=by decide
 have x7:IntKind.i64.wrap 63 = 63:=by decide
 cases s with
 | nil=>
  simp +decide -dsimp -implicitDefEqProofs [go_sem]
  refine QAT (.tup [.int .i64 0,.raw (.iface 240 (.int .i64 2))]) [] (QN7 (.inr rfl) fun m _ hs=>QEr (by decide) (by decide) m hs.symm) rfl ?_
  simp +decide -dsimp -implicitDefEqProofs [go_sem]
 | cons c r=>
 by_cases h43:c = 43
 ·-- a plus: no numeral of ours
  subst h43
  have hno:∀ m:Int,m.natAbs < 8 ^ 10 → ¬ (43 :: r:List UInt8) = QBA 8 m:=fun m _ hs=>by
   have:=QFC (b:=8) (by decide) (by decide) m 43 (by rw [← hs]; simp)
   rcases this with h | h
   ·cases h
   ·have e:(43:UInt8).toNat = 43:=rfl
    omega
  simp +decide -dsimp -implicitDefEqProofs [go_sem]
  refine QB0 (QEK r (by simp only [List.length_cons] at hl; omega)) rfl (fun v G ⟨h1,n,e,h2,_,_,he,_⟩=>⟨by subst h2; rcases he with rfl | rfl | rfl <;> rfl,h1⟩) ?_
  rintro _ ⟨_,n,e,rfl,hn0,hn1,he,_⟩
  have ok:∀ (n:Int) (e:AV),(e = .raw .nilIface ∨ e = .raw (.iface 240 (.int .i64 1)) ∨ e = .raw (.iface 240 (.int .i64 2))) → piR 8 (43 :: r) (.tup [.int .i64 n,e]) []:=fun n e he=>⟨rfl,n,e,rfl,he,fun m hm hs=>(hno m hm hs).elim⟩
  rcases he with rfl | rfl | rfl
  ·-- no error
   by_cases hc63:(9223372036854775808:Int) ≤ n
   ·simp +decide -dsimp -implicitDefEqProofs [go_sem,x1,x2,x3,x4,x7,hc63]
    refine QAT (.tup [.int .i64 9223372036854775807,.raw (.iface 240 (.int .i64 1))]) [] (ok _ _ (by simp)) rfl ?_
    simp +decide -dsimp -implicitDefEqProofs [go_sem]
   ·have wn:IntKind.i64.wrap n = n:=w64 (by omega) (by omega)
    simp +decide -dsimp -implicitDefEqProofs [go_sem,x1,x2,x7,hc63,wn]
    refine QAT (.tup [.int .i64 n,.raw .nilIface]) [] (ok _ _ (by simp)) rfl ?_
    simp +decide -dsimp -implicitDefEqProofs [go_sem]
  ·by_cases hc63:(9223372036854775808:Int) ≤ n
   ·simp +decide -dsimp -implicitDefEqProofs [go_sem,x1,x2,x3,x4,x7,hc63]
    refine QAT (.tup [.int .i64 9223372036854775807,.raw (.iface 240 (.int .i64 1))]) [] (ok _ _ (by simp)) rfl ?_
    simp +decide -dsimp -implicitDefEqProofs [go_sem]
   ·have wn:IntKind.i64.wrap n = n:=w64 (by omega) (by omega)
    simp +decide -dsimp -implicitDefEqProofs [go_sem,x1,x2,x7,hc63,wn]
    refine QAT (.tup [.int .i64 n,.raw .nilIface]) [] (ok _ _ (by simp)) rfl ?_
    simp +decide -dsimp -implicitDefEqProofs [go_sem]
  ·simp +decide -dsimp -implicitDefEqProofs [go_sem]
   refine QAT (.tup [.int .i64 0,.raw (.iface 240 (.int .i64 2))]) [] (ok _ _ (by simp)) rfl ?_
   simp +decide -dsimp -implicitDefEqProofs [go_sem]
 by_cases h45:c = 45
 ·subst h45
  have hyes:∀ m:Int,m.natAbs < 8 ^ 10 → (45 :: r:List UInt8) = QBA 8 m → m < 0 ∧ r = QCn 8 m.natAbs:=fun m _ hs=>by
   unfold QBA at hs
   split at hs
   ·rename_i hm; exact ⟨hm,(List.cons.inj hs).2⟩
   ·exfalso
    have:=(QCO (b:=8) (by decide) (by decide) m.toNat).2.1 45 (by rw [← hs]; simp)
    have e:(45:UInt8).toNat = 45:=rfl
    omega
  simp +decide -dsimp -implicitDefEqProofs [go_sem]
  refine QB0 (QEK r (by simp only [List.length_cons] at hl; omega)) rfl (fun v G ⟨h1,n,e,h2,_,_,he,_⟩=>⟨by subst h2; rcases he with rfl | rfl | rfl <;> rfl,h1⟩) ?_
  rintro _ ⟨_,n,e,rfl,hn0,hn1,he,hv⟩
  have hgood:∀ m:Int,m.natAbs < 8 ^ 10 → (45 :: r:List UInt8) = QBA 8 m → m < 0 ∧ n = m.natAbs ∧ e = .raw .nilIface:=fun m hm hs=>by
   obtain ⟨h1,h2⟩:=hyes m hm hs
   obtain ⟨g1,g2,g3⟩:=QFg (b:=8) (by decide) (by decide) hm
   have:=hv (h2 ▸ g3) (h2 ▸ g1)
   exact ⟨h1,by rw [this.1,h2,g2],this.2⟩
  rcases he with rfl | rfl | rfl
  ·by_cases hc63:(9223372036854775808:Int) < n
   ·simp +decide -dsimp -implicitDefEqProofs [go_sem,x1,x2,x5,x7,hc63]
    refine QAT (.tup [.int .i64 (-9223372036854775808),.raw (.iface 240 (.int .i64 1))]) [] (⟨rfl,_,_,rfl,by simp,fun m hm hs=>by exfalso; have h6:=(hgood m hm hs).2.1; have h5:=QPk; rw [h5] at hm; omega⟩) rfl ?_
    simp +decide -dsimp -implicitDefEqProofs [go_sem]
   ·simp +decide -dsimp -implicitDefEqProofs [go_sem,x1,x2,x7,hc63]
    refine QAT (.tup [.int .i64 (IntKind.i64.wrap (-IntKind.i64.wrap n)),.raw .nilIface]) [] (⟨rfl,_,_,rfl,by simp,fun m hm hs=>?_⟩) rfl ?_
    ·obtain ⟨g1,g2,g3⟩:=hgood m hm hs
     rw [QPk] at hm
     have wn:IntKind.i64.wrap n = n:=w64 (by omega) (by omega)
     rw [wn,w64 (by omega) (by omega)]
     exact ⟨by omega,rfl⟩
    simp +decide -dsimp -implicitDefEqProofs [go_sem]
  ·by_cases hc63:(9223372036854775808:Int) < n
   ·simp +decide -dsimp -implicitDefEqProofs [go_sem,x1,x2,x5,x7,hc63]
    refine QAT (.tup [.int .i64 (-9223372036854775808),.raw (.iface 240 (.int .i64 1))]) [] (⟨rfl,_,_,rfl,by simp,fun m hm hs=>by have:=(hgood m hm hs).2.2; simp at this⟩) rfl ?_
    simp +decide -dsimp -implicitDefEqProofs [go_sem]
   ·simp +decide -dsimp -implicitDefEqProofs [go_sem,x1,x2,x7,hc63]
    refine QAT (.tup [.int .i64 (IntKind.i64.wrap (-IntKind.i64.wrap n)),.raw .nilIface]) [] (⟨rfl,_,_,rfl,by simp,fun m hm hs=>by have:=(hgood m hm hs).2.2; simp at this⟩) rfl ?_
    simp +decide -dsimp -implicitDefEqProofs [go_sem]
  ·simp +decide -dsimp -implicitDefEqProofs [go_sem]
   refine QAT (.tup [.int .i64 0,.raw (.iface 240 (.int .i64 2))]) [] (⟨rfl,_,_,rfl,by simp,fun m hm hs=>by have:=(hgood m hm hs).2.2; simp at this⟩) rfl ?_
   simp +decide -dsimp -implicitDefEqProofs [go_sem]
 ·-- no sign
  have c43:¬ (c.toNat:Int) = 43:=fun e=>h43 (UInt8.toNat_inj.1 (by have:(43:UInt8).toNat = 43:=rfl; omega))
  have c45:¬ (c.toNat:Int) = 45:=fun e=>h45 (UInt8.toNat_inj.1 (by have:(45:UInt8).toNat = 45:=rfl; omega))
  have hyes:∀ m:Int,m.natAbs < 8 ^ 10 → (c :: r:List UInt8) = QBA 8 m → 0 ≤ m ∧ c :: r = QCn 8 m.natAbs:=fun m _ hs=>by
   unfold QBA at hs
   split at hs
   ·exact (h45 (List.cons.inj hs).1).elim
   ·rename_i hm
    have e:m.toNat = m.natAbs:=by omega
    rw [e] at hs
    exact ⟨by omega,hs⟩
  simp +decide -dsimp -implicitDefEqProofs [go_sem,c43,c45]
  refine QB0 (QEK (c :: r) hl) rfl (fun v G ⟨h1,n,e,h2,_,_,he,_⟩=>⟨by subst h2; rcases he with rfl | rfl | rfl <;> rfl,h1⟩) ?_
  rintro _ ⟨_,n,e,rfl,hn0,hn1,he,hv⟩
  have hgood:∀ m:Int,m.natAbs < 8 ^ 10 → (c :: r:List UInt8) = QBA 8 m → n = m ∧ n < 9223372036854775808 ∧ e = .raw .nilIface:=fun m hm hs=>by
   obtain ⟨h1,h2⟩:=hyes m hm hs
   obtain ⟨g1,g2,g3⟩:=QFg (b:=8) (by decide) (by decide) hm
   have h3:=hv (h2 ▸ g3) (h2 ▸ g1)
   have h4:n = m.natAbs:=by rw [h3.1,h2,g2]
   rw [QPk] at hm
   exact ⟨by omega,by omega,h3.2⟩
  rcases he with rfl | rfl | rfl
  ·-- no error
   by_cases hc63:(9223372036854775808:Int) ≤ n
   ·simp +decide -dsimp -implicitDefEqProofs [go_sem,x1,x2,x3,x4,x7,hc63]
    refine QAT (.tup [.int .i64 9223372036854775807,.raw (.iface 240 (.int .i64 1))]) [] (⟨rfl,_,_,rfl,by simp,fun m hm hs=>by have:=(hgood m hm hs).2.1; omega⟩) rfl ?_
    simp +decide -dsimp -implicitDefEqProofs [go_sem]
   ·have wn:IntKind.i64.wrap n = n:=w64 (by omega) (by omega)
    simp +decide -dsimp -implicitDefEqProofs [go_sem,x1,x2,x7,hc63,wn]
    refine QAT (.tup [.int .i64 n,.raw .nilIface]) [] (⟨rfl,_,_,rfl,by simp,fun m hm hs=>⟨(hgood m hm hs).1,rfl⟩⟩) rfl ?_
    simp +decide -dsimp -implicitDefEqProofs [go_sem]
  ·by_cases hc63:(9223372036854775808:Int) ≤ n
   ·simp +decide -dsimp -implicitDefEqProofs [go_sem,x1,x2,x3,x4,x7,hc63]
    refine QAT (.tup [.int .i64 9223372036854775807,.raw (.iface 240 (.int .i64 1))]) [] (⟨rfl,_,_,rfl,by simp,fun m hm hs=>by have:=(hgood m hm hs).2.1; omega⟩) rfl ?_
    simp +decide -dsimp -implicitDefEqProofs [go_sem]
   ·have wn:IntKind.i64.wrap n = n:=w64 (by omega) (by omega)
    simp +decide -dsimp -implicitDefEqProofs [go_sem,x1,x2,x7,hc63,wn]
    refine QAT (.tup [.int .i64 n,.raw .nilIface]) [] (⟨rfl,_,_,rfl,by simp,fun m hm hs=>⟨(hgood m hm hs).1,rfl⟩⟩) rfl ?_
    simp +decide -dsimp -implicitDefEqProofs [go_sem]
  ·simp +decide -dsimp -implicitDefEqProofs [go_sem]
   refine QAT (.tup [.int .i64 0,.raw (.iface 240 (.int .i64 2))]) [] (⟨rfl,_,_,rfl,by simp,fun m hm hs=>by have:=(hgood m hm hs).2.2; simp at this⟩) rfl ?_
   simp +decide -dsimp -implicitDefEqProofs [go_sem]

theorem QKC (s:List UInt8) (hl:s.length < 4294967281):ACallsR Tryz.prog 193 [.str s,.int .i64 10,.int .i64 64] [] (piR 10 s):=by
 refine QC0 (piR 10 s) 0 c193_ok ?_
 unfold c193
 have x1:IntKind.u64.wrap 63 = 63:=by decide
 have x2:IntKind.u64.wrap 9223372036854775808 = 9223372036854775808:=by decide
 have x3:IntKind.u64.wrap 9223372036854775807 = 9223372036854775807:=by decide
 have x4:IntKind.i64.wrap 9223372036854775807 = 9223372036854775807:=by decide
 have x5:IntKind.i64.wrap 9223372036854775808 = -9223372036854775808:=by decide
 have x6:IntKind.i64.wrap (- -9223372036854775808) = -9223372036854775808:=by decide
 have x7:IntKind.i64.wrap 63 = 63:=by decide
 cases s with
 | nil=>
  simp +decide -dsimp -implicitDefEqProofs [go_sem]
  refine QAT (.tup [.int .i64 0,.raw (.iface 240 (.int .i64 2))]) [] (QN7 (.inr rfl) fun m _ hs=>QEr (by decide) (by decide) m hs.symm) rfl ?_
  simp +decide -dsimp -implicitDefEqProofs [go_sem]
 | cons c r=>
 by_cases h43:c = 43
 ·-- a plus: no numeral of ours
  subst h43
  have hno:∀ m:Int,m.natAbs < 10 ^ 10 → ¬ (43 :: r:List UInt8) = QBA 10 m:=fun m _ hs=>by
   have:=QFC (b:=10) (by decide) (by decide) m 43 (by rw [← hs]; simp)
   rcases this with h | h
   ·cases h
   ·have e:(43:UInt8).toNat = 43:=rfl
    omega
  simp +decide -dsimp -implicitDefEqProofs [go_sem]
  refine QB0 (QDu r (by simp only [List.length_cons] at hl; omega)) rfl (fun v G ⟨h1,n,e,h2,_,_,he,_⟩=>⟨by subst h2; rcases he with rfl | rfl | rfl <;> rfl,h1⟩) ?_
  rintro _ ⟨_,n,e,rfl,hn0,hn1,he,_⟩
  have ok:∀ (n:Int) (e:AV),(e = .raw .nilIface ∨ e = .raw (.iface 240 (.int .i64 1)) ∨ e = .raw (.iface 240 (.int .i64 2))) → piR 10 (43 :: r) (.tup [.int .i64 n,e]) []:=fun n e he=>⟨rfl,n,e,rfl,he,fun m hm hs=>(hno m hm hs).elim⟩
  rcases he with rfl | rfl | rfl
  ·-- no error
   by_cases hc63:(9223372036854775808:Int) ≤ n
   ·simp +decide -dsimp -implicitDefEqProofs [go_sem,x1,x2,x3,x4,x7,hc63]
    refine QAT (.tup [.int .i64 9223372036854775807,.raw (.iface 240 (.int .i64 1))]) [] (ok _ _ (by simp)) rfl ?_
    simp +decide -dsimp -implicitDefEqProofs [go_sem]
   ·have wn:IntKind.i64.wrap n = n:=w64 (by omega) (by omega)
    simp +decide -dsimp -implicitDefEqProofs [go_sem,x1,x2,x7,hc63,wn]
    refine QAT (.tup [.int .i64 n,.raw .nilIface]) [] (ok _ _ (by simp)) rfl ?_
    simp +decide -dsimp -implicitDefEqProofs [go_sem]
  ·by_cases hc63:(9223372036854775808:Int) ≤ n
   ·simp +decide -dsimp -implicitDefEqProofs [go_sem,x1,x2,x3,x4,x7,hc63]
    refine QAT (.tup [.int .i64 9223372036854775807,.raw (.iface 240 (.int .i64 1))]) [] (ok _ _ (by simp)) rfl ?_
    simp +decide -dsimp -implicitDefEqProofs [go_sem]
   ·have wn:IntKind.i64.wrap n = n:=w64 (by omega) (by omega)
    simp +decide -dsimp -implicitDefEqProofs [go_sem,x1,x2,x7,hc63,wn]
    refine QAT (.tup [.int .i64 n,.raw .nilIface]) [] (ok _ _ (by simp)) rfl ?_
    simp +decide -dsimp -implicitDefEqProofs [go_sem]
  ·simp +decide -dsimp -implicitDefEqProofs [go_sem]
   refine QAT (.tup [.int .i64 0,.raw (.iface 240 (.int .i64 2))]) [] (ok _ _ (by simp)) rfl ?_
   simp +decide -dsimp -implicitDefEqProofs [go_sem]
 by_cases h45:c = 45
 ·subst h45
  have hyes:∀ m:Int,m.natAbs < 10 ^ 10 → (45 :: r:List UInt8) = QBA 10 m → m < 0 ∧ r = QCn 10 m.natAbs:=fun m _ hs=>by
   unfold QBA at hs
   split at hs
   ·rename_i hm; exact ⟨hm,(List.cons.inj hs).2⟩
   ·exfalso
    have:=(QCO (b:=10) (by decide) (by decide) m.toNat).2.1 45 (by rw [← hs]; simp)
    have e:(45:UInt8).toNat = 45:=rfl
    omega
  simp +decide -dsimp -implicitDefEqProofs [go_sem]
  refine QB0 (QDu r (by simp only [List.length_cons] at hl; omega)) rfl (fun v G ⟨h1,n,e,h2,_,_,he,_⟩=>⟨by subst h2; rcases he with rfl | rfl | rfl <;> rfl,h1⟩) ?_
  rintro _ ⟨_,n,e,rfl,hn0,hn1,he,hv⟩
  have hgood:∀ m:Int,m.natAbs < 10 ^ 10 → (45 :: r:List UInt8) = QBA 10 m → m < 0 ∧ n = m.natAbs ∧ e = .raw .nilIface:=fun m hm hs=>by
   obtain ⟨h1,h2⟩:=hyes m hm hs
   obtain ⟨g1,g2,g3⟩:=QFg (b:=10) (by decide) (by decide) hm
   have:=hv (h2 ▸ g3) (h2 ▸ g1)
   exact ⟨h1,by rw [this.1,h2,g2],this.2⟩
  rcases he with rfl | rfl | rfl
  ·by_cases hc63:(9223372036854775808:Int) < n
   ·simp +decide -dsimp -implicitDefEqProofs [go_sem,x1,x2,x5,x7,hc63]
    refine QAT (.tup [.int .i64 (-9223372036854775808),.raw (.iface 240 (.int .i64 1))]) [] (⟨rfl,_,_,rfl,by simp,fun m hm hs=>by exfalso; have h6:=(hgood m hm hs).2.1; have h5:=QN6; rw [h5] at hm; omega⟩) rfl ?_
    simp +decide -dsimp -implicitDefEqProofs [go_sem]
   ·simp +decide -dsimp -implicitDefEqProofs [go_sem,x1,x2,x7,hc63]
    refine QAT (.tup [.int .i64 (IntKind.i64.wrap (-IntKind.i64.wrap n)),.raw .nilIface]) [] (⟨rfl,_,_,rfl,by simp,fun m hm hs=>?_⟩) rfl ?_
    ·obtain ⟨g1,g2,g3⟩:=hgood m hm hs
     rw [QN6] at hm
     have wn:IntKind.i64.wrap n = n:=w64 (by omega) (by omega)
     rw [wn,w64 (by omega) (by omega)]
     exact ⟨by omega,rfl⟩
    simp +decide -dsimp -implicitDefEqProofs [go_sem]
  ·by_cases hc63:(9223372036854775808:Int) < n
   ·simp +decide -dsimp -implicitDefEqProofs [go_sem,x1,x2,x5,x7,hc63]
    refine QAT (.tup [.int .i64 (-9223372036854775808),.raw (.iface 240 (.int .i64 1))]) [] (⟨rfl,_,_,rfl,by simp,fun m hm hs=>by have:=(hgood m hm hs).2.2; simp at this⟩) rfl ?_
    simp +decide -dsimp -implicitDefEqProofs [go_sem]
   ·simp +decide -dsimp -implicitDefEqProofs [go_sem,x1,x2,x7,hc63]
    refine QAT (.tup [.int .i64 (IntKind.i64.wrap (-IntKind.i64.wrap n)),.raw .nilIface]) [] (⟨rfl,_,_,rfl,by simp,fun m hm hs=>by have:=(hgood m hm hs).2.2; simp at this⟩) rfl ?_
    simp +decide -dsimp -implicitDefEqProofs [go_sem]
  ·simp +decide -dsimp -implicitDefEqProofs [go_sem]
   refine QAT (.tup [.int .i64 0,.raw (.iface 240 (.int .i64 2))]) [] (⟨rfl,_,_,rfl,by simp,fun m hm hs=>by have:=(hgood m hm hs).2.2; simp at this⟩) rfl ?_
   simp +decide -dsimp -implicitDefEqProofs [go_sem]
 ·-- no sign
  have c43:¬ (c.toNat:Int) = 43:=fun e=>h43 (UInt8.toNat_inj.1 (by have:(43:UInt8).toNat = 43:=rfl; omega))
  have c45:¬ (c.toNat:Int) = 45:=fun e=>h45 (UInt8.toNat_inj.1 (by have:(45:UInt8).toNat = 45:=rfl; omega))
  have hyes:∀ m:Int,m.natAbs < 10 ^ 10 → (c :: r:List UInt8) = QBA 10 m → 0 ≤ m ∧ c :: r = QCn 10 m.natAbs:=fun m _ hs=>by
   unfold QBA at hs
   split at hs
   ·exact (h45 (List.cons.inj hs).1).elim
   ·rename_i hm
    have e:m.toNat = m.natAbs:=by omega
    rw [e] at hs
    exact ⟨by omega,hs⟩
  simp +decide -dsimp -implicitDefEqProofs [go_sem,c43,c45]
  refine QB0 (QDu (c :: r) hl) rfl (fun v G ⟨h1,n,e,h2,_,_,he,_⟩=>⟨by subst h2; rcases he with rfl | rfl | rfl <;> rfl,h1⟩) ?_
  rintro _ ⟨_,n,e,rfl,hn0,hn1,he,hv⟩
  have hgood:∀ m:Int,m.natAbs < 10 ^ 10 → (c :: r:List UInt8) = QBA 10 m → n = m ∧ n < 9223372036854775808 ∧ e = .raw .nilIface:=fun m hm hs=>by
   obtain ⟨h1,h2⟩:=hyes m hm hs
   obtain ⟨g1,g2,g3⟩:=QFg (b:=10) (by decide) (by decide) hm
   have h3:=hv (h2 ▸ g3) (h2 ▸ g1)
   have h4:n = m.natAbs:=by rw [h3.1,h2,g2]
   rw [QN6] at hm
   exact ⟨by omega,by omega,h3.2⟩
  rcases he with rfl | rfl | rfl
  ·-- no error
   by_cases hc63:(9223372036854775808:Int) ≤ n
   ·simp +decide -dsimp -implicitDefEqProofs [go_sem,x1,x2,x3,x4,x7,hc63]
    refine QAT (.tup [.int .i64 9223372036854775807,.raw (.iface 240 (.int .i64 1))]) [] (⟨rfl,_,_,rfl,by simp,fun m hm hs=>by have:=(hgood m hm hs).2.1; omega⟩) rfl ?_
    simp +decide -dsimp -implicitDefEqProofs [go_sem]
   ·have wn:IntKind.i64.wrap n = n:=w64 (by omega) (by omega)
    simp +decide -dsimp -implicitDefEqProofs [go_sem,x1,x2,x7,hc63,wn]
    refine QAT (.tup [.int .i64 n,.raw .nilIface]) [] (⟨rfl,_,_,rfl,by simp,fun m hm hs=>⟨(hgood m hm hs).1,rfl⟩⟩) rfl ?_
    simp +decide -dsimp -implicitDefEqProofs [go_sem]
  ·by_cases hc63:(9223372036854775808:Int) ≤ n
   ·simp +decide -dsimp -implicitDefEqProofs [go_sem,x1,x2,x3,x4,x7,hc63]
    refine QAT (.tup [.int .i64 9223372036854775807,.raw (.iface 240 (.int .i64 1))]) [] (⟨rfl,_,_,rfl,by simp,fun m hm hs=>by have:=(hgood m hm hs).2.1; omega⟩) rfl ?_
    simp +decide -dsimp -implicitDefEqProofs [go_sem]
   ·have wn:IntKind.i64.wrap n = n:=w64 (by omega) (by omega)
    simp +decide -dsimp -implicitDefEqProofs [go_sem,x1,x2,x7,hc63,wn]
    refine QAT (.tup [.int .i64 n,.raw .nilIface]) [] (⟨rfl,_,_,rfl,by simp,fun m hm hs=>⟨(hgood m hm hs).1,rfl⟩⟩) rfl ?_
    simp +decide -dsimp -implicitDefEqProofs [go_sem]
  ·simp +decide -dsimp -implicitDefEqProofs [go_sem]
   refine QAT (.tup [.int .i64 0,.raw (.iface 240 (.int .i64 2))]) [] (⟨rfl,_,_,rfl,by simp,fun m hm hs=>by have:=(hgood m hm hs).2.2; simp at this⟩) rfl ?_
   simp +decide -dsimp -implicitDefEqProofs [go_sem]
end Go.Ab
