/- Entries and paths. -/
import Derived.Test.YtpknaffdaemlbaaGreatDoorW4
set_option maxRecDepth 20000
set_option maxHeartbeats 4000000
namespace Go.Ab
open Go Go.Proofs
def QAz (c:Nat):Bool:=(decide (97 ≤ c) && decide (c ≤ 122)) || (decide (65 ≤ c) && decide (c ≤ 90)) || (decide (48 ≤ c) && decide (c ≤ 57)) || decide (c = 46) || decide (c = 43) || decide (c = 58) || decide (c = 45)
theorem QPF (c:Nat):ACalls Tryz.prog 68 [.int .u8 c] [] (.bool (QAz c)) []:=by
 refine QAF c68_ok rfl ?_
 unfold c68 QAz
 have key:(97 ≤ c ∧ c ≤ 122) ∨ (65 ≤ c ∧ c ≤ 90) ∨ (48 ≤ c ∧ c ≤ 57) ∨ (c = 46) ∨ (c = 43) ∨ (c = 58) ∨ (c = 45) ∨ (c < 43) ∨ (c = 44) ∨ (c = 47) ∨ (59 ≤ c ∧ c ≤ 64) ∨ (91 ≤ c ∧ c ≤ 96) ∨ (123 ≤ c):=by omega
 rcases key with h | h | h | h | h | h | h | h | h | h | h | h | h
 ·have n0:(97:Nat) ≤ c:=by omega
  have i0:(97:Int) ≤ c:=by omega
  have n1:(c:Nat) ≤ 122:=by omega
  have i1:(c:Int) ≤ 122:=by omega
  have n2:(65:Nat) ≤ c:=by omega
  have i2:(65:Int) ≤ c:=by omega
  have n3:¬ (c:Nat) ≤ 90:=by omega
  have i3:¬ (c:Int) ≤ 90:=by omega
  have n4:(48:Nat) ≤ c:=by omega
  have i4:(48:Int) ≤ c:=by omega
  have n5:¬ (c:Nat) ≤ 57:=by omega
  have i5:¬ (c:Int) ≤ 57:=by omega
  have n6:¬ (c:Nat) = 46:=by omega
  have i6:¬ (c:Int) = 46:=by omega
  have n7:¬ (c:Nat) = 43:=by omega
  have i7:¬ (c:Int) = 43:=by omega
  have n8:¬ (c:Nat) = 58:=by omega
  have i8:¬ (c:Int) = 58:=by omega
  have n9:¬ (c:Nat) = 45:=by omega
  have i9:¬ (c:Int) = 45:=by omega
  simp +decide -dsimp -implicitDefEqProofs [go_sem,n0,i0,n1,i1,n2,n3,n4,n5,n6,n7,n8,n9]
 ·have n0:¬ (97:Nat) ≤ c:=by omega
  have i0:¬ (97:Int) ≤ c:=by omega
  have n1:(c:Nat) ≤ 122:=by omega
  have i1:(c:Int) ≤ 122:=by omega
  have n2:(65:Nat) ≤ c:=by omega
  have i2:(65:Int) ≤ c:=by omega
  have n3:(c:Nat) ≤ 90:=by omega
  have i3:(c:Int) ≤ 90:=by omega
  have n4:(48:Nat) ≤ c:=by omega
  have i4:(48:Int) ≤ c:=by omega
  have n5:¬ (c:Nat) ≤ 57:=by omega
  have i5:¬ (c:Int) ≤ 57:=by omega
  have n6:¬ (c:Nat) = 46:=by omega
  have i6:¬ (c:Int) = 46:=by omega
  have n7:¬ (c:Nat) = 43:=by omega
  have i7:¬ (c:Int) = 43:=by omega
  have n8:¬ (c:Nat) = 58:=by omega
  have i8:¬ (c:Int) = 58:=by omega
  have n9:¬ (c:Nat) = 45:=by omega
  have i9:¬ (c:Int) = 45:=by omega
  simp +decide -dsimp -implicitDefEqProofs [go_sem,n0,i0,n1,n2,i2,n3,i3,n4,n5,n6,n7,n8,n9]
 ·have n0:¬ (97:Nat) ≤ c:=by omega
  have i0:¬ (97:Int) ≤ c:=by omega
  have n1:(c:Nat) ≤ 122:=by omega
  have i1:(c:Int) ≤ 122:=by omega
  have n2:¬ (65:Nat) ≤ c:=by omega
  have i2:¬ (65:Int) ≤ c:=by omega
  have n3:(c:Nat) ≤ 90:=by omega
  have i3:(c:Int) ≤ 90:=by omega
  have n4:(48:Nat) ≤ c:=by omega
  have i4:(48:Int) ≤ c:=by omega
  have n5:(c:Nat) ≤ 57:=by omega
  have i5:(c:Int) ≤ 57:=by omega
  have n6:¬ (c:Nat) = 46:=by omega
  have i6:¬ (c:Int) = 46:=by omega
  have n7:¬ (c:Nat) = 43:=by omega
  have i7:¬ (c:Int) = 43:=by omega
  have n8:¬ (c:Nat) = 58:=by omega
  have i8:¬ (c:Int) = 58:=by omega
  have n9:¬ (c:Nat) = 45:=by omega
  have i9:¬ (c:Int) = 45:=by omega
  simp +decide -dsimp -implicitDefEqProofs [go_sem,n0,i0,n1,n2,i2,n3,n4,i4,n5,i5,n6,n7,n8,n9]
 ·have n0:¬ (97:Nat) ≤ c:=by omega
  have i0:¬ (97:Int) ≤ c:=by omega
  have n1:(c:Nat) ≤ 122:=by omega
  have i1:(c:Int) ≤ 122:=by omega
  have n2:¬ (65:Nat) ≤ c:=by omega
  have i2:¬ (65:Int) ≤ c:=by omega
  have n3:(c:Nat) ≤ 90:=by omega
  have i3:(c:Int) ≤ 90:=by omega
  have n4:¬ (48:Nat) ≤ c:=by omega
  have i4:¬ (48:Int) ≤ c:=by omega
  have n5:(c:Nat) ≤ 57:=by omega
  have i5:(c:Int) ≤ 57:=by omega
  have n6:(c:Nat) = 46:=by omega
  have i6:(c:Int) = 46:=by omega
  have n7:¬ (c:Nat) = 43:=by omega
  have i7:¬ (c:Int) = 43:=by omega
  have n8:¬ (c:Nat) = 58:=by omega
  have i8:¬ (c:Int) = 58:=by omega
  have n9:¬ (c:Nat) = 45:=by omega
  have i9:¬ (c:Int) = 45:=by omega
  simp +decide -dsimp -implicitDefEqProofs [go_sem,n6]
 ·have n0:¬ (97:Nat) ≤ c:=by omega
  have i0:¬ (97:Int) ≤ c:=by omega
  have n1:(c:Nat) ≤ 122:=by omega
  have i1:(c:Int) ≤ 122:=by omega
  have n2:¬ (65:Nat) ≤ c:=by omega
  have i2:¬ (65:Int) ≤ c:=by omega
  have n3:(c:Nat) ≤ 90:=by omega
  have i3:(c:Int) ≤ 90:=by omega
  have n4:¬ (48:Nat) ≤ c:=by omega
  have i4:¬ (48:Int) ≤ c:=by omega
  have n5:(c:Nat) ≤ 57:=by omega
  have i5:(c:Int) ≤ 57:=by omega
  have n6:¬ (c:Nat) = 46:=by omega
  have i6:¬ (c:Int) = 46:=by omega
  have n7:(c:Nat) = 43:=by omega
  have i7:(c:Int) = 43:=by omega
  have n8:¬ (c:Nat) = 58:=by omega
  have i8:¬ (c:Int) = 58:=by omega
  have n9:¬ (c:Nat) = 45:=by omega
  have i9:¬ (c:Int) = 45:=by omega
  simp +decide -dsimp -implicitDefEqProofs [go_sem,n7]
 ·have n0:¬ (97:Nat) ≤ c:=by omega
  have i0:¬ (97:Int) ≤ c:=by omega
  have n1:(c:Nat) ≤ 122:=by omega
  have i1:(c:Int) ≤ 122:=by omega
  have n2:¬ (65:Nat) ≤ c:=by omega
  have i2:¬ (65:Int) ≤ c:=by omega
  have n3:(c:Nat) ≤ 90:=by omega
  have i3:(c:Int) ≤ 90:=by omega
  have n4:(48:Nat) ≤ c:=by omega
  have i4:(48:Int) ≤ c:=by omega
  have n5:¬ (c:Nat) ≤ 57:=by omega
  have i5:¬ (c:Int) ≤ 57:=by omega
  have n6:¬ (c:Nat) = 46:=by omega
  have i6:¬ (c:Int) = 46:=by omega
  have n7:¬ (c:Nat) = 43:=by omega
  have i7:¬ (c:Int) = 43:=by omega
  have n8:(c:Nat) = 58:=by omega
  have i8:(c:Int) = 58:=by omega
  have n9:¬ (c:Nat) = 45:=by omega
  have i9:¬ (c:Int) = 45:=by omega
  simp +decide -dsimp -implicitDefEqProofs [go_sem,n8]
 ·have n0:¬ (97:Nat) ≤ c:=by omega
  have i0:¬ (97:Int) ≤ c:=by omega
  have n1:(c:Nat) ≤ 122:=by omega
  have i1:(c:Int) ≤ 122:=by omega
  have n2:¬ (65:Nat) ≤ c:=by omega
  have i2:¬ (65:Int) ≤ c:=by omega
  have n3:(c:Nat) ≤ 90:=by omega
  have i3:(c:Int) ≤ 90:=by omega
  have n4:¬ (48:Nat) ≤ c:=by omega
  have i4:¬ (48:Int) ≤ c:=by omega
  have n5:(c:Nat) ≤ 57:=by omega
  have i5:(c:Int) ≤ 57:=by omega
  have n6:¬ (c:Nat) = 46:=by omega
  have i6:¬ (c:Int) = 46:=by omega
  have n7:¬ (c:Nat) = 43:=by omega
  have i7:¬ (c:Int) = 43:=by omega
  have n8:¬ (c:Nat) = 58:=by omega
  have i8:¬ (c:Int) = 58:=by omega
  have n9:(c:Nat) = 45:=by omega
  have i9:(c:Int) = 45:=by omega
  simp +decide -dsimp -implicitDefEqProofs [go_sem,n9]
 ·have n0:¬ (97:Nat) ≤ c:=by omega
  have i0:¬ (97:Int) ≤ c:=by omega
  have n1:(c:Nat) ≤ 122:=by omega
  have i1:(c:Int) ≤ 122:=by omega
  have n2:¬ (65:Nat) ≤ c:=by omega
  have i2:¬ (65:Int) ≤ c:=by omega
  have n3:(c:Nat) ≤ 90:=by omega
  have i3:(c:Int) ≤ 90:=by omega
  have n4:¬ (48:Nat) ≤ c:=by omega
  have i4:¬ (48:Int) ≤ c:=by omega
  have n5:(c:Nat) ≤ 57:=by omega
  have i5:(c:Int) ≤ 57:=by omega
  have n6:¬ (c:Nat) = 46:=by omega
  have i6:¬ (c:Int) = 46:=by omega
  have n7:¬ (c:Nat) = 43:=by omega
  have i7:¬ (c:Int) = 43:=by omega
  have n8:¬ (c:Nat) = 58:=by omega
  have i8:¬ (c:Int) = 58:=by omega
  have n9:¬ (c:Nat) = 45:=by omega
  have i9:¬ (c:Int) = 45:=by omega
  simp +decide -dsimp -implicitDefEqProofs [go_sem,n0,i0,n1,n2,i2,n3,n4,i4,n5,n6,i6,n7,i7,n8,i8,n9,i9]
 ·have n0:¬ (97:Nat) ≤ c:=by omega
  have i0:¬ (97:Int) ≤ c:=by omega
  have n1:(c:Nat) ≤ 122:=by omega
  have i1:(c:Int) ≤ 122:=by omega
  have n2:¬ (65:Nat) ≤ c:=by omega
  have i2:¬ (65:Int) ≤ c:=by omega
  have n3:(c:Nat) ≤ 90:=by omega
  have i3:(c:Int) ≤ 90:=by omega
  have n4:¬ (48:Nat) ≤ c:=by omega
  have i4:¬ (48:Int) ≤ c:=by omega
  have n5:(c:Nat) ≤ 57:=by omega
  have i5:(c:Int) ≤ 57:=by omega
  have n6:¬ (c:Nat) = 46:=by omega
  have i6:¬ (c:Int) = 46:=by omega
  have n7:¬ (c:Nat) = 43:=by omega
  have i7:¬ (c:Int) = 43:=by omega
  have n8:¬ (c:Nat) = 58:=by omega
  have i8:¬ (c:Int) = 58:=by omega
  have n9:¬ (c:Nat) = 45:=by omega
  have i9:¬ (c:Int) = 45:=by omega
  simp +decide -dsimp -implicitDefEqProofs [go_sem,n0,i0,n1,n2,i2,n3,n4,i4,n5,n6,i6,n7,i7,n8,i8,n9,i9]
 ·have n0:¬ (97:Nat) ≤ c:=by omega
  have i0:¬ (97:Int) ≤ c:=by omega
  have n1:(c:Nat) ≤ 122:=by omega
  have i1:(c:Int) ≤ 122:=by omega
  have n2:¬ (65:Nat) ≤ c:=by omega
  have i2:¬ (65:Int) ≤ c:=by omega
  have n3:(c:Nat) ≤ 90:=by omega
  have i3:(c:Int) ≤ 90:=by omega
  have n4:¬ (48:Nat) ≤ c:=by omega
  have i4:¬ (48:Int) ≤ c:=by omega
  have n5:(c:Nat) ≤ 57:=by omega
  have i5:(c:Int) ≤ 57:=by omega
  have n6:¬ (c:Nat) = 46:=by omega
  have i6:¬ (c:Int) = 46:=by omega
  have n7:¬ (c:Nat) = 43:=by omega
  have i7:¬ (c:Int) = 43:=by omega
  have n8:¬ (c:Nat) = 58:=by omega
  have i8:¬ (c:Int) = 58:=by omega
  have n9:¬ (c:Nat) = 45:=by omega
  have i9:¬ (c:Int) = 45:=by omega
  simp +decide -dsimp -implicitDefEqProofs [go_sem,n0,i0,n1,n2,i2,n3,n4,i4,n5,n6,i6,n7,i7,n8,i8,n9,i9]
 ·have n0:¬ (97:Nat) ≤ c:=by omega
  have i0:¬ (97:Int) ≤ c:=by omega
  have n1:(c:Nat) ≤ 122:=by omega
  have i1:(c:Int) ≤ 122:=by omega
  have n2:¬ (65:Nat) ≤ c:=by omega
  have i2:¬ (65:Int) ≤ c:=by omega
  have n3:(c:Nat) ≤ 90:=by omega
  have i3:(c:Int) ≤ 90:=by omega
  have n4:(48:Nat) ≤ c:=by omega
  have i4:(48:Int) ≤ c:=by omega
  have n5:¬ (c:Nat) ≤ 57:=by omega
  have i5:¬ (c:Int) ≤ 57:=by omega
  have n6:¬ (c:Nat) = 46:=by omega
  have i6:¬ (c:Int) = 46:=by omega
  have n7:¬ (c:Nat) = 43:=by omega
  have i7:¬ (c:Int) = 43:=by omega
  have n8:¬ (c:Nat) = 58:=by omega
  have i8:¬ (c:Int) = 58:=by omega
  have n9:¬ (c:Nat) = 45:=by omega
  have i9:¬ (c:Int) = 45:=by omega
  simp +decide -dsimp -implicitDefEqProofs [go_sem,n0,i0,n1,n2,i2,n3,n4,i4,n5,i5,n6,i6,n7,i7,n8,i8,n9,i9]
 ·have n0:¬ (97:Nat) ≤ c:=by omega
  have i0:¬ (97:Int) ≤ c:=by omega
  have n1:(c:Nat) ≤ 122:=by omega
  have i1:(c:Int) ≤ 122:=by omega
  have n2:(65:Nat) ≤ c:=by omega
  have i2:(65:Int) ≤ c:=by omega
  have n3:¬ (c:Nat) ≤ 90:=by omega
  have i3:¬ (c:Int) ≤ 90:=by omega
  have n4:(48:Nat) ≤ c:=by omega
  have i4:(48:Int) ≤ c:=by omega
  have n5:¬ (c:Nat) ≤ 57:=by omega
  have i5:¬ (c:Int) ≤ 57:=by omega
  have n6:¬ (c:Nat) = 46:=by omega
  have i6:¬ (c:Int) = 46:=by omega
  have n7:¬ (c:Nat) = 43:=by omega
  have i7:¬ (c:Int) = 43:=by omega
  have n8:¬ (c:Nat) = 58:=by omega
  have i8:¬ (c:Int) = 58:=by omega
  have n9:¬ (c:Nat) = 45:=by omega
  have i9:¬ (c:Int) = 45:=by omega
  simp +decide -dsimp -implicitDefEqProofs [go_sem,n0,i0,n1,n2,i2,n3,i3,n4,i4,n5,i5,n6,i6,n7,i7,n8,i8,n9,i9]
 ·have n0:(97:Nat) ≤ c:=by omega
  have i0:(97:Int) ≤ c:=by omega
  have n1:¬ (c:Nat) ≤ 122:=by omega
  have i1:¬ (c:Int) ≤ 122:=by omega
  have n2:(65:Nat) ≤ c:=by omega
  have i2:(65:Int) ≤ c:=by omega
  have n3:¬ (c:Nat) ≤ 90:=by omega
  have i3:¬ (c:Int) ≤ 90:=by omega
  have n4:(48:Nat) ≤ c:=by omega
  have i4:(48:Int) ≤ c:=by omega
  have n5:¬ (c:Nat) ≤ 57:=by omega
  have i5:¬ (c:Int) ≤ 57:=by omega
  have n6:¬ (c:Nat) = 46:=by omega
  have i6:¬ (c:Int) = 46:=by omega
  have n7:¬ (c:Nat) = 43:=by omega
  have i7:¬ (c:Int) = 43:=by omega
  have n8:¬ (c:Nat) = 58:=by omega
  have i8:¬ (c:Int) = 58:=by omega
  have n9:¬ (c:Nat) = 45:=by omega
  have i9:¬ (c:Int) = 45:=by omega
  simp +decide -dsimp -implicitDefEqProofs [go_sem,n0,i0,n1,i1,n2,i2,n3,i3,n4,i4,n5,i5,n6,i6,n7,i7,n8,i8,n9,i9]
end Go.Ab
namespace Go.Ab
open Go Go.Proofs
def hexL:List UInt8:=[48,49,50,51,52,53,54,55,56,57,97,98,99,100,101,102]
def QFK (n:Nat):UInt8:=hexL.getD n 0
theorem QWA:∀ k,k < 16 → ([48,49,50,51,52,53,54,55,56,57,97,98,99,100,101,102]:List UInt8)[k]? = some (QFK k):=by decide
def QIC (c:UInt8):List UInt8:=if QAz c.toNat then [c] else [95,QFK (c.toNat / 16),QFK (c.toNat % 16)]
def QAw (s:List UInt8):List UInt8:=s.flatMap QIC
theorem QJf {s:List UInt8} {i:Nat} (h:i < s.length):QAw (s.take (i + 1)) = QAw (s.take i) ++ QIC s[i]:=by
 unfold QAw; rw [List.take_succ_eq_append_getElem h,List.flatMap_append]; simp
theorem QPG (c:UInt8):(QIC c).length ≤ 3:=by unfold QIC; split <;> simp
theorem QGu (s:List UInt8):(QAw s).length ≤ 3 * s.length:=by
 induction s with
 | nil=>simp [QAw]
 | cons c r ih=>have:=QPG c; simp only [QAw,List.flatMap_cons,List.length_append,List.length_cons] at ih ⊢; omega
theorem QUD (s:List UInt8) (hs:s.length ≤ 400000):ACalls Tryz.prog 117 [.str s] [] (.str (QAw s)) []:=by
 refine QAF c117_ok rfl ?_
 unfold c117
 simp +decide -dsimp -implicitDefEqProofs [go_sem]
 refine QAR (S:=Nat) (fun i=>⟨tmps 70 [(0,.str s),(3,.str (QAw (s.take i))),(4,.int .i64 i)],[]⟩) (fun i=>s.length - i) (fun i=>i ≤ s.length) 0 (by simp) (QAD (by simp) ?_) ?_
 ·simp +decide -dsimp -implicitDefEqProofs [go_sem,QAw]
 intro i hi
 by_cases h:i < s.length
 rotate_left
 ·have e:i = s.length:=by omega
  subst e
  simp +decide -dsimp -implicitDefEqProofs [go_sem]
 have w:IntKind.i64.wrap ((i:Int) + 1) = i + 1:=w64 (by omega) (by omega)
 have hlen:=QGu (s.take i)
 rw [List.length_take] at hlen
 have hnext:=QJf h
 have hc:=UInt8.toNat_lt s[i]
 obtain ⟨c,hcn⟩:∃ c,c = s[i].toNat:=⟨_,rfl⟩
 have hcc:s[i] = UInt8.ofNat c:=by rw [hcn]; simp
 have hu:=QNU (n:=c) (by omega)
 rw [← hcc] at hu
 have hq:c / 16 < 16:=by omega
 have hr:c % 16 < 16:=by omega
 have a1:(IntKind.u8.wrap ((c:Int) / 16)).toNat = c / 16:=by rw [IntKind.wrap_u8]; omega
 have a2:(c:Int).tmod 16 = (c:Int) % 16:=Int.tmod_eq_emod_of_nonneg (by omega)
 have a3:((c:Int) % 16).toNat = c % 16:=by omega
 have a4:(0:Int) ≤ (c:Int) % 16:=by omega
 have g1:=QWA (c / 16) hq
 have g2:=QWA (c % 16) hr
 have hu2:unb [[AV.int .u8 (QFK (c / 16)).toNat],[.int .u8 (QFK (c % 16)).toNat]] = some [QFK (c / 16),QFK (c % 16)]:=QGA [_,_]
 have key:(97 ≤ c ∧ c ≤ 122) ∨ (65 ≤ c ∧ c ≤ 90) ∨ (48 ≤ c ∧ c ≤ 57) ∨ (c = 46) ∨ (c = 43) ∨ (c = 58) ∨ (c = 45) ∨ (c < 43) ∨ (c = 44) ∨ (c = 47) ∨ (59 ≤ c ∧ c ≤ 64) ∨ (91 ≤ c ∧ c ≤ 96) ∨ (123 ≤ c):=by omega
 have fin:∀ x,x = QIC s[i] → QAw (s.take i) ++ x = QAw (s.take (i + 1)):=fun x hx=>by rw [hx,hnext]
 rcases key with h1 | h1 | h1 | h1 | h1 | h1 | h1 | h1 | h1 | h1 | h1 | h1 | h1
 ·have n0:(97:Nat) ≤ c:=by omega
  have i0:(97:Int) ≤ c:=by omega
  have n1:(c:Nat) ≤ 122:=by omega
  have i1:(c:Int) ≤ 122:=by omega
  have n2:(65:Nat) ≤ c:=by omega
  have i2:(65:Int) ≤ c:=by omega
  have n3:¬ (c:Nat) ≤ 90:=by omega
  have i3:¬ (c:Int) ≤ 90:=by omega
  have n4:(48:Nat) ≤ c:=by omega
  have i4:(48:Int) ≤ c:=by omega
  have n5:¬ (c:Nat) ≤ 57:=by omega
  have i5:¬ (c:Int) ≤ 57:=by omega
  have n6:¬ (c:Nat) = 46:=by omega
  have i6:¬ (c:Int) = 46:=by omega
  have n7:¬ (c:Nat) = 43:=by omega
  have i7:¬ (c:Int) = 43:=by omega
  have n8:¬ (c:Nat) = 58:=by omega
  have i8:¬ (c:Int) = 58:=by omega
  have n9:¬ (c:Nat) = 45:=by omega
  have i9:¬ (c:Int) = 45:=by omega
  have hst:QAz c = true:=by simp [QAz,n0,n1,n2,n3,n4,n5,n6,n7,n8,n9]
  have e:=fin [s[i]] (by simp [QIC,← hcn,hst])
  simp +decide -dsimp -implicitDefEqProofs [go_sem,h,← hcn,hu,w,i0,i1]
  refine ⟨by omega,?_⟩
  refine QAI (i + 1) (by show i + 1 ≤ _; omega) (by show _ - (i + 1) < _ - i; omega) (QAD (by simp) ?_)
  simp +decide -dsimp -implicitDefEqProofs [go_sem,e]
 ·have n0:¬ (97:Nat) ≤ c:=by omega
  have i0:¬ (97:Int) ≤ c:=by omega
  have n1:(c:Nat) ≤ 122:=by omega
  have i1:(c:Int) ≤ 122:=by omega
  have n2:(65:Nat) ≤ c:=by omega
  have i2:(65:Int) ≤ c:=by omega
  have n3:(c:Nat) ≤ 90:=by omega
  have i3:(c:Int) ≤ 90:=by omega
  have n4:(48:Nat) ≤ c:=by omega
  have i4:(48:Int) ≤ c:=by omega
  have n5:¬ (c:Nat) ≤ 57:=by omega
  have i5:¬ (c:Int) ≤ 57:=by omega
  have n6:¬ (c:Nat) = 46:=by omega
  have i6:¬ (c:Int) = 46:=by omega
  have n7:¬ (c:Nat) = 43:=by omega
  have i7:¬ (c:Int) = 43:=by omega
  have n8:¬ (c:Nat) = 58:=by omega
  have i8:¬ (c:Int) = 58:=by omega
  have n9:¬ (c:Nat) = 45:=by omega
  have i9:¬ (c:Int) = 45:=by omega
  have hst:QAz c = true:=by simp [QAz,n0,n1,n2,n3,n4,n5,n6,n7,n8,n9]
  have e:=fin [s[i]] (by simp [QIC,← hcn,hst])
  simp +decide -dsimp -implicitDefEqProofs [go_sem,h,← hcn,hu,w,i0,i2,i3]
  refine ⟨by omega,?_⟩
  refine QAI (i + 1) (by show i + 1 ≤ _; omega) (by show _ - (i + 1) < _ - i; omega) (QAD (by simp) ?_)
  simp +decide -dsimp -implicitDefEqProofs [go_sem,e]
 ·have n0:¬ (97:Nat) ≤ c:=by omega
  have i0:¬ (97:Int) ≤ c:=by omega
  have n1:(c:Nat) ≤ 122:=by omega
  have i1:(c:Int) ≤ 122:=by omega
  have n2:¬ (65:Nat) ≤ c:=by omega
  have i2:¬ (65:Int) ≤ c:=by omega
  have n3:(c:Nat) ≤ 90:=by omega
  have i3:(c:Int) ≤ 90:=by omega
  have n4:(48:Nat) ≤ c:=by omega
  have i4:(48:Int) ≤ c:=by omega
  have n5:(c:Nat) ≤ 57:=by omega
  have i5:(c:Int) ≤ 57:=by omega
  have n6:¬ (c:Nat) = 46:=by omega
  have i6:¬ (c:Int) = 46:=by omega
  have n7:¬ (c:Nat) = 43:=by omega
  have i7:¬ (c:Int) = 43:=by omega
  have n8:¬ (c:Nat) = 58:=by omega
  have i8:¬ (c:Int) = 58:=by omega
  have n9:¬ (c:Nat) = 45:=by omega
  have i9:¬ (c:Int) = 45:=by omega
  have hst:QAz c = true:=by simp [QAz,n0,n1,n2,n3,n4,n5,n6,n7,n8,n9]
  have e:=fin [s[i]] (by simp [QIC,← hcn,hst])
  simp +decide -dsimp -implicitDefEqProofs [go_sem,h,← hcn,hu,w,i0,i2,i4,i5]
  refine ⟨by omega,?_⟩
  refine QAI (i + 1) (by show i + 1 ≤ _; omega) (by show _ - (i + 1) < _ - i; omega) (QAD (by simp) ?_)
  simp +decide -dsimp -implicitDefEqProofs [go_sem,e]
 ·have n0:¬ (97:Nat) ≤ c:=by omega
  have i0:¬ (97:Int) ≤ c:=by omega
  have n1:(c:Nat) ≤ 122:=by omega
  have i1:(c:Int) ≤ 122:=by omega
  have n2:¬ (65:Nat) ≤ c:=by omega
  have i2:¬ (65:Int) ≤ c:=by omega
  have n3:(c:Nat) ≤ 90:=by omega
  have i3:(c:Int) ≤ 90:=by omega
  have n4:¬ (48:Nat) ≤ c:=by omega
  have i4:¬ (48:Int) ≤ c:=by omega
  have n5:(c:Nat) ≤ 57:=by omega
  have i5:(c:Int) ≤ 57:=by omega
  have n6:(c:Nat) = 46:=by omega
  have i6:(c:Int) = 46:=by omega
  have n7:¬ (c:Nat) = 43:=by omega
  have i7:¬ (c:Int) = 43:=by omega
  have n8:¬ (c:Nat) = 58:=by omega
  have i8:¬ (c:Int) = 58:=by omega
  have n9:¬ (c:Nat) = 45:=by omega
  have i9:¬ (c:Int) = 45:=by omega
  have hst:QAz c = true:=by simp [QAz,n6]
  have e:=fin [46] (by rw [hcc,h1]; rfl)
  simp +decide -dsimp -implicitDefEqProofs [go_sem,h,← hcn,w,i6]
  refine ⟨by simp; omega,?_⟩
  refine QAI (i + 1) (by show i + 1 ≤ _; omega) (by show _ - (i + 1) < _ - i; omega) (QAD (by simp) ?_)
  simp +decide -dsimp -implicitDefEqProofs [go_sem,e]
 ·have n0:¬ (97:Nat) ≤ c:=by omega
  have i0:¬ (97:Int) ≤ c:=by omega
  have n1:(c:Nat) ≤ 122:=by omega
  have i1:(c:Int) ≤ 122:=by omega
  have n2:¬ (65:Nat) ≤ c:=by omega
  have i2:¬ (65:Int) ≤ c:=by omega
  have n3:(c:Nat) ≤ 90:=by omega
  have i3:(c:Int) ≤ 90:=by omega
  have n4:¬ (48:Nat) ≤ c:=by omega
  have i4:¬ (48:Int) ≤ c:=by omega
  have n5:(c:Nat) ≤ 57:=by omega
  have i5:(c:Int) ≤ 57:=by omega
  have n6:¬ (c:Nat) = 46:=by omega
  have i6:¬ (c:Int) = 46:=by omega
  have n7:(c:Nat) = 43:=by omega
  have i7:(c:Int) = 43:=by omega
  have n8:¬ (c:Nat) = 58:=by omega
  have i8:¬ (c:Int) = 58:=by omega
  have n9:¬ (c:Nat) = 45:=by omega
  have i9:¬ (c:Int) = 45:=by omega
  have hst:QAz c = true:=by simp [QAz,n7]
  have e:=fin [43] (by rw [hcc,h1]; rfl)
  simp +decide -dsimp -implicitDefEqProofs [go_sem,h,← hcn,w,i7]
  refine ⟨by simp; omega,?_⟩
  refine QAI (i + 1) (by show i + 1 ≤ _; omega) (by show _ - (i + 1) < _ - i; omega) (QAD (by simp) ?_)
  simp +decide -dsimp -implicitDefEqProofs [go_sem,e]
 ·have n0:¬ (97:Nat) ≤ c:=by omega
  have i0:¬ (97:Int) ≤ c:=by omega
  have n1:(c:Nat) ≤ 122:=by omega
  have i1:(c:Int) ≤ 122:=by omega
  have n2:¬ (65:Nat) ≤ c:=by omega
  have i2:¬ (65:Int) ≤ c:=by omega
  have n3:(c:Nat) ≤ 90:=by omega
  have i3:(c:Int) ≤ 90:=by omega
  have n4:(48:Nat) ≤ c:=by omega
  have i4:(48:Int) ≤ c:=by omega
  have n5:¬ (c:Nat) ≤ 57:=by omega
  have i5:¬ (c:Int) ≤ 57:=by omega
  have n6:¬ (c:Nat) = 46:=by omega
  have i6:¬ (c:Int) = 46:=by omega
  have n7:¬ (c:Nat) = 43:=by omega
  have i7:¬ (c:Int) = 43:=by omega
  have n8:(c:Nat) = 58:=by omega
  have i8:(c:Int) = 58:=by omega
  have n9:¬ (c:Nat) = 45:=by omega
  have i9:¬ (c:Int) = 45:=by omega
  have hst:QAz c = true:=by simp [QAz,n8]
  have e:=fin [58] (by rw [hcc,h1]; rfl)
  simp +decide -dsimp -implicitDefEqProofs [go_sem,h,← hcn,w,i8]
  refine ⟨by simp; omega,?_⟩
  refine QAI (i + 1) (by show i + 1 ≤ _; omega) (by show _ - (i + 1) < _ - i; omega) (QAD (by simp) ?_)
  simp +decide -dsimp -implicitDefEqProofs [go_sem,e]
 ·have n0:¬ (97:Nat) ≤ c:=by omega
  have i0:¬ (97:Int) ≤ c:=by omega
  have n1:(c:Nat) ≤ 122:=by omega
  have i1:(c:Int) ≤ 122:=by omega
  have n2:¬ (65:Nat) ≤ c:=by omega
  have i2:¬ (65:Int) ≤ c:=by omega
  have n3:(c:Nat) ≤ 90:=by omega
  have i3:(c:Int) ≤ 90:=by omega
  have n4:¬ (48:Nat) ≤ c:=by omega
  have i4:¬ (48:Int) ≤ c:=by omega
  have n5:(c:Nat) ≤ 57:=by omega
  have i5:(c:Int) ≤ 57:=by omega
  have n6:¬ (c:Nat) = 46:=by omega
  have i6:¬ (c:Int) = 46:=by omega
  have n7:¬ (c:Nat) = 43:=by omega
  have i7:¬ (c:Int) = 43:=by omega
  have n8:¬ (c:Nat) = 58:=by omega
  have i8:¬ (c:Int) = 58:=by omega
  have n9:(c:Nat) = 45:=by omega
  have i9:(c:Int) = 45:=by omega
  have hst:QAz c = true:=by simp [QAz,n9]
  have e:=fin [45] (by rw [hcc,h1]; rfl)
  simp +decide -dsimp -implicitDefEqProofs [go_sem,h,← hcn,w,i9]
  refine ⟨by simp; omega,?_⟩
  refine QAI (i + 1) (by show i + 1 ≤ _; omega) (by show _ - (i + 1) < _ - i; omega) (QAD (by simp) ?_)
  simp +decide -dsimp -implicitDefEqProofs [go_sem,e]
 ·have n0:¬ (97:Nat) ≤ c:=by omega
  have i0:¬ (97:Int) ≤ c:=by omega
  have n1:(c:Nat) ≤ 122:=by omega
  have i1:(c:Int) ≤ 122:=by omega
  have n2:¬ (65:Nat) ≤ c:=by omega
  have i2:¬ (65:Int) ≤ c:=by omega
  have n3:(c:Nat) ≤ 90:=by omega
  have i3:(c:Int) ≤ 90:=by omega
  have n4:¬ (48:Nat) ≤ c:=by omega
  have i4:¬ (48:Int) ≤ c:=by omega
  have n5:(c:Nat) ≤ 57:=by omega
  have i5:(c:Int) ≤ 57:=by omega
  have n6:¬ (c:Nat) = 46:=by omega
  have i6:¬ (c:Int) = 46:=by omega
  have n7:¬ (c:Nat) = 43:=by omega
  have i7:¬ (c:Int) = 43:=by omega
  have n8:¬ (c:Nat) = 58:=by omega
  have i8:¬ (c:Int) = 58:=by omega
  have n9:¬ (c:Nat) = 45:=by omega
  have i9:¬ (c:Int) = 45:=by omega
  have hst:QAz c = false:=by simp [QAz,n0,n1,n2,n3,n4,n5,n6,n7,n8,n9]
  have e:=fin [95,QFK (c / 16),QFK (c % 16)] (by simp [QIC,← hcn,hst])
  simp +decide -dsimp -implicitDefEqProofs [go_sem,h,← hcn,w,a1,a2,a3,a4,g1,g2,hu2,i0,i2,i4,i6,i7,i8,i9]
  refine ⟨by omega,?_⟩
  refine QAI (i + 1) (by show i + 1 ≤ _; omega) (by show _ - (i + 1) < _ - i; omega) (QAD (by simp) ?_)
  simp +decide -dsimp -implicitDefEqProofs [go_sem,e]
 ·have n0:¬ (97:Nat) ≤ c:=by omega
  have i0:¬ (97:Int) ≤ c:=by omega
  have n1:(c:Nat) ≤ 122:=by omega
  have i1:(c:Int) ≤ 122:=by omega
  have n2:¬ (65:Nat) ≤ c:=by omega
  have i2:¬ (65:Int) ≤ c:=by omega
  have n3:(c:Nat) ≤ 90:=by omega
  have i3:(c:Int) ≤ 90:=by omega
  have n4:¬ (48:Nat) ≤ c:=by omega
  have i4:¬ (48:Int) ≤ c:=by omega
  have n5:(c:Nat) ≤ 57:=by omega
  have i5:(c:Int) ≤ 57:=by omega
  have n6:¬ (c:Nat) = 46:=by omega
  have i6:¬ (c:Int) = 46:=by omega
  have n7:¬ (c:Nat) = 43:=by omega
  have i7:¬ (c:Int) = 43:=by omega
  have n8:¬ (c:Nat) = 58:=by omega
  have i8:¬ (c:Int) = 58:=by omega
  have n9:¬ (c:Nat) = 45:=by omega
  have i9:¬ (c:Int) = 45:=by omega
  have hst:QAz c = false:=by simp [QAz,n0,n1,n2,n3,n4,n5,n6,n7,n8,n9]
  have e:=fin [95,QFK (c / 16),QFK (c % 16)] (by simp [QIC,← hcn,hst])
  simp +decide -dsimp -implicitDefEqProofs [go_sem,h,← hcn,w,a1,a2,a3,a4,g1,g2,hu2,i0,i2,i4,i6,i7,i8,i9]
  refine ⟨by omega,?_⟩
  refine QAI (i + 1) (by show i + 1 ≤ _; omega) (by show _ - (i + 1) < _ - i; omega) (QAD (by simp) ?_)
  simp +decide -dsimp -implicitDefEqProofs [go_sem,e]
 ·have n0:¬ (97:Nat) ≤ c:=by omega
  have i0:¬ (97:Int) ≤ c:=by omega
  have n1:(c:Nat) ≤ 122:=by omega
  have i1:(c:Int) ≤ 122:=by omega
  have n2:¬ (65:Nat) ≤ c:=by omega
  have i2:¬ (65:Int) ≤ c:=by omega
  have n3:(c:Nat) ≤ 90:=by omega
  have i3:(c:Int) ≤ 90:=by omega
  have n4:¬ (48:Nat) ≤ c:=by omega
  have i4:¬ (48:Int) ≤ c:=by omega
  have n5:(c:Nat) ≤ 57:=by omega
  have i5:(c:Int) ≤ 57:=by omega
  have n6:¬ (c:Nat) = 46:=by omega
  have i6:¬ (c:Int) = 46:=by omega
  have n7:¬ (c:Nat) = 43:=by omega
  have i7:¬ (c:Int) = 43:=by omega
  have n8:¬ (c:Nat) = 58:=by omega
  have i8:¬ (c:Int) = 58:=by omega
  have n9:¬ (c:Nat) = 45:=by omega
  have i9:¬ (c:Int) = 45:=by omega
  have hst:QAz c = false:=by simp [QAz,n0,n1,n2,n3,n4,n5,n6,n7,n8,n9]
  have e:=fin [95,QFK (c / 16),QFK (c % 16)] (by simp [QIC,← hcn,hst])
  simp +decide -dsimp -implicitDefEqProofs [go_sem,h,← hcn,w,a1,a2,a3,a4,g1,g2,hu2,i0,i2,i4,i6,i7,i8,i9]
  refine ⟨by omega,?_⟩
  refine QAI (i + 1) (by show i + 1 ≤ _; omega) (by show _ - (i + 1) < _ - i; omega) (QAD (by simp) ?_)
  simp +decide -dsimp -implicitDefEqProofs [go_sem,e]
 ·have n0:¬ (97:Nat) ≤ c:=by omega
  have i0:¬ (97:Int) ≤ c:=by omega
  have n1:(c:Nat) ≤ 122:=by omega
  have i1:(c:Int) ≤ 122:=by omega
  have n2:¬ (65:Nat) ≤ c:=by omega
  have i2:¬ (65:Int) ≤ c:=by omega
  have n3:(c:Nat) ≤ 90:=by omega
  have i3:(c:Int) ≤ 90:=by omega
  have n4:(48:Nat) ≤ c:=by omega
  have i4:(48:Int) ≤ c:=by omega
  have n5:¬ (c:Nat) ≤ 57:=by omega
  have i5:¬ (c:Int) ≤ 57:=by omega
  have n6:¬ (c:Nat) = 46:=by omega
  have i6:¬ (c:Int) = 46:=by omega
  have n7:¬ (c:Nat) = 43:=by omega
  have i7:¬ (c:Int) = 43:=by omega
  have n8:¬ (c:Nat) = 58:=by omega
  have i8:¬ (c:Int) = 58:=by omega
  have n9:¬ (c:Nat) = 45:=by omega
  have i9:¬ (c:Int) = 45:=by omega
  have hst:QAz c = false:=by simp [QAz,n0,n1,n2,n3,n4,n5,n6,n7,n8,n9]
  have e:=fin [95,QFK (c / 16),QFK (c % 16)] (by simp [QIC,← hcn,hst])
  simp +decide -dsimp -implicitDefEqProofs [go_sem,h,← hcn,w,a1,a2,a3,a4,g1,g2,hu2,i0,i2,i4,i5,i6,i7,i8,i9]
  refine ⟨by omega,?_⟩
  refine QAI (i + 1) (by show i + 1 ≤ _; omega) (by show _ - (i + 1) < _ - i; omega) (QAD (by simp) ?_)
  simp +decide -dsimp -implicitDefEqProofs [go_sem,e]
 ·have n0:¬ (97:Nat) ≤ c:=by omega
  have i0:¬ (97:Int) ≤ c:=by omega
  have n1:(c:Nat) ≤ 122:=by omega
  have i1:(c:Int) ≤ 122:=by omega
  have n2:(65:Nat) ≤ c:=by omega
  have i2:(65:Int) ≤ c:=by omega
  have n3:¬ (c:Nat) ≤ 90:=by omega
  have i3:¬ (c:Int) ≤ 90:=by omega
  have n4:(48:Nat) ≤ c:=by omega
  have i4:(48:Int) ≤ c:=by omega
  have n5:¬ (c:Nat) ≤ 57:=by omega
  have i5:¬ (c:Int) ≤ 57:=by omega
  have n6:¬ (c:Nat) = 46:=by omega
  have i6:¬ (c:Int) = 46:=by omega
  have n7:¬ (c:Nat) = 43:=by omega
  have i7:¬ (c:Int) = 43:=by omega
  have n8:¬ (c:Nat) = 58:=by omega
  have i8:¬ (c:Int) = 58:=by omega
  have n9:¬ (c:Nat) = 45:=by omega
  have i9:¬ (c:Int) = 45:=by omega
  have hst:QAz c = false:=by simp [QAz,n0,n1,n2,n3,n4,n5,n6,n7,n8,n9]
  have e:=fin [95,QFK (c / 16),QFK (c % 16)] (by simp [QIC,← hcn,hst])
  simp +decide -dsimp -implicitDefEqProofs [go_sem,h,← hcn,w,a1,a2,a3,a4,g1,g2,hu2,i0,i2,i3,i4,i5,i6,i7,i8,i9]
  refine ⟨by omega,?_⟩
  refine QAI (i + 1) (by show i + 1 ≤ _; omega) (by show _ - (i + 1) < _ - i; omega) (QAD (by simp) ?_)
  simp +decide -dsimp -implicitDefEqProofs [go_sem,e]
 ·have n0:(97:Nat) ≤ c:=by omega
  have i0:(97:Int) ≤ c:=by omega
  have n1:¬ (c:Nat) ≤ 122:=by omega
  have i1:¬ (c:Int) ≤ 122:=by omega
  have n2:(65:Nat) ≤ c:=by omega
  have i2:(65:Int) ≤ c:=by omega
  have n3:¬ (c:Nat) ≤ 90:=by omega
  have i3:¬ (c:Int) ≤ 90:=by omega
  have n4:(48:Nat) ≤ c:=by omega
  have i4:(48:Int) ≤ c:=by omega
  have n5:¬ (c:Nat) ≤ 57:=by omega
  have i5:¬ (c:Int) ≤ 57:=by omega
  have n6:¬ (c:Nat) = 46:=by omega
  have i6:¬ (c:Int) = 46:=by omega
  have n7:¬ (c:Nat) = 43:=by omega
  have i7:¬ (c:Int) = 43:=by omega
  have n8:¬ (c:Nat) = 58:=by omega
  have i8:¬ (c:Int) = 58:=by omega
  have n9:¬ (c:Nat) = 45:=by omega
  have i9:¬ (c:Int) = 45:=by omega
  have hst:QAz c = false:=by simp [QAz,n0,n1,n2,n3,n4,n5,n6,n7,n8,n9]
  have e:=fin [95,QFK (c / 16),QFK (c % 16)] (by simp [QIC,← hcn,hst])
  simp +decide -dsimp -implicitDefEqProofs [go_sem,h,← hcn,w,a1,a2,a3,a4,g1,g2,hu2,i0,i1,i2,i3,i4,i5,i6,i7,i8,i9]
  refine ⟨by omega,?_⟩
  refine QAI (i + 1) (by show i + 1 ≤ _; omega) (by show _ - (i + 1) < _ - i; omega) (QAD (by simp) ?_)
  simp +decide -dsimp -implicitDefEqProofs [go_sem,e]
end Go.Ab
namespace Go.Ab
open Go Go.Proofs
def QKt (s:List UInt8):AV:=.tup [.str (if QAd s = true then QAw s else []),.int .i64 (if QAd s = true then 0 else 252)]
theorem QFL (s:List UInt8) (hs:s.length ≤ 400000):ACalls Tryz.prog 71 [.str s] [] (QKt s) []:=by
 have c1:=QL7 s (by omega)
 have c2:=QUD s hs
 refine QAF c71_ok rfl ?_
 unfold c71 QKt
 simp +decide -dsimp -implicitDefEqProofs [go_sem]
 refine QAA c1 rfl rfl ?_
 by_cases hp:QAd s = true
 ·simp +decide -dsimp -implicitDefEqProofs [go_sem,hp]
  refine QAA c2 rfl rfl ?_
  simp +decide -dsimp -implicitDefEqProofs [go_sem,hp]
 ·simp +decide -dsimp -implicitDefEqProofs [go_sem,hp]
theorem QWw:∀ c:Nat,c < 256 → bits .and .u8 (c:Int) 15 = (c:Int) % 16:=by decide +kernel
theorem QF3 (s:List UInt8) (hs:s.length ≤ 400000):ACalls Tryz.prog 31 [.str s] [] (QKt s) []:=by
 have c1:=QL6 s (by omega)
 refine QAF c31_ok rfl ?_
 unfold c31 QKt
 simp +decide -dsimp -implicitDefEqProofs [go_sem]
 refine QAA c1 rfl rfl ?_
 by_cases hp:QAd s = true
 rotate_left
 ·simp +decide -dsimp -implicitDefEqProofs [go_sem,hp]
 simp +decide -dsimp -implicitDefEqProofs [go_sem,hp]
 have hr:(if QAd s = true then QAw s else []) = QAw s:=by simp [hp]
 refine QAR (S:=Nat) (fun i=>⟨tmps 35 [(4,.own 0 (QAw (s.take i)).length),(11,.imm (s.map QCX)),(12,.int .i64 s.length),(13,.int .i64 i)],[.reg 5 1 ((QAw (s.take i)).map QCX)]⟩) (fun i=>s.length - i) (fun i=>i ≤ s.length) 0 (by simp) ((Wk.nilT 4 5 1 rfl (by simp)).trans (QAD (by simp) ?_)) ?_
 ·simp +decide -dsimp -implicitDefEqProofs [go_sem,QAw,QDT]
 intro i hi
 by_cases h:i < s.length
 rotate_left
 ·have e:i = s.length:=by omega
  subst e
  simp +decide -dsimp -implicitDefEqProofs [go_sem,hp]
 have w:IntKind.i64.wrap ((i:Int) + 1) = i + 1:=w64 (by omega) (by omega)
 have hlen:=QGu (s.take i)
 rw [List.length_take] at hlen
 have hnext:=QJf h
 have hc:=UInt8.toNat_lt s[i]
 have hst:=QPF s[i].toNat
 by_cases h1:QAz s[i].toNat = true
 ·rw [h1] at hst
  simp +decide -dsimp -implicitDefEqProofs [go_sem,h]
  refine QAA hst rfl rfl ?_
  simp +decide -dsimp -implicitDefEqProofs [go_sem,w,maxLen]
  refine ⟨⟨by omega,by omega⟩,?_⟩
  have e3:(QAw (s.take i)).map QCX ++ [[AV.int .u8 s[i].toNat]] = (QAw (s.take (i + 1))).map QCX:=by rw [hnext]; simp [QIC,h1,QCX]
  have e4:(QAw (s.take i)).length + 1 = (QAw (s.take (i + 1))).length:=by rw [hnext]; simp [QIC,h1]
  rw [e3,e4]
  refine QAI (i + 1) (by show i + 1 ≤ _; omega) (by show _ - (i + 1) < _ - i; omega) (QAD (by simp) ?_)
  simp +decide -dsimp -implicitDefEqProofs [go_sem,QDT]
 ·simp only [Bool.not_eq_true] at h1
  rw [h1] at hst
  simp +decide -dsimp -implicitDefEqProofs [go_sem,h]
  refine QAA hst rfl rfl ?_
  have f1:((s[i].toNat:Int).fdiv 16).toNat = s[i].toNat / 16:=by rw [Int.fdiv_eq_ediv_of_nonneg _ (by omega)]; omega
  have f2:(0:Int) ≤ (s[i].toNat:Int).fdiv 16:=by rw [Int.fdiv_eq_ediv_of_nonneg _ (by omega)]; omega
  have f3:=QWw s[i].toNat (by omega)
  have f4:((s[i].toNat:Int) % 16).toNat = s[i].toNat % 16:=by omega
  have f5:(0:Int) ≤ (s[i].toNat:Int) % 16:=by omega
  have g1:=QWA (s[i].toNat / 16) (by omega)
  have g2:=QWA (s[i].toNat % 16) (by omega)
  simp +decide -dsimp -implicitDefEqProofs [go_sem,w,maxLen,f1,f2,f3,f4,f5,g1,g2]
  refine ⟨⟨by omega,by omega⟩,?_⟩
  have e3:(QAw (s.take i)).map QCX ++ [[AV.int .u8 95],[.int .u8 (QFK (s[i].toNat / 16)).toNat],[.int .u8 (QFK (s[i].toNat % 16)).toNat]] = (QAw (s.take (i + 1))).map QCX:=by rw [hnext]; simp [QIC,h1,QCX]
  have e4:(QAw (s.take i)).length + 3 = (QAw (s.take (i + 1))).length:=by rw [hnext]; simp [QIC,h1]
  rw [e3,e4]
  refine QAI (i + 1) (by show i + 1 ≤ _; omega) (by show _ - (i + 1) < _ - i; omega) (QAD (by simp) ?_)
  simp +decide -dsimp -implicitDefEqProofs [go_sem,QDT]
end Go.Ab
namespace Go.Ab
open Go Go.Proofs
def QJg (f:UInt8 → UInt8 → UInt8):List UInt8 → List UInt8
 | c :: a :: b :: r=>if c = 95 then f a b :: QJg f r else c :: QJg f (a :: b :: r)
 | l=>l
theorem QPH (f:UInt8 → UInt8 → UInt8) {c:UInt8} (h:c ≠ 95) (l:List UInt8):QJg f (c :: l) = c :: QJg f l:=by
 match l with
 | []=>rfl
 | [a]=>rfl
 | a :: b :: r=>rw [QJg,if_neg h]
theorem QJh (f:UInt8 → UInt8 → UInt8) (hf:∀ c:UInt8,f (QFK (c.toNat / 16)) (QFK (c.toNat % 16)) = c) (u:List UInt8):QJg f (QAw u) = u:=by
 induction u with
 | nil=>rfl
 | cons c u ih=>
  have e:QAw (c :: u) = QIC c ++ QAw u:=by simp [QAw]
  rw [e]
  unfold QIC
  split
  ·rename_i h
   have hc:c ≠ 95:=fun e=>by rw [e] at h; revert h; decide
   rw [List.singleton_append,QPH f hc,ih]
  ·show QJg f (95 :: QFK (c.toNat / 16) :: QFK (c.toNat % 16) :: QAw u) = c :: u
   rw [QJg,if_pos rfl,ih,hf]
end Go.Ab
