/- The reader: ParseInt, line, list, number. -/
import Derived.Test.YtpknaffdaemlbaaGreatDoorW6
set_option maxRecDepth 20000
namespace Go.Ab
open Go Go.Proofs
theorem QKu (fn s:List UInt8) (base bits k:Int) (hl:s.length < 4294967281) (hk:k = 1 ∨ k = 2):ACalls Tryz.prog 194 [.str fn,.str s,.int .i64 base,.int .i64 bits,.raw (.iface 240 (.int .i64 k))] [] .ifc []:=by
 refine .of_below (by kernel_rfl) fun c vs hv hg=>?_
 simp only [QAo,Val] at hv
 obtain ⟨v,vs',rfl,rfl,v2,vs2,rfl,rfl,v3,vs3,rfl,rfl,v4,vs4,rfl,rfl,v5,vs5,rfl,rfl,rfl⟩:=hv
 obtain ⟨_,_,⟨t,p,h2⟩,⟨t',p',h3⟩,_⟩:=hg
 have hs:(ByteArray.mk s.toArray).size ≤ 281474976710656:=by show s.length ≤ _; omega
 rcases hk with rfl | rfl
 ·refine (Tryz.strconv_toError_range ⟨fn.toArray⟩ ⟨s.toArray⟩ base bits _ c.w hs h3 (.inr ⟨t',p',rfl⟩)).mono fun e w' h=>?_
  obtain ⟨N,rfl,h4,h5,h6⟩:=h
  exact ⟨_,rfl,h6,fun c'=>by simp [Val]⟩
 ·refine (Tryz.strconv_toError_syntax ⟨fn.toArray⟩ ⟨s.toArray⟩ base bits _ c.w hs h2 (.inr ⟨t,p,rfl⟩)).mono fun e w' h=>?_
  obtain ⟨N,rfl,h4,h5,h6⟩:=h
  exact ⟨_,rfl,h6,fun c'=>by simp [Val]⟩
def ppR (b:Nat) (s:List UInt8) (av:AV) (H:List AObj):Prop:=H = [] ∧ ∃ n e,av = .tup [.int .i64 n,e] ∧
 (e = .raw .nilIface ∨ e = .ifc) ∧ (∀ m:Int,m.natAbs < b ^ 10 → s = QBA b m → n = m ∧ e = .raw .nilIface)
theorem QMc (b:Nat) (s:List UInt8) (hl:s.length < 4294967281) (hb:b = 8 ∨ b = 10):ACallsR Tryz.prog 159 [.str s,.int .i64 b,.int .i64 64] [] (ppR b s):=by
 have key:ACallsR Tryz.prog 193 [.str s,.int .i64 b,.int .i64 64] [] (piR b s):=by
  rcases hb with rfl | rfl
  ·exact QLK s hl
  ·exact QKC s hl
 refine QC0 (ppR b s) 0 c159_ok ?_
 unfold c159
 simp +decide -dsimp -implicitDefEqProofs [go_sem]
 refine QB0 key rfl (fun v G ⟨h1,n,e,h2,he,_⟩=>⟨by subst h2; rcases he with rfl | rfl | rfl <;> rfl,h1⟩) ?_
 rintro _ ⟨_,n,e,rfl,he,hv⟩
 rcases he with rfl | rfl | rfl
 ·simp +decide -dsimp -implicitDefEqProofs [go_sem]
  refine QAT (.tup [.int .i64 n,.raw .nilIface]) [] ⟨rfl,n,_,rfl,.inl rfl,hv⟩ rfl ?_
  simp +decide -dsimp -implicitDefEqProofs [go_sem]
 ·simp +decide -dsimp -implicitDefEqProofs [go_sem]
  refine QAA (QKu _ s b 64 1 hl (.inl rfl)) rfl rfl ?_
  simp +decide -dsimp -implicitDefEqProofs [go_sem]
  refine QAT (.tup [.int .i64 n,.ifc]) [] ⟨rfl,n,_,rfl,.inr rfl,fun m hm hs=>by have:=(hv m hm hs).2; simp at this⟩ rfl ?_
  simp +decide -dsimp -implicitDefEqProofs [go_sem]
 ·simp +decide -dsimp -implicitDefEqProofs [go_sem]
  refine QAA (QKu _ s b 64 2 hl (.inr rfl)) rfl rfl ?_
  simp +decide -dsimp -implicitDefEqProofs [go_sem]
  refine QAT (.tup [.int .i64 n,.ifc]) [] ⟨rfl,n,_,rfl,.inr rfl,fun m hm hs=>by have:=(hv m hm hs).2; simp at this⟩ rfl ?_
  simp +decide -dsimp -implicitDefEqProofs [go_sem]

/-! ### strings.Cut at one byte -/
def QNL (c:UInt8) (s:List UInt8):AV:=match QKI c s with | some p=>.tup [.str p.1,.str p.2,.bool true] | none=>.tup [.str s,.str [],.bool false]
theorem QUE (c:UInt8) (s:List UInt8):Lib.cut s [c] = match QKI c s with | some p=>(p.1,p.2,true) | none=>(s,[],false):=by
 rcases QD5 c s with ⟨h1,h2⟩ | ⟨a,b,h1,h2,h3⟩
 ·have hi:Lib.index s [c] = -1:=by rw [QEe,h1]
  rw [QKJ h2]
  simp [Lib.cut,hi]
 ·have hi:Lib.index s [c] = (a.length:Nat):=by rw [QEe,h3]
  have hne:¬ ((a.length:Nat):Int) = -1:=by omega
  subst h1
  rw [QG0 h2]
  simp [Lib.cut,hi]
theorem QRe (s:List UInt8) (c:UInt8) (hl:s.length < 4294967281):ACalls Tryz.prog 124 [.str s,.str [c]] [] (QNL c s) []:=by
 refine .of_below (by kernel_rfl) fun cx vs hv hg=>?_
 simp only [QAo,Val] at hv
 obtain ⟨v,vs',rfl,rfl,v2,vs2,rfl,rfl,rfl⟩:=hv
 obtain ⟨⟨m,hm⟩,_⟩:=hg
 refine (Tryz.strings_Cut ⟨s.toArray⟩ ⟨#[c]⟩ m cx.w hl hm).mono fun e w' h=>?_
 obtain ⟨rfl,n,rfl⟩:=h
 refine ⟨_,rfl,⟨rfl,rfl,rfl,by simp,fun b hb=>by simp⟩,fun c'=>?_⟩
 have e:Lib.cut (ByteArray.mk s.toArray).data.toList (ByteArray.mk #[c]).data.toList = Lib.cut s [c]:=by simp
 rw [e,QUE,QNL]
 split <;> simp only [Val,QAo] <;> exact ⟨_,rfl,_,_,rfl,by simp,_,_,rfl,by simp,_,_,rfl,by simp,rfl⟩

def rdO (s:List UInt8) (k:Nat):AObj:=.box 170 [.str s,.int .i64 k]
theorem QRf (is:List Nat) (s:List UInt8) (k:Nat):QBC is (rdO s k) = rdO s k:=by simp [rdO,QBC,QDB,ren]
end Go.Ab
namespace Go.Ab
open Go Go.Proofs
def rdR (s r:List UInt8):AObj:=rdO s (s.length - r.length)
theorem QBB (is:List Nat) (s r:List UInt8):QBC is (rdR s r) = rdR s r:=QRf _ _ _
theorem QPI {r s:List UInt8} (h:r <:+ s):s.drop (s.length - r.length) = r:=(List.suffix_iff_eq_drop.1 h).symm
theorem QEH {r s:List UInt8} (h:r <:+ s):r.length ≤ s.length:=h.length_le
theorem QUF (s r:List UInt8) (h:r <:+ s):ACalls Tryz.prog 158 [.ptr 0 0] [rdR s r] (.str r) [rdR s r]:=by
 refine QAF c158_ok rfl ?_
 unfold c158 rdR rdO
 have h1:=QPI h
 have h2:=QEH h
 have h3:((s.length:Int) - r.length).toNat = s.length - r.length:=by omega
 have h4:((s.length - r.length:Nat):Int) = (s.length:Int) - r.length:=by omega
 have e1:s.length - r.length ≤ s.length:=by omega
 simp +decide -dsimp -implicitDefEqProofs [go_sem,h1,e1]
theorem QEI {b:UInt8} {r s:List UInt8} {p:List UInt8 × List UInt8} (h:QDX b r = some p) (hs:r <:+ s):p.2 <:+ s ∧ p.1.length + p.2.length + 3 = r.length:=by
 unfold QDX at h
 split at h
 ·rename_i q hq
  obtain ⟨h1,_⟩:=QDh (a:=q.1) (b:=q.2) hq
  split at h
  ·rename_i hp
   cases h
   have hl:=(List.isPrefixOf_iff_prefix.1 hp).length_le
   simp only [List.length_cons,List.length_nil] at hl
   refine ⟨List.IsSuffix.trans ⟨q.1 ++ [10],by rw [h1]; simp⟩ hs,?_⟩
   rw [h1]; simp; omega
  ·cases h
 ·cases h
theorem QDZ {b:UInt8} {r s:List UInt8} (hs:r <:+ s):(QBL b r).2 <:+ s:=by
 unfold QBL; split
 ·rename_i p hp; exact (QEI hp hs).1
 ·exact hs
set_option maxHeartbeats 1000000 in
theorem QID (s r:List UInt8) (b:UInt8) (h:r <:+ s) (hl:s.length < 4294967281):
  ACalls Tryz.prog 121 [.ptr 0 0,.int .u8 b.toNat] [rdR s r] (.tup [.str (QBL b r).1,.bool (QDX b r).isSome]) [rdR s (QBL b r).2]:=by
 refine QAF c121_ok rfl ?_
 unfold c121
 have hr:=QUF s r h
 have hrl:=QEH h
 have hcut:=QRe r 10 (by omega)
 have hub:unb [[AV.int .u8 b.toNat],[AV.int .u8 58]] = some [b,58]:=QGA [b,58]
 have hcl:QAM 0 (QNL 10 r) = true:=by unfold QNL; split <;> simp [go_sem]
 have hL:rdR s r = .box 170 [.str s,.int .i64 ((s.length - r.length:Nat):Int)]:=rfl
 simp +decide -dsimp -implicitDefEqProofs [go_sem,rdR,rdO]
 refine QBi (hr) ?_
 simp +decide -dsimp -implicitDefEqProofs [go_sem]
 refine QAA hcut rfl hcl ?_
 unfold QNL
 cases hc:QKI 10 r with
 | none=>
  have e1:QDX b r = none:=by rw [QDX,hc]
  have e2:QBL b r = ([],r):=by rw [QBL,e1]
  rw [e1,e2]
  simp +decide -dsimp -implicitDefEqProofs [go_sem,hub]
  refine QAA (QE9 r [b,58] (by simp)) rfl rfl ?_
  simp +decide -dsimp -implicitDefEqProofs [go_sem,rdR,rdO]
 | some p=>
  obtain ⟨h1,h2⟩:=QDh (a:=p.1) (b:=p.2) hc
  simp +decide -dsimp -implicitDefEqProofs [go_sem,hub]
  refine QAA (QE9 p.1 [b,58] (by simp)) rfl rfl ?_
  by_cases hp:[b,58].isPrefixOf p.1 = true
  ·have e1:QDX b r = some (p.1.drop 2,p.2):=by rw [QDX,hc]; simp only [hp,if_true]
   have e2:QBL b r = (p.1.drop 2,p.2):=by rw [QBL,e1]
   have e3:QHR p.1 [b,58] = p.1.drop 2:=by simp only [QHR,hp,if_true]; rfl
   have hlen:p.1.length + p.2.length + 1 = r.length:=by rw [h1]; simp; omega
   have w1:IntKind.i64.wrap ((p.1.length:Int) + 1) = p.1.length + 1:=w64 (by omega) (by omega)
   have w2:IntKind.i64.wrap (((s.length - r.length:Nat):Int) + ((p.1.length:Int) + 1)) = ((s.length - p.2.length:Nat):Int):=by rw [w64 (by omega) (by omega)]; omega
   rw [e1,e2,e3]
   simp +decide -dsimp -implicitDefEqProofs [go_sem,hp,w1,w2,rdR,rdO]
  ·have e1:QDX b r = none:=by rw [QDX,hc]; simp only [hp]; rfl
   have e2:QBL b r = ([],r):=by rw [QBL,e1]
   rw [e1,e2]
   simp only [Bool.not_eq_true] at hp
   simp +decide -dsimp -implicitDefEqProofs [go_sem,hp,rdR,rdO]
end Go.Ab
namespace Go.Ab
open Go Go.Proofs
theorem QC5 (k:Nat) (s:List UInt8):QAS k (QAf s) = true:=by simp [QAf,QAS,QAM]
def numR (b:Nat) (s:List UInt8) (p:List UInt8 × List UInt8) (av:AV) (G:List AObj):Prop:=∃ n:Int,av = .int .i64 n ∧ (∀ m:Int,m.natAbs < b ^ 10 → p.1 = QBA b m → n = m) ∧ (p.1 = [] → n = 0) ∧ G = [rdR s p.2]
theorem QG7 (s r:List UInt8) (L:UInt8) (b:Nat) (hb:b = 8 ∨ b = 10) (h:r <:+ s) (hl:s.length < 4294967281):
  ACallsR Tryz.prog 122 [.ptr 0 0,.int .u8 L.toNat,.int .i64 b] [rdR s r] (numR b s (QBL L r)):=by
 have hlen:(QBL L r).1.length < 4294967281:=by
  unfold QBL; split
  ·rename_i p hp
   have:=(QEI hp h).2
   have:=QEH h
   omega
  ·simp
 have hc1:=QID s r L h hl
 by_cases h0:(QBL L r).1 = []
 ·-- no text: a syntax error
  have key:∃ e,(e = AV.raw .nilIface ∨ e = .ifc) ∧ ACalls Tryz.prog 159 [.str [],.int .i64 b,.int .i64 64] [] (.tup [.int .i64 0,.ifc]) []:=by
   have h109:ACalls Tryz.prog 193 [.str [],.int .i64 b,.int .i64 64] [] (.tup [.int .i64 0,.raw (.iface 240 (.int .i64 2))]) []:=by
    refine QAF c193_ok rfl ?_
    unfold c193
    simp +decide -dsimp -implicitDefEqProofs [go_sem]
   refine ⟨.ifc,.inr rfl,?_⟩
   refine QAF c159_ok rfl ?_
   unfold c159
   simp +decide -dsimp -implicitDefEqProofs [go_sem]
   refine QAA h109 rfl rfl ?_
   simp +decide -dsimp -implicitDefEqProofs [go_sem]
   refine QAA (QKu _ [] b 64 2 (by simp) (.inr rfl)) rfl rfl ?_
   simp +decide -dsimp -implicitDefEqProofs [go_sem]
  obtain ⟨_,_,h85⟩:=key
  have hc:ACalls Tryz.prog 122 [.ptr 0 0,.int .u8 L.toNat,.int .i64 b] [rdR s r] (.int .i64 0) [rdR s (QBL L r).2]:=by
   rw [h0] at hc1
   refine QAF c122_ok rfl ?_
   unfold c122
   simp +decide -dsimp -implicitDefEqProofs [go_sem]
   refine QBi hc1 ?_
   simp +decide -dsimp -implicitDefEqProofs [go_sem]
   refine QAA h85 rfl rfl ?_
   simp +decide -dsimp -implicitDefEqProofs [go_sem,rdR,rdO]
  refine hc.toR.mono fun v G ⟨e1,e2⟩=>⟨0,e1,fun m _ hs=>?_,fun _=>rfl,e2⟩
  rw [h0] at hs
  exact (QEr (by omega) (by omega) m hs.symm).elim
 ·refine QC0 (numR b s (QBL L r)) 0 c122_ok ?_
  unfold c122
  simp +decide -dsimp -implicitDefEqProofs [go_sem]
  refine QBi hc1 ?_
  simp +decide -dsimp -implicitDefEqProofs [go_sem]
  refine QB0 (QMc b (QBL L r).1 hlen hb) rfl (fun v G ⟨h1,n,e,h2,he,_⟩=>⟨by subst h2; rcases he with rfl | rfl <;> rfl,h1⟩) ?_
  rintro _ ⟨_,n,e,rfl,he,hv⟩
  rcases he with rfl | rfl
  ·simp +decide -dsimp -implicitDefEqProofs [go_sem]
   refine QAT (.int .i64 n) [rdR s (QBL L r).2] ⟨n,rfl,fun m hm hs=>(hv m hm hs).1,fun h=>(h0 h).elim,rfl⟩ rfl ?_
   simp +decide -dsimp -implicitDefEqProofs [go_sem,rdR,rdO]
  ·simp +decide -dsimp -implicitDefEqProofs [go_sem]
   refine QAT (.int .i64 0) [rdR s (QBL L r).2] ⟨0,rfl,fun m hm hs=>by have:=(hv m hm hs).2; simp at this,fun _=>rfl,rfl⟩ rfl ?_
   simp +decide -dsimp -implicitDefEqProofs [go_sem,rdR,rdO]

theorem QJi (s r:List UInt8) (L:UInt8) (h:r <:+ s) (hl:s.length < 4294967281):
  ACalls Tryz.prog 123 [.ptr 0 0,.int .u8 L.toNat] [rdR s r] (.imm ((QB5 L r).1.map QAf)) [rdR s (QB5 L r).2]:=by
 refine QAF c123_ok rfl ?_
 unfold c123
 simp +decide -dsimp -implicitDefEqProofs [go_sem]
 refine QAR (S:=List (List UInt8) × List UInt8) (fun t=>⟨tmps 21 [(0,.ptr 0 0),(1,.int .u8 L.toNat),(5,.own 1 t.1.length)],[rdR s t.2,.reg 9 1 (t.1.map QAf)]⟩) (fun t=>t.2.length)
  (fun t=>t.2 <:+ s ∧ QB5 L r = (t.1 ++ (QB5 L t.2).1,(QB5 L t.2).2) ∧ t.1.length + t.2.length ≤ s.length) ([],r) ⟨h,by simp,by have:=QEH h; simpa using this⟩ ((Wk.nilT 5 9 1 rfl (by simp)).trans (QAD (by simp) ?_)) ?_
 ·simp +decide -dsimp -implicitDefEqProofs [go_sem,rdR,rdO]
 rintro ⟨acc,q⟩ ⟨h1,h2,h3⟩
 simp only at h1 h2 h3
 have hc:=QID s q L h1 hl
 simp +decide -dsimp -implicitDefEqProofs [go_sem]
 refine QAB [0] hc rfl rfl (by simp) (by simp +decide -dsimp -implicitDefEqProofs [go_sem]) (by simp +decide -dsimp -implicitDefEqProofs [go_sem,QBB]) ?_
 cases hp:QDX L q with
 | none=>
  have e1:QBL L q = ([],q):=by rw [QBL,hp]
  have e2:QB5 L q = ([],q):=QGG hp
  rw [e2] at h2
  rw [h2,e1]
  simp +decide -dsimp -implicitDefEqProofs [go_sem,rdR,rdO]
 | some p=>
  have e1:QBL L q = p:=by rw [QBL,hp]
  have e2:=QGF hp
  have hsuf:=QEI hp h1
  rw [e1]
  simp +decide -dsimp -implicitDefEqProofs [go_sem,QBB,maxLen]
  refine ⟨⟨by omega,by omega⟩,?_⟩
  have e3:List.map QAf acc ++ [[AV.str p.1]] = (acc ++ [p.1]).map QAf:=by simp [QAf]
  rw [e3]
  refine QAI (acc ++ [p.1],p.2) ⟨hsuf.1,by rw [h2,e2]; simp,by simp; omega⟩ (by show p.2.length < q.length; omega) (QAD (by simp) ?_)
  simp +decide -dsimp -implicitDefEqProofs [go_sem,rdR,rdO,QC5]
end Go.Ab
