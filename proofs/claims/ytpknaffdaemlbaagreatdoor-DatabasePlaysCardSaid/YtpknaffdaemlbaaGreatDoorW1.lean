/- What holds of every world that the database laws meet: facts of the library's tables and variables. -/
import Derived.Test.YtpknaffdaemlbaaGreatDoorA5
import Derived.Lib.LaidTab
import Derived.Lib.ItoaNum
import Derived.Test.YtpknaffdaemlbaaGreatDoorProg
import Derived.Test.YtpknaffdaemlbaaGreatDoorC1
import Derived.Lib.Builder
import Derived.WalkKit
import Derived.Laws.Externs
import Derived.Test.YtpknaffdaemlbaaGreatDoorC2
import Derived.Below
set_option maxRecDepth 100000
set_option maxHeartbeats 1000000
namespace Go.Ab
open Go Go.Proofs

def GOk (w:World):Prop:=
 (∃ m,w.cell? ⟨0,0,none⟩ = some (.int .i64 m)) ∧ Lib.TabIs Tryz.prog w "internal/strconv.uint64pow10" .u64 Lib.pow10Tab ∧
  (∃ t p,w.cell? ⟨2,0,none⟩ = some (.iface t p)) ∧ (∃ t p,w.cell? ⟨3,0,none⟩ = some (.iface t p)) ∧ w.cell? ⟨6,7,none⟩ = some (.int .u8 3)

theorem QMe {P:Program} {n:String} {B g:Nat} {w w':World} (hg:P.globalNamed n = some g) (hB:g < B) (h:∀ b,b < B → w'.heap[b]? = w.heap[b]?):w'.var? P n = w.var? P n:=by
 simp only [World.var?,hg,Option.bind_some,h g hB]

theorem QLo:Tryz.prog.globalNamed "internal/strconv.uint64pow10" = some 1:=by kernel_rfl
theorem QDv {B b off:Nat} {w w':World} (hB:b < B) (h:∀ b,b < B → w'.heap[b]? = w.heap[b]?):w'.cell? ⟨b,off,none⟩ = w.cell? ⟨b,off,none⟩:=by
 simp only [World.cell?,h b hB]

noncomputable instance gi:Glob where
 ok:=GOk
 bound:=9
 stable:=fun {w w'} h k=>by
  obtain ⟨⟨m,h1⟩,h2,⟨t,p,h3⟩,⟨t',p',h4⟩,h5⟩:=h
  refine ⟨⟨m,?_⟩,?_,⟨t,p,?_⟩,⟨t',p',?_⟩,?_⟩
  ·rw [QDv (B:=9) (by decide) k]; exact h1
  ·unfold Lib.TabIs at h2 ⊢; rw [QMe QLo (by decide) k]; exact h2
  ·rw [QDv (B:=9) (by decide) k]; exact h3
  ·rw [QDv (B:=9) (by decide) k]; exact h4
  ·rw [QDv (B:=9) (by decide) k]; exact h5

end Go.Ab
namespace Go.Ab
open Go Go.Proofs

theorem QRj (b:Nat) (w:World) (h0:w.cell? ⟨b,0,none⟩ = some (.pointer (some ⟨b,0,none⟩))):
  Calls Tryz.prog 92 #[.pointer (some ⟨b,0,none⟩)] w fun e w'=>e = .returned (.tuple #[]) ∧ w' = w:=by
 have u60:=run_underlying Tryz.underlying102
 have u62:=run_underlying Tryz.underlying104
 have u121:=run_underlying Tryz.underlying178
 have hj:Tryz.prog.info? 104 = some ((Tryz.prog.info? 104).getD default):=by kernel_rfl
 go_enter Tryz.func92,Tryz.ntmps92
 go_wp2
 rw [Lib.run_neq_ptr_same w _ Tryz.underlying102 hj]
 go_wp2
 go_end0
 exact ⟨rfl,rfl⟩

theorem QPN (b:Nat) (w:World) (h0:w.cell? ⟨b,0,none⟩ = some (.pointer none)) (hsh:w.shape? b = some (116,2)) (hfz:w.frozen? ⟨b,0,none⟩ = false):
  Calls Tryz.prog 92 #[.pointer (some ⟨b,0,none⟩)] w fun e w'=>e = .returned (.tuple #[]) ∧ w' = w.setCell ⟨b,0,none⟩ (.pointer (some ⟨b,0,none⟩)):=by
 have u60:=run_underlying Tryz.underlying102
 have u62:=run_underlying Tryz.underlying104
 have u121:=run_underlying Tryz.underlying178
 have hj:Tryz.prog.info? 104 = some ((Tryz.prog.info? 104).getD default):=by kernel_rfl
 have hjs:((Tryz.prog.info? 104).getD default).size = 2:=by kernel_rfl
 go_enter Tryz.func92,Tryz.ntmps92
 go_wp2
 rw [Lib.run_to_unsafe w ⟨b,0,none⟩ Tryz.underlying102 Tryz.underlying178 hj (by rw [hjs]; decide) hsh (Nat.zero_lt_succ 1)]
 simp only [Result.andThen]
 rw [Oper.upon_value]
 go_wp2
 rw [run_callFunc_extern Tryz.func127 (by kernel_rfl) (by kernel_rfl) (by kernel_rfl) (e:=Extern.AbiNoEscape.same) (by kernel_rfl)]
 rw [Lib.run_noEscape]
 simp only [Result.andThen]
 rw [Oper.upon_value]
 go_wp2
 rw [Lib.run_from_unsafe w ⟨b,0,none⟩ Tryz.underlying178 Tryz.underlying102 hj hsh (by kernel_rfl)]
 simp only [Result.andThen]
 rw [Oper.upon_value]
 go_wp2
 go_end0
 exact ⟨rfl,rfl⟩
end Go.Ab
namespace Go.Ab
open Go Go.Proofs

theorem QKy (w:World) (b:Nat) (v:Value) (arr:Array Value) (e:TypeId) (fr:Nat × Nat) (h:w.heap[b]? = some (.cells arr e fr)):(w.setCell ⟨b,0,none⟩ v).heap[b]? = some (.cells (arr.setIfInBounds 0 v) e fr):=by
 have hlt:=(Array.getElem?_eq_some_iff.1 h).1
 have h':=(Array.getElem?_eq_some_iff.1 h).2
 simp only [World.setCell]
 rw [Array.getElem?_eq_getElem (by simpa using hlt),Array.getElem_modify_self]
 simp [h']
theorem QH4 (w:World) (b i:Nat) (v:Value) (h:i ≠ b):(w.setCell ⟨b,0,none⟩ v).heap[i]? = w.heap[i]?:=by
 simp only [World.setCell,Array.getElem?_modify]
 rw [if_neg (fun e=>h e.symm)]

theorem QLp:QE2 Tryz.prog 92 = true:=by kernel_rfl

theorem QH5 {H:List AObj} {xs:List AV} (h0:H[0]? = some (.box 116 (.ptr 0 0 :: xs))):ACalls Tryz.prog 92 [.ptr 0 0] H (.tup []) H:=by
 refine ⟨QLp,fun c vs hH hr hv=>?_⟩
 simp only [QAo,Val] at hv
 obtain ⟨v,vs',rfl,⟨e,cs,b,h1,h2,rfl⟩,rfl⟩:=hv
 subst hH
 obtain ⟨b',arr,h3,h4,h5,h6⟩:=hr.obj _ _ h0
 rw [h2] at h3; simp at h3; subst h3
 simp only [QA6,Val] at h6
 obtain ⟨⟨v,h7,_,e',cs',b2,_,h8,rfl⟩,_⟩:=h6
 rw [h2] at h8; simp at h8; subst h8
 refine (QRj b c.w h7).mono fun e w' hq=>?_
 obtain ⟨rfl,rfl⟩:=hq
 exact ⟨_,c,rfl,rfl,rfl,hr,.refl c,by simp only [Val,QAo]; exact ⟨#[],rfl,rfl⟩⟩

theorem QG9 {H:List AObj} {x:AV} (h0:H[0]? = some (.box 116 [.nilp,x])):ACalls Tryz.prog 92 [.ptr 0 0] H (.tup []) (H.set 0 (.box 116 [.ptr 0 0,x])):=by
 refine ⟨QLp,fun c vs hH hr hv=>?_⟩
 simp only [QAo,Val] at hv
 obtain ⟨v,vs',rfl,⟨e,cs,b,h1,h2,rfl⟩,rfl⟩:=hv
 subst hH
 obtain ⟨b',arr,h3,h4,h5,h6⟩:=hr.obj _ _ h0
 rw [h2] at h3; simp at h3; subst h3
 have h6':=h6
 simp only [QA6,Val] at h6
 obtain ⟨⟨v,h7,_,rfl⟩,⟨u,h8,h9,h10⟩,_⟩:=h6
 have hsz:arr.size = 2:=by simpa using h5
 have hlt:0 < c.H.length:=(List.getElem?_eq_some_iff.1 h0).1
 refine (QPN b c.w h7 (by simp [World.shape?,h4,hsz]) (by simp [World.frozen?,h4])).mono fun e w' hq=>?_
 obtain ⟨rfl,rfl⟩:=hq
 have hat:=QKy c.w b (.pointer (some ⟨b,0,none⟩)) arr 116 (0,0) h4
 have hN:=QCT hr (o:=0) (x':=.box 116 [.ptr 0 0,x]) (v':=.pointer (some ⟨b,0,none⟩)) (F':=c.F) (w':=c.w.setCell ⟨b,0,none⟩ (.pointer (some ⟨b,0,none⟩))) h0 (by simp only [OStep]; exact ⟨trivial,h2.symm⟩) (fun _ h=>h) (fun _ h=>.inl h)
  (fun i _ hi=>QH4 c.w b i _ fun e=>hi ⟨_,_,h0,rfl,h2,by simp [blk,e]⟩) (by simp [World.setCell]) rfl rfl rfl (fun i _ hi=>.inr ⟨_,_,h0,rfl,h2,hi⟩) (fun hE=>by
   refine ⟨b,_,set_getElem?_self h2,hat,by simpa using h5,?_⟩
   simp only [QA6,Val]
   refine ⟨⟨_,?_,rfl,116,_,b,set_getElem?_self h0,set_getElem?_self h2,rfl⟩,⟨u,?_,h9,QBe (hE.vext hr) _ _ h10⟩,trivial⟩
   ·simp [World.cell?,hat,hsz]
   ·have h11:c.w.cell? ⟨b,0 + 1,none⟩ = some u:=h8
    simp [World.cell?,h4] at h11
    simp [World.cell?,hat,h11])
 exact ⟨_,_,rfl,rfl,rfl,hN.1,hN.2,by simp only [Val,QAo]; exact ⟨#[],rfl,rfl⟩⟩

def bld (l:List UInt8):List AObj:=[.box 116 [.ptr 0 0,.own 1 l.length],.reg 5 1 (l.map QCX)]
def QWC:List AObj:=[.box 116 [.nilp,.own 1 0],.reg 5 1 []]
def QJm (H:List AObj) (l:List UInt8):Prop:=H = bld l ∨ (l = [] ∧ H = QWC)

theorem QHA {H:List AObj} {l:List UInt8} (h:QJm H l):ACalls Tryz.prog 92 [.ptr 0 0] H (.tup []) (bld l):=by
 rcases h with rfl | ⟨rfl,rfl⟩
 ·exact QH5 (xs:=[.own 1 l.length]) rfl
 ·exact QG9 (H:=QWC) (x:=.own 1 0) rfl

end Go.Ab
namespace Go.Ab
open Go Go.Proofs

@[go_sem] theorem QDT (k:Nat) (s:List UInt8):QAV k (s.map QCX) = true:=QAa fun x _=>by simp [QCX,QAS,QAM]
@[go_sem] theorem QRk (is:List Nat) (s:List UInt8):QA4 is (s.map QCX) = s.map QCX:=by
 induction s with
 | nil=>rfl
 | cons x r ih=>simp [QA4,ih,QCX,QDB,ren]
@[go_sem] theorem QUJ (s:List UInt8):unb (s.map QCX) = some s:=QGA s
theorem QFN {H:List AObj} {l:List UInt8} (hb:QJm H l) (s:List UInt8) (hs:l.length + s.length ≤ 1000000000):
  ACalls Tryz.prog 56 [.ptr 0 0,.str s] H (.tup [.int .i64 s.length,.raw .nilIface]) (bld (l ++ s)):=by
 refine QAF c56_ok (by rcases hb with rfl | ⟨rfl,rfl⟩ <;> rfl) ?_
 unfold c56
 simp +decide -dsimp -implicitDefEqProofs [go_sem]
 refine QBi (QHA hb) ?_
 have hl:H.length = 2:=by rcases hb with rfl | ⟨rfl,rfl⟩ <;> rfl
 unfold bld
 simp +decide -dsimp -implicitDefEqProofs [go_sem,maxLen,hl]
 omega

theorem QKz {H:List AObj} {l:List UInt8} (hb:QJm H l) (b:UInt8) (hs:l.length + 1 ≤ 1000000000):
  ACalls Tryz.prog 111 [.ptr 0 0,.int .u8 b.toNat] H (.raw .nilIface) (bld (l ++ [b])):=by
 refine QAF c111_ok (by rcases hb with rfl | ⟨rfl,rfl⟩ <;> rfl) ?_
 unfold c111
 simp +decide -dsimp -implicitDefEqProofs [go_sem]
 refine QBi (QHA hb) ?_
 have hl:H.length = 2:=by rcases hb with rfl | ⟨rfl,rfl⟩ <;> rfl
 unfold bld
 simp +decide -dsimp -implicitDefEqProofs [go_sem,maxLen,hl,QCX]
 omega

def QWz (l:List UInt8):List AObj:=[.box 116 [.ptr 0 0,.own 1 l.length],.dead]
theorem QPO (l:List UInt8) (h0:l ≠ []):ACalls Tryz.prog 58 [.ptr 0 0] (bld l) (.str l) (QWz l):=by
 refine QAF c58_ok rfl ?_
 unfold c58 bld QWz
 simp +decide -dsimp -implicitDefEqProofs [go_sem,h0]

def QAf (s:List UInt8):List AV:=[.str s]
@[go_sem] theorem QBp (k:Nat) (s:List (List UInt8)):QAV k (s.map QAf) = true:=QAa fun x _=>by simp [QAf,QAS,QAM]
@[go_sem] theorem QBg (is:List Nat) (s:List (List UInt8)):QA4 is (s.map QAf) = s.map QAf:=by
 induction s with
 | nil=>rfl
 | cons x r ih=>simp [QA4,ih,QAf,QDB,ren]

@[go_sem] theorem QWD (s:List UInt8):(QAf s).length = 1:=rfl
@[go_sem ↓] theorem QWE (s:List UInt8) (K:AV → Prop):ldK none (QAf s) K = K (.str s):=rfl
@[go_sem] theorem QWF (s:UInt8):(QCX s).length = 1:=rfl
@[go_sem ↓] theorem QWG (s:UInt8) (K:AV → Prop):ldK none (QCX s) K = K (.int .u8 s.toNat):=rfl

def QBT (b:UInt8) (s:List UInt8):List UInt8:=b :: 58 :: s ++ [10]
def QAQ (b:UInt8) (l:List (List UInt8)):List UInt8:=l.flatMap (QBT b)

theorem QCd {b:UInt8} {l:List (List UInt8)} {i:Nat} (h:i < l.length):QAQ b (l.take (i + 1)) = QAQ b (l.take i) ++ QBT b l[i]:=by
 rw [QAQ,List.take_succ_eq_append_getElem h,List.flatMap_append]; simp [QAQ]
theorem QJn {b:UInt8} {l:List (List UInt8)} (i:Nat):(QAQ b (l.take i)).length ≤ (QAQ b l).length:=by
 have:QAQ b l = QAQ b (l.take i) ++ QAQ b (l.drop i):=by rw [QAQ,QAQ,QAQ,← List.flatMap_append,List.take_append_drop]
 rw [this]; simp

theorem QK0 {H:List AObj} {l:List UInt8} (hb:QJm H l) (b:UInt8) (ts:List (List UInt8)) (hne:ts ≠ [] ∨ H = bld l) (hn:ts.length ≤ 1000000) (hs:l.length + (QAQ b ts).length ≤ 1000000000):
  ACalls Tryz.prog 63 [.ptr 0 0,.int .u8 b.toNat,.imm (ts.map QAf)] H (.tup []) (bld (l ++ QAQ b ts)):=by
 have hl:∀ {H:List AObj} {l:List UInt8},QJm H l → H.length = 2:=fun hb=>by rcases hb with rfl | ⟨rfl,rfl⟩ <;> rfl
 have hr:∀ {H:List AObj} {l:List UInt8},QJm H l → cvH H 2 H H:=fun hb=>by rcases hb with rfl | ⟨rfl,rfl⟩ <;> simp +decide [go_sem,bld,QWC]
 refine QAF c63_ok (by rw [hl hb]; rfl) ?_
 unfold c63
 simp +decide -dsimp -implicitDefEqProofs [go_sem]
 rw [hl hb]
 refine QAR (S:=Nat) (fun i=>⟨tmps 27 [(0,.ptr 0 0),(1,.int .u8 b.toNat),(8,.imm (ts.map QAf)),(9,.int .i64 ts.length),(10,.int .i64 i)],if i = 0 then H else bld (l ++ QAQ b (ts.take i))⟩) (fun i=>ts.length - i) (fun i=>i ≤ ts.length) 0 (by simp) ?_ ?_
 ·refine QAD (by simp [hl hb]) ?_
  simp only [if_true,hl hb]
  simp +decide -dsimp -implicitDefEqProofs [go_sem,hr hb]
 intro i hi
 have hbi:QJm (if i = 0 then H else bld (l ++ QAQ b (ts.take i))) (l ++ QAQ b (ts.take i)):=by
  by_cases h0:i = 0
  ·subst h0; simpa [QAQ] using hb
  ·rw [if_neg h0]; exact .inl rfl
 have hend:i = ts.length → (if i = 0 then H else bld (l ++ QAQ b (ts.take i))) = bld (l ++ QAQ b ts):=fun hi=>by
  subst hi
  by_cases h0:ts.length = 0
  ·have h1:ts = []:=List.eq_nil_of_length_eq_zero h0
   subst h1
   rcases hne with h | h
   ·exact (h rfl).elim
   ·simp [h,QAQ]
  ·rw [if_neg h0,List.take_length]
 generalize (if i = 0 then H else bld (l ++ QAQ b (ts.take i))) = Hi at hbi hend
 have hle:=QJn (b:=b) (l:=ts) (i + 1)
 by_cases h:i < ts.length
 ·have w:IntKind.i64.wrap ((i:Int) + 1) = i + 1:=w64 (by omega) (by omega)
  rw [QCd h] at hle
  simp only [List.length_append,QBT,List.length_cons,List.length_nil] at hle
  simp +decide -dsimp -implicitDefEqProofs [go_sem,h]
  refine QBi (QKz hbi b (by simp; omega)) ?_
  simp +decide -dsimp -implicitDefEqProofs [go_sem]
  refine ⟨by omega,by omega,?_⟩
  refine QBi (QFN (.inl rfl) (58 :: (ts[i] ++ [10])) (by simp; omega)) ?_
  simp +decide -dsimp -implicitDefEqProofs [go_sem,w]
  refine QAI (i + 1) (by omega) (by omega) (QAD (by simp [bld]) ?_)
  have e:l ++ (QAQ b (ts.take i) ++ b :: 58 :: (ts[i] ++ [10])) = l ++ QAQ b (ts.take (i + 1)):=by rw [QCd h]; simp [QBT]
  rw [e,if_neg (Nat.succ_ne_zero i)]
  simp +decide -dsimp -implicitDefEqProofs [go_sem,bld]
 ·have e:i = ts.length:=by omega
  have e2:=hend e
  subst e e2
  simp +decide -dsimp -implicitDefEqProofs [go_sem,bld]
end Go.Ab
namespace Go.Ab
open Go Go.Proofs

theorem QNV {f:Nat} {xs:List AV} {av:AV} (hb:QE2 Tryz.prog f = true) (h:∀ (c:Cx) (vs:List Value),QAo c xs vs → Glob.ok c.w → ∃ v,(Calls Tryz.prog f vs.toArray c.w fun e w'=>e = .returned v ∧ w' = c.w) ∧ ∀ c',Val c' av v):ACalls Tryz.prog f xs [] av []:=
 ACalls.of_below hb fun c vs hv hg=>by
  obtain ⟨v,h1,h2⟩:=h c vs hv hg
  refine h1.mono fun e w' hq=>?_
  obtain ⟨rfl,rfl⟩:=hq
  exact ⟨v,rfl,Go.RowKit.Below.refl _ _,h2⟩

end Go.Ab
namespace Go.Ab
open Go Go.Proofs
def fold (v n:Int):Int:=if n ≤ 1 then 0 else if v.tmod n < 0 then v.tmod n + n else v.tmod n

theorem QNW (v n:Int) (h:1 < n):-n < v.tmod n ∧ v.tmod n < n:=by
 rw [tmod_eq_if]
 have h1:=Int.emod_nonneg v (b:=n) (by omega)
 have h2:=Int.emod_lt_of_pos v (b:=n) (by omega)
 have h3:=Int.emod_nonneg (-v) (b:=n) (by omega)
 have h4:=Int.emod_lt_of_pos (-v) (b:=n) (by omega)
 split <;> omega

theorem QQu (v n:Int) (hn:n ≤ 9223372036854775807):ACalls Tryz.prog 26 [.int .i64 v,.int .i64 n] [] (.int .i64 (fold v n)) []:=by
 refine QAF c26_ok rfl ?_
 unfold c26
 simp only [fold]
 by_cases h1:n ≤ 1
 ·simp -dsimp -implicitDefEqProofs [go_sem,h1]
 have hb:=QNW v n (by omega)
 by_cases h2:v.tmod n < 0
 ·simp -dsimp -implicitDefEqProofs [go_sem,h1,h2,w64 (n:=v.tmod n + n) (by omega) (by omega)]; omega
 ·simp -dsimp -implicitDefEqProofs [go_sem,h1,h2]; omega

def QAK (l:List Int) (at_:Nat):AObj:=.box 25 [.imm (l.map fun v=>[.int .i64 v]),.int .i64 at_]
def QAZ (l:List Int) (at_:Nat):Int:=if h:at_ < l.length then l[at_] else ((at_:Int) * 7).tmod 11

theorem QBK (l:List Int) (k:Nat) (n:Int) (hk:k < 1000000000) (hn:n ≤ 9223372036854775807):
  ACalls Tryz.prog 13 [.ptr 0 0,.int .i64 n] [QAK l k] (.int .i64 (fold (QAZ l k) n)) [QAK l (k + 1)]:=by
 refine QAF c13_ok rfl ?_
 unfold c13 QAK QAZ
 have w1:IntKind.i64.wrap (↑k * 7) = ↑k * 7:=w64 (by omega) (by omega)
 have w2:IntKind.i64.wrap (↑k + 1) = ↑k + 1:=w64 (by omega) (by omega)
 by_cases h:k < l.length
 ·simp +decide -dsimp -implicitDefEqProofs [go_sem,h,w1,w2]
  refine QAA (QQu _ _ hn) (by simp [QAS,QAM]) rfl ?_
  simp +decide -dsimp -implicitDefEqProofs [go_sem,QAa]
 ·simp +decide -dsimp -implicitDefEqProofs [go_sem,h,w1,w2]
  refine QAA (QQu _ _ hn) (by simp [QAS,QAM]) rfl ?_
  simp +decide -dsimp -implicitDefEqProofs [go_sem,QAa]
end Go.Ab
namespace Go.Ab
open Go Go.Proofs
def bB (bs:List Bool):List AV:=bs.map .bool
theorem QEF (bs:List Bool):(bB bs).length = bs.length:=by simp [bB]
theorem QPP:zB = bB (List.replicate 256 false):=by rw [zB,bB,List.map_replicate]
theorem QHB (bs:List Bool) (n:Nat) (h:bs.length ≤ n):(bB bs).take n = bB bs:=by rw [List.take_of_length_le (by rw [QEF]; exact h)]
theorem QRl (bs:List Bool) (n:Nat) (h:n < bs.length):(bB bs).drop n = .bool bs[n] :: (bB bs).drop (n + 1):=by
 rw [List.drop_eq_getElem_cons (by rw [QEF]; exact h)]; simp [bB]
theorem QBN (k:Nat) (bs:List Bool):QAS k (bB bs) = true:=by
 induction bs with
 | nil=>rfl
 | cons b r ih=>simp only [bB,List.map_cons,QAS,QAM,Bool.true_and]; exact ih
theorem QEM (H:List AObj) (m:Nat) (bs:List Bool):cvT H m (bB bs) (bB bs):=by
 induction bs with
 | nil=>trivial
 | cons b r ih=>exact ⟨.inr (.inl ⟨rfl,rfl⟩),ih⟩
theorem QUK (bs:List Bool) (n:Nat) (b:Bool) (h:n < bs.length):(bB bs).take n ++ [.bool b] ++ (bB bs).drop (n + 1) = bB (bs.set n b):=by
 simp only [bB,← List.map_take,← List.map_drop]
 rw [List.set_eq_take_append_cons_drop,if_pos h]; simp
theorem QQv {bs:List Bool} {n:Nat} {K:AV → Prop} (h:n < bs.length):ldK none ((bB bs).drop n) K = K (.bool bs[n]):=by rw [QRl bs n h]; rfl
def QB3 (bs:List Bool) (s:List UInt8):List Bool:=s.foldl (fun b c=>b.set c.toNat true) bs
theorem QA0 (s:List UInt8):∀ bs:List Bool,(QB3 bs s).length = bs.length:=by
 induction s with
 | nil=>intro bs; rfl
 | cons c r ih=>intro bs; simp only [QB3,List.foldl_cons]; rw [← QB3,ih]; simp
theorem QMf {bs:List Bool} {s:List UInt8} {i:Nat} (h:i < s.length):QB3 bs (s.take (i + 1)) = (QB3 bs (s.take i)).set s[i].toNat true:=by
 rw [List.take_succ_eq_append_getElem h]; simp only [QB3,List.foldl_append,List.foldl_cons,List.foldl_nil]
theorem QCF (s:List UInt8):∀ (bs:List Bool) (c:UInt8),bs.length = 256 → (QB3 bs s)[c.toNat]? = some (bs[c.toNat]?.getD false || decide (c ∈ s)):=by
 induction s with
 | nil=>intro bs c h; have:=UInt8.toNat_lt c; simp [QB3,List.getElem?_eq_getElem (show c.toNat < bs.length by omega)]
 | cons d r ih=>
  intro bs c h
  simp only [QB3,List.foldl_cons]
  rw [← QB3,ih _ _ (by simpa using h)]
  have hl:=UInt8.toNat_lt c
  have hl:=UInt8.toNat_lt d
  by_cases hcd:d = c
  ·subst hcd; simp [show d.toNat < bs.length by omega]
  ·have:d.toNat ≠ c.toNat:=fun e=>hcd (UInt8.toNat_inj.1 e)
   have hcd':¬ c = d:=fun e=>hcd e.symm
   simp [List.getElem?_set_ne this,hcd']

theorem QEx (bs:List Bool) (s:List UInt8) (h256:bs.length = 256) (hl:s.length < 1000000000):
  ACalls Tryz.prog 143 [.agg (bB bs),.str s] [] (.agg (bB (QB3 bs s))) []:=by
 refine QAF c143_ok rfl ?_
 unfold c143
 simp +decide -dsimp -implicitDefEqProofs [go_sem]
 refine QAR (S:=Nat) (fun i=>⟨tmps 17 [(1,.str s),(2,.ptr 0 0),(4,.ptr 1 0),(7,.int .i64 s.length),(8,.int .i64 i)],[.box 194 (bB (QB3 bs (s.take i))),.box 194 zB]⟩) (fun i=>s.length - i) (fun i=>i ≤ s.length) 0 (by simp) (QAD (by simp) ?_) ?_
 ·simp +decide -dsimp -implicitDefEqProofs [go_sem,QB3,QEM,QPP]
 intro i hi
 have hp:(QB3 bs (s.take i)).length = 256:=by rw [QA0,h256]
 by_cases h:i < s.length
 ·have w:IntKind.i64.wrap ((i:Int) + 1) = i + 1:=w64 (by omega) (by omega)
  have hc:=UInt8.toNat_lt s[i]
  have e:=QUK (QB3 bs (s.take i)) s[i].toNat true (by omega)
  rw [← QMf h] at e
  simp only [List.append_assoc,List.cons_append,List.nil_append] at e
  simp +decide -dsimp -implicitDefEqProofs [go_sem,h,w,hp,QEF,hc,e]
  refine ⟨by omega,?_⟩
  refine QAI (i + 1) (by omega) (by omega) (QAD (by simp) ?_)
  simp +decide -dsimp -implicitDefEqProofs [go_sem,QEM,QPP]
 ·have e:i = s.length:=by omega
  subst e
  have t1:∀ bs:List Bool,bs.length = 256 → (bB bs).take 256 = bB bs:=fun bs h=>QHB bs 256 (by omega)
  have t2:∀ bs:List Bool,bs.length = 256 → (bB bs).drop 256 = []:=fun bs h=>List.drop_eq_nil_of_le (by rw [QEF]; omega)
  rw [List.take_length] at hp
  simp +decide -dsimp -implicitDefEqProofs [go_sem,hp,QEF,t1,t2,QPP,QEM]
theorem QQw (s:List UInt8):ACalls Tryz.prog 145 [.str s] [] (.bool (decide (s = [46] ∨ s = [46,46]))) []:=by
 refine QAF c145_ok rfl ?_
 unfold c145
 by_cases h1:s = [46]
 ·simp +decide -dsimp -implicitDefEqProofs [go_sem,h1]
 ·by_cases h2:s = [46,46]
  ·simp +decide -dsimp -implicitDefEqProofs [go_sem,h2]
  ·simp +decide -dsimp -implicitDefEqProofs [go_sem,h1,h2]

theorem QPQ (bs:List Bool) (s:List UInt8) (h256:bs.length = 256) (hl:s.length < 1000000000):
  ACalls Tryz.prog 144 [.agg (bB bs),.str s] [] (.bool (s.all fun c=>bs[c.toNat]?.getD false)) []:=by
 refine QAF c144_ok rfl ?_
 unfold c144
 simp +decide -dsimp -implicitDefEqProofs [go_sem]
 refine QAR (S:=Nat) (fun i=>⟨tmps 18 [(1,.str s),(2,.ptr 0 0),(7,.int .i64 s.length),(8,.int .i64 i)],[.box 194 (bB bs)]⟩) (fun i=>s.length - i) (fun i=>i ≤ s.length ∧ ∀ x ∈ s.take i,bs[x.toNat]?.getD false = true) 0 (by simp) (QAD (by simp) ?_) ?_
 ·simp +decide -dsimp -implicitDefEqProofs [go_sem,QEM]
 intro i hi
 by_cases h:i < s.length
 ·have w:IntKind.i64.wrap ((i:Int) + 1) = i + 1:=w64 (by omega) (by omega)
  have hc:=UInt8.toNat_lt s[i]
  have hc2:s[i].toNat < bs.length:=by omega
  by_cases hb:bs[s[i].toNat] = true
  ·simp +decide -dsimp -implicitDefEqProofs [go_sem,h,w,hc,hc2,QQv,hb]
   refine QAI (i + 1) ⟨by omega,fun x hx=>?_⟩ (by omega) (QAD (by simp) ?_)
   ·rw [List.take_succ_eq_append_getElem h] at hx
    rcases List.mem_append.1 hx with hx | hx
    ·exact hi.2 x hx
    ·simp at hx; subst hx; simp [hc2,hb]
   simp +decide -dsimp -implicitDefEqProofs [go_sem,QEM]
  ·simp +decide -dsimp -implicitDefEqProofs [go_sem,h,w,hc,hc2,QQv,hb]
   exact ⟨s[i],List.getElem_mem h,by simp [hc2,hb]⟩
 ·have e:i = s.length:=by omega
  have h2:=hi.2
  rw [e,List.take_length] at h2
  simp +decide -dsimp -implicitDefEqProofs [go_sem,h]
  intro x hx
  simpa using h2 x hx
theorem QNX (s:List UInt8) (hs:s.length ≤ 140737488355328) (ha:∀ b ∈ s,b.toNat < 128):ACalls Tryz.prog 179 [.str s] [] (.str (Lib.toLowerA s)) []:=by
 refine .of_below (by kernel_rfl) fun c vs hv _=>?_
 simp only [QAo,Val] at hv
 obtain ⟨v,vs',rfl,rfl,rfl⟩:=hv
 refine (Tryz.strings_ToLower_ascii ⟨s.toArray⟩ c.w (by simpa [ByteArray.size] using hs) (fun j b hj=>ha b (List.mem_of_getElem? (by simpa using hj)))).mono fun e w' h=>?_
 exact ⟨_,h.1,h.2,fun c'=>by simp only [Val]⟩

theorem QK1 (s:List UInt8) (b:UInt8):ACalls Tryz.prog 213 [.str s,.int .u8 b.toNat] [] (.int .i64 (Lib.indexByte s b)) []:=by
 refine .of_below (by kernel_rfl) fun c vs hv _=>?_
 simp only [QAo,Val] at hv
 obtain ⟨v,vs',rfl,rfl,v2,vs2,rfl,rfl,rfl⟩:=hv
 refine (Tryz.strings_IndexByte ⟨s.toArray⟩ b.toNat c.w).mono fun e w' h=>?_
 obtain ⟨h1,rfl⟩:=h
 refine ⟨_,h1,Go.RowKit.Below.refl _ _,fun c'=>?_⟩
 simp [Val]

theorem QFO (s:List UInt8) (b:UInt8):-1 ≤ Lib.indexByte s b ∧ (Lib.indexByte s b < 0 ↔ b ∉ s):=by
 induction s with
 | nil=>simp [Lib.indexByte]
 | cons x r ih=>
  simp only [Lib.indexByte,beq_iff_eq,List.mem_cons,not_or]
  by_cases h:x = b
  ·simp [h]
  ·have h':¬ b = x:=fun e=>h e.symm
   by_cases h2:Lib.indexByte r b = -1
   ·simp only [h,if_false,h2,if_true]; rw [h2] at ih; simp_all
   ·simp only [h,if_false,h2]
    refine ⟨by omega,?_⟩
    rw [← ih.2]; constructor
    ·intro h3; omega
    ·intro h3; omega

theorem QPR (s t:List UInt8) (hl:s.length < 1000000000):ACalls Tryz.prog 185 [.str s,.str t] [] (.bool (s.all fun c=>decide (c ∈ t))) []:=by
 refine QAF c185_ok rfl ?_
 unfold c185
 simp +decide -dsimp -implicitDefEqProofs [go_sem]
 refine QAR (S:=Nat) (fun i=>⟨tmps 18 [(0,.str s),(1,.str t),(5,.int .i64 i)],[]⟩) (fun i=>s.length - i) (fun i=>i ≤ s.length ∧ ∀ x ∈ s.take i,x ∈ t) 0 (by simp) (QAD (by simp) ?_) ?_
 ·simp +decide -dsimp -implicitDefEqProofs [go_sem]
 intro i hi
 by_cases h:i < s.length
 ·have w:IntKind.i64.wrap ((i:Int) + 1) = i + 1:=w64 (by omega) (by omega)
  have hn:=QFO t s[i]
  simp +decide -dsimp -implicitDefEqProofs [go_sem,h]
  refine QAA (QK1 t s[i]) rfl rfl ?_
  by_cases hb:s[i] ∈ t
  ·have h2:¬ Lib.indexByte t s[i] < 0:=fun e=>hn.2.1 e hb
   simp +decide -dsimp -implicitDefEqProofs [go_sem,h2,w]
   refine QAI (i + 1) ⟨by omega,fun x hx=>?_⟩ (by omega) (QAD (by simp) ?_)
   ·rw [List.take_succ_eq_append_getElem h] at hx
    rcases List.mem_append.1 hx with hx | hx
    ·exact hi.2 x hx
    ·simp at hx; subst hx; exact hb
   simp +decide -dsimp -implicitDefEqProofs [go_sem]
  ·have h2:Lib.indexByte t s[i] < 0:=hn.2.2 hb
   simp +decide -dsimp -implicitDefEqProofs [go_sem,h2]
   exact ⟨s[i],List.getElem_mem h,hb⟩
 ·have h2:=hi.2
  rw [show i = s.length by omega,List.take_length] at h2
  simp +decide -dsimp -implicitDefEqProofs [go_sem,h]
  intro x hx; exact h2 x hx
def QB8:List UInt8:=[65,66,67,68,69,70,71,72,73,74,75,76,77,78,79,80,81,82,83,84,85,86,87,88,89,90]
def QDw:List UInt8:=[48,49,50,51,52,53,54,55,56,57]
def QRm:List UInt8:=[65,66,67,68,69,70,71,72,73,74,75,76,77,78,79,80,81,82,83,84,85,86,87,88,89,90,97,98,99,100,101,102,103,104,105,106,107,108,109,110,111,112,113,114,115,116,117,118,119,120,121,122,48,49,50,51,52,53,54,55,56,57,95,46,58,43,45,33]
def falses:List Bool:=List.replicate 256 false
def tblC:List Bool:=QB3 (QB3 (QB3 (QB3 falses QB8) (Lib.toLowerA QB8)) QDw) [95,46,58,43,45]
theorem QAe:falses.length = 256:=List.length_replicate
theorem QDx:tblC.length = 256:=by simp only [tblC,QA0,QAe]
theorem QWH:zB = bB falses:=QPP

theorem QA1 (k:Nat) (bs:List Bool):QAM k (.agg (bB bs)) = true:=by simp only [QAM]; exact QBN k bs
theorem QLq:ACalls Tryz.prog 146 [] [] (.agg (bB tblC)) []:=by
 refine QAF c146_ok rfl ?_
 unfold c146
 rw [QWH]
 simp +decide -dsimp -implicitDefEqProofs [go_sem]
 refine QAA (QEx falses QB8 QAe (by decide)) (by simp [QAS,QBN,QAM]) (QA1 _ _) ?_
 simp +decide -dsimp -implicitDefEqProofs [go_sem]
 refine QAA (QNX QB8 (by decide) (by decide)) rfl rfl ?_
 simp +decide -dsimp -implicitDefEqProofs [go_sem]
 refine QAA (QEx _ (Lib.toLowerA QB8) (by simp only [QA0,QAe]) (by decide)) (by simp [QAS,QBN,QAM]) (QA1 _ _) ?_
 simp +decide -dsimp -implicitDefEqProofs [go_sem]
 refine QAA (QEx _ QDw (by simp only [QA0,QAe]) (by decide)) (by simp [QAS,QBN,QAM]) (QA1 _ _) ?_
 simp +decide -dsimp -implicitDefEqProofs [go_sem]
 refine QAA (QEx _ [95,46,58,43,45] (by simp only [QA0,QAe]) (by decide)) (by simp [QAS,QBN,QAM]) (QA1 _ _) ?_
 change cbv _ _ _
 have t1:∀ bs:List Bool,bs.length = 256 → (bB bs).take 256 = bB bs:=fun bs h=>QHB bs 256 (by omega)
 have t2:∀ bs:List Bool,bs.length = 256 → (bB bs).drop 256 = []:=fun bs h=>List.drop_eq_nil_of_le (by rw [QEF]; omega)
 have e:QB3 (QB3 (QB3 (QB3 falses QB8) (Lib.toLowerA QB8)) QDw) [95,46,58,43,45] = tblC:=rfl
 rw [e]
 simp +decide -dsimp -implicitDefEqProofs [go_sem,QEF,QDx,QAe,t1,t2,QEM]

def QAi (s:List UInt8):Bool:=decide (s ≠ []) && decide (s.length ≤ 32) && !decide (s = [46] ∨ s = [46,46]) && s.all fun c=>decide (c ∈ QRm)

theorem QUL (c:UInt8):(QB3 tblC [33])[c.toNat]?.getD false = decide (c ∈ QRm):=by
 have h0:∀ n:Nat,n < 256 → falses[n]?.getD false = false:=fun n h=>by rw [falses,List.getElem?_replicate,if_pos h]; rfl
 have hl:=UInt8.toNat_lt c
 rw [QCF _ _ _ QDx,tblC,QCF _ _ _ (by simp only [QA0,QAe]),QCF _ _ _ (by simp only [QA0,QAe]),QCF _ _ _ (by simp only [QA0,QAe]),QCF _ _ _ QAe,h0 _ (by omega)]
 simp only [Option.getD_some,Bool.false_or]
 clear hl
 have key:∀ n:Fin 256,(decide (UInt8.ofNat n ∈ QB8) || decide (UInt8.ofNat n ∈ Lib.toLowerA QB8) || decide (UInt8.ofNat n ∈ QDw) || decide (UInt8.ofNat n ∈ [95,46,58,43,45]) || decide (UInt8.ofNat n ∈ ([33]:List UInt8))) = decide (UInt8.ofNat n ∈ QRm):=by decide +kernel
 have:=key ⟨c.toNat,UInt8.toNat_lt c⟩
 simpa only [UInt8.ofNat_toNat] using this

theorem QDy (s:List UInt8):ACalls Tryz.prog 105 [.str s] [] (.bool (QAi s)) []:=by
 refine QAF c105_ok rfl ?_
 unfold c105 QAi
 by_cases h0:s = []
 ·subst h0; simp +decide -dsimp -implicitDefEqProofs [go_sem]
 by_cases h1:s.length ≤ 32
 ·have h1':(s.length:Int) ≤ 32:=by omega
  simp +decide -dsimp -implicitDefEqProofs [go_sem,h0,h1,h1']
  refine QAA (QQw s) rfl rfl ?_
  by_cases h2:s = [46] ∨ s = [46,46]
  ·simp +decide -dsimp -implicitDefEqProofs [go_sem,h2]
   intro a b; exact absurd h2 (by simp [a,b])
  ·simp +decide -dsimp -implicitDefEqProofs [go_sem,h2]
   refine QAA QLq rfl (QA1 _ _) ?_
   simp +decide -dsimp -implicitDefEqProofs [go_sem]
   refine QAA (QEx tblC [33] QDx (by decide)) (by simp [QAS,QBN,QAM]) (QA1 _ _) ?_
   simp +decide -dsimp -implicitDefEqProofs [go_sem]
   refine QAA (QPQ _ s (by rw [QA0,QDx]) (by omega)) (by simp [QAS,QBN,QAM]) rfl ?_
   simp +decide -dsimp -implicitDefEqProofs [go_sem,QUL]
   intro _; exact ⟨fun e=>h2 (.inl e),fun e=>h2 (.inr e)⟩
 ·have h1':¬ (s.length:Int) ≤ 32:=by omega
  simp +decide -dsimp -implicitDefEqProofs [go_sem,h0,h1,h1']

theorem QFP (s:List UInt8):ACalls Tryz.prog 152 [.str s] [] (.bool (QAi s)) []:=by
 refine QAF c152_ok rfl ?_
 unfold c152 QAi
 by_cases h0:s = []
 ·subst h0; simp +decide -dsimp -implicitDefEqProofs [go_sem]
 by_cases h1:s.length ≤ 32
 ·have h1':(s.length:Int) ≤ 32:=by omega
  simp +decide -dsimp -implicitDefEqProofs [go_sem,h0,h1,h1']
  refine QAA (QPR s QRm (by omega)) rfl rfl ?_
  by_cases h2:(s.all fun c=>decide (c ∈ QRm)) = true
  ·by_cases h3:s = [46]
   ·subst h3; simp +decide -dsimp -implicitDefEqProofs [go_sem]
   ·by_cases h4:s = [46,46]
    ·subst h4; simp +decide -dsimp -implicitDefEqProofs [go_sem]
    ·simp +decide -dsimp -implicitDefEqProofs [go_sem,h2,h3,h4]
  ·simp +decide -dsimp -implicitDefEqProofs [go_sem,h2]
 ·have h1':¬ (s.length:Int) ≤ 32:=by omega
  simp +decide -dsimp -implicitDefEqProofs [go_sem,h0,h1,h1']
end Go.Ab
namespace Go.Ab
open Go Go.Proofs
def QDc (l:List (List UInt8)):AV:=.imm (l.map QAf)
theorem QAy (v:Int) (n:Int) (h:1 ≤ n):0 ≤ fold v n ∧ fold v n < n:=by
 unfold fold
 by_cases h1:n ≤ 1
 ·rw [if_pos h1]; omega
 have:=QNW v n (by omega)
 rw [if_neg h1]; split <;> omega
def QGq (ss:List (List UInt8)) (v:Int):List UInt8:=(ss[(fold v ss.length).toNat]?).getD []
theorem QBW {ss:List (List UInt8)} (v:Int) (h:ss ≠ []):QGq ss v ∈ ss:=by
 have hl:1 ≤ ss.length:=List.length_pos_iff.2 h
 have:=QAy v ss.length (by omega)
 have h2:(fold v ss.length).toNat < ss.length:=by omega
 simp only [QGq,List.getElem?_eq_getElem h2,Option.getD_some]
 exact List.getElem_mem h2

theorem QLr (is:List Nat) (l:List Int):QA4 is (l.map fun v=>[AV.int .i64 v]) = l.map fun v=>[AV.int .i64 v]:=by
 induction l with
 | nil=>rfl
 | cons x r ih=>simp [QA4,ih,QDB,ren]
theorem QAC (is:List Nat) (l:List Int) (k:Nat):QBC is (QAK l k) = QAK l k:=by simp [QAK,QBC,QDB,ren,QLr]

theorem QEN (t:List Int) (k:Nat) (ss:List (List UInt8)) (hk:k < 1000000000) (h0:ss ≠ []) (hs:ss.length < 1000000000):
  ACalls Tryz.prog 44 [.ptr 0 0,QDc ss] [QAK t k] (.str (QGq ss (QAZ t k))) [QAK t (k + 1)]:=by
 refine QAF c44_ok rfl ?_
 unfold c44
 have hn:=QBK t k ss.length hk (by omega)
 have hl:1 ≤ ss.length:=List.length_pos_iff.2 h0
 have hb:=QAy (QAZ t k) ss.length (by omega)
 have h2:(fold (QAZ t k) ss.length).toNat < ss.length:=by omega
 have e:QGq ss (QAZ t k) = ss[(fold (QAZ t k) ss.length).toNat]:=by simp [QGq,h2]
 have hne:((ss.length:Int) == 0) = false:=by simp; exact h0
 unfold QDc QAf
 simp +decide -dsimp -implicitDefEqProofs [go_sem,hne]
 refine QAB [0] hn rfl rfl (by simp) (by simp [go_sem]) (by simp [QAC]) ?_
 simp +decide -dsimp -implicitDefEqProofs [go_sem,h2,hb.1,e,QAK,QLr]

end Go.Ab
namespace Go.Ab
open Go Go.Proofs

def QTQ (o:Option Nat):Int:=match o with | some i=>i | none=>-1
theorem findIdx?_at {α:Type} {l:List α} {p:α → Bool} {i:Nat} (h:i < l.length) (hp:p l[i] = true) (hn:∀ x ∈ l.take i,p x = false):l.findIdx? p = some i:=by
 rw [List.findIdx?_eq_some_iff_getElem]
 refine ⟨h,by simpa using hp,fun j hj=>?_⟩
 have:=hn l[j] (by rw [List.mem_take_iff_getElem]; exact ⟨j,by omega,rfl⟩)
 simp [this]

def QJo (H:List AObj):Prop:=cvH H H.length H H

theorem QK2 (l:List (List UInt8)) (F:Nat) (caps:List AV) (H:List AObj) (p:List UInt8 → Bool) (hl:l.length < 1000000000) (hc:QAS H.length caps = true) (hH:QJo H)
  (hf:∀ x ∈ l,ACalls Tryz.prog F (.str x :: caps) H (.bool (p x)) H):
  ACalls Tryz.prog 149 [.imm (l.map QAf),.fn (.func F) [] caps] H (.int .i64 (QTQ (l.findIdx? p))) H:=by
 refine QAF c149_ok rfl ?_
 unfold c149
 simp +decide -dsimp -implicitDefEqProofs [go_sem]
 refine QAR (S:=Nat) (fun i=>⟨tmps 19 [(0,.imm (l.map QAf)),(1,.fn (.func F) [] caps),(7,.int .i64 l.length),(8,.int .i64 i)],H⟩) (fun i=>l.length - i) (fun i=>i ≤ l.length ∧ ∀ x ∈ l.take i,p x = false) 0 (by simp) (QAD (by simp) ?_) ?_
 ·simp +decide -dsimp -implicitDefEqProofs [go_sem,hc]; exact hH
 intro i hi
 by_cases h:i < l.length
 ·have w:IntKind.i64.wrap ((i:Int) + 1) = i + 1:=w64 (by omega) (by omega)
  simp +decide -dsimp -implicitDefEqProofs [go_sem,h]
  refine QBi (hf l[i] (List.getElem_mem h)) ?_
  by_cases hp:p l[i] = true
  ·simp +decide -dsimp -implicitDefEqProofs [go_sem,hp,findIdx?_at h hp hi.2,QTQ]; exact hH
  ·simp +decide -dsimp -implicitDefEqProofs [go_sem,hp,w]
   refine QAI (i + 1) ⟨by omega,fun x hx=>?_⟩ (by omega) (QAD (by simp) ?_)
   ·rw [List.take_succ_eq_append_getElem h] at hx
    rcases List.mem_append.1 hx with hx | hx
    ·exact hi.2 x hx
    ·simp at hx; subst hx; simpa using hp
   simp +decide -dsimp -implicitDefEqProofs [go_sem,hc]; exact hH
 ·have e:i = l.length:=by omega
  have h2:=hi.2
  rw [e,List.take_length] at h2
  have h3:l.findIdx? p = none:=by rw [List.findIdx?_eq_none_iff]; exact fun x hx=>by simp [h2 x hx]
  simp +decide -dsimp -implicitDefEqProofs [go_sem,h,h3,QTQ]; exact hH

theorem QK3 {l:List (List UInt8)} {p:List UInt8 → Bool}:decide (0 ≤ QTQ (l.findIdx? p)) = l.any p:=by
 cases h:l.findIdx? p with
 | none=>
  rw [List.findIdx?_eq_none_iff] at h
  have:l.any p = false:=by rw [List.any_eq_false]; exact fun x hx=>by simp [h x hx]
  simp [QTQ,this]
 | some i=>
  obtain ⟨h1,h2,_⟩:=List.findIdx?_eq_some_iff_getElem.1 h
  have:l.any p = true:=List.any_eq_true.2 ⟨l[i],List.getElem_mem h1,h2⟩
  simp [QTQ,this]

theorem QEy (l:List (List UInt8)) (F:Nat) (caps:List AV) (H:List AObj) (p:List UInt8 → Bool) (hl:l.length < 1000000000) (hc:QAS H.length caps = true) (hH:QJo H)
  (hf:∀ x ∈ l,ACalls Tryz.prog F (.str x :: caps) H (.bool (p x)) H):
  ACalls Tryz.prog 108 [.imm (l.map QAf),.fn (.func F) [] caps] H (.bool (l.any p)) H:=by
 refine QAF c108_ok rfl ?_
 unfold c108
 simp +decide -dsimp -implicitDefEqProofs [go_sem]
 refine QBi (QK2 l F caps H p hl hc hH hf) ?_
 simp +decide -dsimp -implicitDefEqProofs [go_sem,← QK3]; exact hH

theorem all_c (l:List (List UInt8)) (F:Nat) (caps:List AV) (H:List AObj) (p:List UInt8 → Bool) (hl:l.length < 1000000000) (hc:∀ n,H.length ≤ n → QAS n caps = true) (_hH:QJo H) (hH2:∀ x,cvH (H ++ [x]) H.length (H ++ [x]) H) (hH3:∀ cs,QAS (H.length + 1) cs = true → QJo (H ++ [.box 121 cs]))
  (hf:∀ x ∈ l,ACalls Tryz.prog F (.str x :: caps) (H ++ [.box 121 [.fn (.func F) [] caps]]) (.bool (p x)) (H ++ [.box 121 [.fn (.func F) [] caps]])):
  ACalls Tryz.prog 141 [.imm (l.map QAf),.fn (.func F) [] caps] H (.bool (l.all p)) H:=by
 have h123:∀ x ∈ l,ACalls Tryz.prog 177 [.str x,.ptr H.length 0] (H ++ [.box 121 [.fn (.func F) [] caps]]) (.bool (!p x)) (H ++ [.box 121 [.fn (.func F) [] caps]]):=fun x hx=>by
  refine QAF c177_ok rfl ?_
  unfold c177
  simp +decide -dsimp -implicitDefEqProofs [go_sem]
  refine QBi (hf x hx) ?_
  simp +decide -dsimp -implicitDefEqProofs [go_sem]
  have:=hH3 [.fn (.func F) [] caps] (by simp [QAS,QAM,hc (H.length + 1) (by omega)])
  simpa [QJo] using this
 refine QAF c141_ok rfl ?_
 unfold c141
 simp +decide -dsimp -implicitDefEqProofs [go_sem]
 refine QBi (QEy l 177 [.ptr H.length 0] (H ++ [.box 121 [.fn (.func F) [] caps]]) (fun x=>!p x) hl (by simp [QAS,QAM]) (hH3 _ (by simp [QAS,QAM,hc (H.length + 1) (by omega)])) h123) ?_
 have e:(!l.any fun x=>!p x) = l.all p:=by rw [List.not_any_eq_all_not]; simp
 simp +decide -dsimp -implicitDefEqProofs [go_sem,e]; exact hH2 _
end Go.Ab
namespace Go.Ab
open Go Go.Proofs

def QDM (s:List UInt8):Bool:=s.all fun c=>decide (32 ≤ c.toNat) && decide (c.toNat ≤ 126)
def QCv (s:List UInt8):Bool:=QDM s && decide (s.length ≤ 256)

theorem QJp (s:List UInt8) (hl:s.length < 9223372036854775807):ACalls Tryz.prog 214 [.str s] [] (.bool (QDM s)) []:=by
 refine QAF c214_ok rfl ?_
 unfold c214
 simp +decide -dsimp -implicitDefEqProofs [go_sem]
 refine QAR (S:=Nat) (fun i=>⟨tmps 20 [(0,.str s),(3,.int .i64 i)],[]⟩) (fun i=>s.length - i) (fun i=>i ≤ s.length ∧ ∀ x ∈ s.take i,32 ≤ x.toNat ∧ x.toNat ≤ 126) 0 (by simp) (QAD (by simp) ?_) ?_
 ·simp +decide -dsimp -implicitDefEqProofs [go_sem]
 intro i hi
 by_cases h:i < s.length
 ·have w:IntKind.i64.wrap ((i:Int) + 1) = i + 1:=w64 (by omega) (by omega)
  by_cases h1:s[i].toNat < 32
  ·have h1':(s[i].toNat:Int) < 32:=by omega
   simp +decide -dsimp -implicitDefEqProofs [go_sem,h,h1']
   simp only [QDM,List.all_eq_false]
   exact ⟨s[i],List.getElem_mem h,by simp; omega⟩
  ·have h1':¬ (s[i].toNat:Int) < 32:=by omega
   by_cases h2:126 < s[i].toNat
   ·have h2':(126:Int) < s[i].toNat:=by omega
    simp +decide -dsimp -implicitDefEqProofs [go_sem,h,h1',h2']
    simp only [QDM,List.all_eq_false]
    exact ⟨s[i],List.getElem_mem h,by simp; omega⟩
   ·have h2':¬ (126:Int) < s[i].toNat:=by omega
    simp +decide -dsimp -implicitDefEqProofs [go_sem,h,h1',h2',w]
    refine QAI (i + 1) ⟨by omega,fun x hx=>?_⟩ (by omega) (QAD (by simp) ?_)
    ·rw [List.take_succ_eq_append_getElem h] at hx
     rcases List.mem_append.1 hx with hx | hx
     ·exact hi.2 x hx
     ·simp at hx; subst hx; omega
    simp +decide -dsimp -implicitDefEqProofs [go_sem]
 ·have e:i = s.length:=by omega
  have h2:=hi.2
  rw [e,List.take_length] at h2
  have h3:QDM s = true:=by simp only [QDM,List.all_eq_true]; intro x hx; have:=h2 x hx; simp; omega
  simp +decide -dsimp -implicitDefEqProofs [go_sem,h,h3]

theorem QK4 (s:List UInt8) (hl:s.length < 9223372036854775807):ACalls Tryz.prog 188 [.str s] [] (.bool (QCv s)) []:=by
 refine QAF c188_ok rfl ?_
 unfold c188 QCv
 simp +decide -dsimp -implicitDefEqProofs [go_sem]
 refine QAA (QJp s hl) rfl rfl ?_
 have e:(decide ((s.length:Int) ≤ 256)) = decide (s.length ≤ 256):=by rw [decide_eq_decide]; omega
 cases h:QDM s <;> simp +decide -dsimp -implicitDefEqProofs [go_sem,e]

theorem QQx (s:List UInt8) (hl:s.length < 9223372036854775807):ACalls Tryz.prog 102 [.str s] [] (.bool (QCv s)) []:=by
 refine QAF c102_ok rfl ?_
 unfold c102
 simp +decide -dsimp -implicitDefEqProofs [go_sem]
 refine QAR (S:=Nat) (fun i=>⟨tmps 23 [(0,.str s),(5,.int .i64 s.length),(6,.int .i64 i)],[]⟩) (fun i=>s.length - i) (fun i=>i ≤ s.length ∧ ∀ x ∈ s.take i,32 ≤ x.toNat ∧ x.toNat ≤ 126) 0 (by simp) (QAD (by simp) ?_) ?_
 ·simp +decide -dsimp -implicitDefEqProofs [go_sem]
 intro i hi
 by_cases h:i < s.length
 ·have w:IntKind.i64.wrap ((i:Int) + 1) = i + 1:=w64 (by omega) (by omega)
  by_cases h1:s[i].toNat < 32
  ·have h1':(s[i].toNat:Int) < 32:=by omega
   have h3:QDM s = false:=by simp only [QDM,List.all_eq_false]; exact ⟨s[i],List.getElem_mem h,by simp; omega⟩
   simp +decide -dsimp -implicitDefEqProofs [go_sem,h,h1',QCv,h3]
  ·have h1':¬ (s[i].toNat:Int) < 32:=by omega
   by_cases h2:126 < s[i].toNat
   ·have h2':(126:Int) < s[i].toNat:=by omega
    have h3:QDM s = false:=by simp only [QDM,List.all_eq_false]; exact ⟨s[i],List.getElem_mem h,by simp; omega⟩
    simp +decide -dsimp -implicitDefEqProofs [go_sem,h,h1',h2',QCv,h3]
   ·have h2':¬ (126:Int) < s[i].toNat:=by omega
    simp +decide -dsimp -implicitDefEqProofs [go_sem,h,h1',h2',w]
    refine QAI (i + 1) ⟨by omega,fun x hx=>?_⟩ (by omega) (QAD (by simp) ?_)
    ·rw [List.take_succ_eq_append_getElem h] at hx
     rcases List.mem_append.1 hx with hx | hx
     ·exact hi.2 x hx
     ·simp at hx; subst hx; omega
    simp +decide -dsimp -implicitDefEqProofs [go_sem]
 ·have e:i = s.length:=by omega
  have h2:=hi.2
  rw [e,List.take_length] at h2
  have h3:QDM s = true:=by simp only [QDM,List.all_eq_true]; intro x hx; have:=h2 x hx; simp; omega
  have e:(decide ((s.length:Int) ≤ 256)) = decide (s.length ≤ 256):=by rw [decide_eq_decide]; omega
  simp +decide -dsimp -implicitDefEqProofs [go_sem,h,h3,QCv,e]
end Go.Ab
namespace Go.Ab
open Go Go.Proofs
def QTR:List UInt8:=[65,66,67,68,69,70,71,72,73,74,75,76,77,78,79,80,81,82,83,84,85,86,87,88,89,90,48,49,50,51,52,53,54,55,56,57,95]
def QEu (s:List UInt8):Bool:=decide (s ≠ []) && decide (s.length ≤ 32) && ((s.take 1).all fun c=>decide (c ∈ QB8)) && s.all fun c=>decide (c ∈ QTR)

theorem QNY (c:UInt8):falses[c.toNat]?.getD false = false:=by
 have:=UInt8.toNat_lt c
 rw [falses,List.getElem?_replicate,if_pos (by omega)]; rfl
theorem QK5 (c:UInt8):(QB3 falses QB8)[c.toNat]?.getD false = decide (c ∈ QB8):=by
 rw [QCF _ _ _ QAe,QNY]; simp
theorem QRn (c:UInt8):(QB3 (QB3 (QB3 falses QB8) QDw) [95])[c.toNat]?.getD false = decide (c ∈ QTR):=by
 rw [QCF _ _ _ (by simp only [QA0,QAe]),QCF _ _ _ (by simp only [QA0,QAe]),QK5]
 simp only [Option.getD_some]
 have key:∀ n:Fin 256,(decide (UInt8.ofNat n ∈ QB8) || decide (UInt8.ofNat n ∈ QDw) || decide (UInt8.ofNat n ∈ ([95]:List UInt8))) = decide (UInt8.ofNat n ∈ QTR):=by decide +kernel
 have:=key ⟨c.toNat,UInt8.toNat_lt c⟩
 simpa only [UInt8.ofNat_toNat] using this

theorem QUM (s:List UInt8):ACalls Tryz.prog 187 [.str s] [] (.bool (QEu s)) []:=by
 refine QAF c187_ok rfl ?_
 unfold c187 QEu
 by_cases h0:s = []
 ·subst h0; simp +decide -dsimp -implicitDefEqProofs [go_sem]
 have hpos:0 < s.length:=List.length_pos_iff.2 h0
 by_cases h1:s.length ≤ 32
 ·have h1':(s.length:Int) ≤ 32:=by omega
  simp +decide -dsimp -implicitDefEqProofs [go_sem,h0,h1,h1']
  refine QAA (QPR s QTR (by omega)) rfl rfl ?_
  by_cases h2:(s.all fun c=>decide (c ∈ QTR)) = true
  ·simp +decide -dsimp -implicitDefEqProofs [go_sem,h2]
   refine ⟨by omega,?_⟩
   refine QAA (QPR (s.take 1) QB8 (by simp; omega)) rfl rfl ?_
   simp +decide -dsimp -implicitDefEqProofs [go_sem,h2]
  ·simp +decide -dsimp -implicitDefEqProofs [go_sem,h2]
 ·have h1':¬ (s.length:Int) ≤ 32:=by omega
  simp +decide -dsimp -implicitDefEqProofs [go_sem,h0,h1,h1']

theorem QW0 (s:List UInt8):ACalls Tryz.prog 101 [.str s] [] (.bool (QEu s)) []:=by
 refine QAF c101_ok rfl ?_
 unfold c101 QEu
 rw [QWH]
 by_cases h0:s = []
 ·subst h0; simp +decide -dsimp -implicitDefEqProofs [go_sem]
 have hpos:0 < s.length:=List.length_pos_iff.2 h0
 by_cases h1:s.length ≤ 32
 ·have h1':(s.length:Int) ≤ 32:=by omega
  have cl:∀ bs,QAS 0 [.agg (bB bs)] = true:=fun bs=>by simp [QAS,QA1]
  simp +decide -dsimp -implicitDefEqProofs [go_sem,h0,h1,h1']
  refine QAO (QEx falses QB8 QAe (by decide)) (by simp [QAS,QAM,QBN]) (QA1 _ _) ?_
  simp +decide -dsimp -implicitDefEqProofs [go_sem]
  refine ⟨by omega,?_⟩
  have hU:=QPQ (QB3 falses QB8) (s.take 1) (by rw [QA0,QAe]) (by simp; omega)
  simp only [QK5] at hU
  refine QAO hU (by simp [QAS,QAM,QBN]) rfl ?_
  by_cases h2:((s.take 1).all fun c=>decide (c ∈ QB8)) = true
  ·simp +decide -dsimp -implicitDefEqProofs [go_sem,h2]
   refine QAO (QEx falses QB8 QAe (by decide)) (by simp [QAS,QAM,QBN]) (QA1 _ _) ?_
   simp +decide -dsimp -implicitDefEqProofs [go_sem]
   refine QAO (QEx _ QDw (by simp only [QA0,QAe]) (by decide)) (by simp [QAS,QAM,QBN]) (QA1 _ _) ?_
   simp +decide -dsimp -implicitDefEqProofs [go_sem]
   refine QAO (QEx _ [95] (by simp only [QA0,QAe]) (by decide)) (by simp [QAS,QAM,QBN]) (QA1 _ _) ?_
   simp +decide -dsimp -implicitDefEqProofs [go_sem]
   have hK:=QPQ (QB3 (QB3 (QB3 falses QB8) QDw) [95]) s (by simp only [QA0,QAe]) (by omega)
   simp only [QRn] at hK
   refine QAO hK (by simp [QAS,QAM,QBN]) rfl ?_
   simp +decide -dsimp -implicitDefEqProofs [go_sem,h2]
  ·simp +decide -dsimp -implicitDefEqProofs [go_sem,h2]
 ·have h1':¬ (s.length:Int) ≤ 32:=by omega
  simp +decide -dsimp -implicitDefEqProofs [go_sem,h0,h1,h1']
end Go.Ab
