/- maps.Clone at the database's entries; the writes. -/
import Derived.Test.YtpknaffdaemlbaaGreatDoorCX
import Derived.Test.YtpknaffdaemlbaaGreatDoorW1
import Derived.Test.YtpknaffdaemlbaaGreatDoorA5
import Derived.Shelf.SlMaps.Clone
import Derived.Test.YtpknaffdaemlbaaGreatDoorW4
import Derived.Test.YtpknaffdaemlbaaGreatDoorE1
import Derived.Test.YtpknaffdaemlbaaGreatDoorW8
set_option maxRecDepth 100000
set_option maxHeartbeats 2000000
namespace Go.Ab
open Go Go.Proofs
theorem QJc (b:Nat) (es:Array MapEntry) (clock:Nat) (w:World) (hb:w.heap[b]? = some (.map es clock)):
  Calls Tryz.prog 43 #[.map (some b)] w fun e w'=>e = .returned (.map (some w.heap.size)) ∧ w' = w.alloc (.map es clock):=by
 have hq:=fun w=>run_eql_map_nil_sl (P:=Tryz.prog) w 80 _ _ (some b) Tryz.underlying80
 go_enter Tryz.func43,Tryz.ntmps43
 go_wp2
 rw [run_callFunc_extern Tryz.func83 (by kernel_rfl) (by kernel_rfl) (by kernel_rfl) (e:=Extern.MapsClone.clone) (by kernel_rfl),run_maps_clone_sl w 80 hb]
 simp only [Result.andThen]
 rw [Oper.upon_value]
 go_wp2
 rw [run_typeAssert_map_sl _ 80 20 _ _ _ Tryz.underlying80]
 simp only [Result.andThen]
 rw [Oper.upon_value]
 go_wp2
 go_ret
 exact ⟨rfl,rfl⟩
theorem QQg:QE2 Tryz.prog 43 = true:=by kernel_rfl
theorem QLh (kvs:List (AV × AV)):ACallsR Tryz.prog 43 [.map 0] [.map kvs] (fun v G=>v = .map 1 ∧ G = [.map kvs,.map kvs]):=by
 refine ⟨QQg,fun c vs hH hr hv=>?_⟩
 simp only [QAo,Val] at hv
 obtain ⟨v,vs',rfl,⟨kvs',r,h1,h2,rfl⟩,rfl⟩:=hv
 obtain ⟨r',es,h3,h4,h5⟩:=hr.obj 0 (.map kvs) (by rw [hH]; rfl)
 rw [h2] at h3; simp at h3; subst h3
 refine (QJc r es kvs.length c.w h4).mono fun e w' hq=>?_
 obtain ⟨rfl,rfl⟩:=hq
 obtain ⟨hr1,hE1⟩:=QDO hr
 have hμl:c.μ.length = 1:=by rw [hr.len,hH]; rfl
 have hN:=QHE (c:={ c with μ:=c.μ ++ [.pointer none],H:=c.H ++ [.unborn] }) hr1 (nid:=1) (x':=.map kvs) (v':=.map (some c.w.heap.size)) (.map es kvs.length) (by show (c.H ++ [AObj.unborn])[1]? = _; rw [hH]; rfl) (fun b hb=>by simpa [blk] using hb.symm) (fun F hE hm=>
  ⟨c.w.heap.size,es,hm,QCU c.w _,QE5 hE _ _ _ (QE5 (hE1.vext hr) _ _ _ h5)⟩)
 refine ⟨_,_,.map 1,rfl,rfl,⟨rfl,?_⟩,hN.1,hE1.trans hN.2,?_⟩
 ·show (c.H ++ [AObj.unborn]).set 1 _ = _
  rw [hH]; rfl
 ·simp only [Val]
  refine ⟨kvs,c.w.heap.size,?_,?_,rfl⟩
  ·show ((c.H ++ [AObj.unborn]).set 1 _)[1]? = _
   rw [hH]; rfl
  ·show ((c.μ ++ [Value.pointer none]).set 1 _)[1]? = _
   have:1 < (c.μ ++ [Value.pointer none]).length:=by simp [hμl]
   rw [List.getElem?_set_self this]

/-! ### Writes -/
abbrev Wr:=List UInt8 × Option (List UInt8)
def wAV (w:Wr):AV:=match w.2 with
 | some t=>.fn (.func 48) [.agg [.str w.1,.str t]] []
 | none=>.fn (.func 46) [.agg [.str w.1,.str []]] []
def QCG (w:Wr):List AV:=[wAV w]
abbrev QAs:=QB1 (List UInt8)
def doW (m:QAs) (w:Wr):QAs:=match w.2 with
 | some t=>QC4 w.1 t m
 | none=>QDt w.1 m
def mO (m:QAs):AObj:=.map (smK .str m)
def dbB (a b o n:Nat):AObj:=.box 83 [.map a,.map b,.own o n]
def dbO (dur seen:QAs) (pend:List Wr):List AObj:=[dbB 1 2 3 pend.length,mO dur,mO seen,.reg 88 1 (pend.map QCG)]
theorem QLi (is:List Nat) (w:Wr):ren is (wAV w) = wAV w:=by unfold wAV; split <;> simp [ren,QDB]
theorem QV5 (k:Nat) (w:Wr):QAM k (wAV w) = true:=by unfold wAV; split <;> simp [QAM,QAS]
theorem QGS (k:Nat) (w:Wr):QAS k (QCG w) = true:=by simp [QCG,QAS,QV5]
theorem QBI (k:Nat) (l:List Wr):QAV k (l.map QCG) = true:=QAa fun x _=>QGS k x
theorem QAr (is:List Nat) (l:List Wr):QA4 is (l.map QCG) = l.map QCG:=by
 induction l with
 | nil=>rfl
 | cons x l ih=>simp [QA4,ih,QCG,QDB,QLi]
theorem QHz (is:List Nat) {β:Type} (f:β → AV) (hf:∀ x,ren is (f x) = f x) (m:QB1 β):QFY is (smK f m) = smK f m:=by
 rw [QFb]
 simp only [smK,List.map_map]
 refine List.map_congr_left fun o _=>?_
 cases o with
 | none=>rfl
 | some p=>simp [QDn,ren,hf]
theorem QBE (is:List Nat) (m:QAs):QBC is (mO m) = mO m:=by
 simp only [mO,QBC,QHz is .str (fun _=>rfl)]
theorem QV6 {β:Type} (k:Nat) (f:β → AV) (hf:∀ x,QAM k (f x) = true) (m:QB1 β):((smK f m).all fun p=>QAM k p.1 && QAM k p.2) = true:=by
 refine List.all_eq_true.2 fun p hp=>?_
 obtain ⟨o,_,rfl⟩:=List.mem_map.1 hp
 cases o with
 | none=>rfl
 | some q=>simp [QDn,QAM,hf]
theorem QBU {β:Type} {k:Nat} {f:β → AV} (hf:∀ x,QAM k (f x) = true) {m:QB1 β}:∀ a b:AV,(a,b) ∈ smK f m → QAM k a = true ∧ QAM k b = true:=fun a b h=>by
 have:=List.all_eq_true.1 (QV6 k f hf m) (a,b) h
 simpa using this
theorem QV7 (n t:List UInt8) (m:QAs):ACalls Tryz.prog 48 [.agg [.str n,.str t],.map 0] [mO m] (.tup []) [mO (QC4 n t m)]:=by
 have hk:=QCY .str n m
 refine QAF c48_ok rfl ?_
 unfold c48 mO
 simp +decide -dsimp -implicitDefEqProofs [go_sem,hk,QHj]
 exact QBU fun _=>rfl
theorem QRZ (n:List UInt8) (m:QAs):ACalls Tryz.prog 46 [.agg [.str n,.str []],.map 0] [mO m] (.tup []) [mO (QDt n m)]:=by
 have hk:=QCY .str n m
 refine QAF c46_ok rfl ?_
 unfold c46 mO
 simp +decide -dsimp -implicitDefEqProofs [go_sem,hk,QJI]
 exact QBU fun _=>rfl
end Go.Ab
namespace Go.Ab
open Go Go.Proofs
theorem QAl (m:QAs):mO m = .map (smK .str m):=rfl
theorem QXj (dur seen:QAs) (pend:List Wr) (w:Wr) (hp:pend.length < 1000000):ACalls Tryz.prog 45 [.ptr 0 0,wAV w] (dbO dur seen pend) (.int .i64 0) (dbO dur (doW seen w) (pend ++ [w])):=by
 have hcl:=QBI
 have hsc:∀ (m:QAs) (k:Nat) (a b:AV),(a,b) ∈ smK .str m → QAM k a = true ∧ QAM k b = true:=fun m k=>QBU (k:=k) fun _=>rfl
 have hr:List.map QCG pend ++ [[wAV w]] = (pend ++ [w]).map QCG:=by simp [QCG]
 obtain ⟨n,o⟩:=w
 cases o with
 | some t=>
  refine QAF c45_ok rfl ?_
  unfold c45 dbO dbB
  unfold wAV at hr ⊢
  simp +decide -dsimp -implicitDefEqProofs [go_sem]
  refine QAB [2] (QV7 n t seen) rfl rfl (by simp) (by simp +decide -dsimp -implicitDefEqProofs [go_sem]) (by simp +decide -dsimp -implicitDefEqProofs [go_sem,QBE]) ?_
  simp +decide -dsimp -implicitDefEqProofs [go_sem,QBE,maxLen]
  refine ⟨⟨by omega,by omega⟩,?_⟩
  rw [hr]
  simp +decide -dsimp -implicitDefEqProofs [go_sem,hcl,doW,QAl]
  exact ⟨hsc _ _,hsc _ _,rfl⟩
 | none=>
  refine QAF c45_ok rfl ?_
  unfold c45 dbO dbB
  unfold wAV at hr ⊢
  simp +decide -dsimp -implicitDefEqProofs [go_sem]
  refine QAB [2] (QRZ n seen) rfl rfl (by simp) (by simp +decide -dsimp -implicitDefEqProofs [go_sem]) (by simp +decide -dsimp -implicitDefEqProofs [go_sem,QBE]) ?_
  simp +decide -dsimp -implicitDefEqProofs [go_sem,QBE,maxLen]
  refine ⟨⟨by omega,by omega⟩,?_⟩
  rw [hr]
  simp +decide -dsimp -implicitDefEqProofs [go_sem,hcl,doW,QAl]
  exact ⟨hsc _ _,hsc _ _,rfl⟩

theorem QTE:ACallsR Tryz.prog 12 [] [] (fun v G=>v = .ptr 0 0 ∧ G = dbO [] [] []):=by
 refine QFq _ c12_ok ?_
 unfold c12
 simp +decide -dsimp -implicitDefEqProofs [go_sem]
 refine QCJ [.ptr 0 0,.junk,.junk,.junk,.junk] (dbO [] [] []) (Wk.trans (Wk.nilB 2 2 88 1 rfl rfl (by simp)) (Wk.ren [2,0,1,3] (by decide) rfl (by decide) (fun j hj=>by omega) (fun j m s l hj=>by omega) ?_ ?_)) ?_
 ·simp +decide -dsimp -implicitDefEqProofs [go_sem,dbO,dbB,QAl,smK]
 ·simp +decide -dsimp -implicitDefEqProofs [go_sem,rnT]
 ·simp +decide -dsimp -implicitDefEqProofs [go_sem,QB7]

theorem QRa (dur seen:QAs) (pend:List Wr):ACallsR Tryz.prog 14 [.ptr 0 0] (dbO dur seen pend) (fun v G=>v = .tup [] ∧ G = [dbB 4 2 5 0,mO dur,mO seen,.reg 88 1 (pend.map QCG),mO seen,.reg 88 1 []]):=by
 refine QFq _ c14_ok ?_
 unfold c14 dbO dbB
 simp +decide -dsimp -implicitDefEqProofs [go_sem]
 refine QBG [2] 1 (QLh (smK .str seen)) rfl (fun v G h=>by rw [h.2]; rfl) (by simp +decide) (by simp +decide -dsimp -implicitDefEqProofs [go_sem]) (by simp +decide -dsimp -implicitDefEqProofs [go_sem,QAl]; exact (QHz _ .str (fun _=>rfl) _).symm) ?_
 rintro _ _ ⟨rfl,rfl⟩
 have hsr:∀ is (m:QAs),QFY is (smK .str m) = smK .str m:=fun is m=>QHz is .str (fun _=>rfl) m
 simp +decide -dsimp -implicitDefEqProofs [go_sem,hsr]
 refine QCJ (List.replicate 13 .junk) [dbB 4 2 5 0,mO dur,mO seen,.reg 88 1 (pend.map QCG),mO seen,.reg 88 1 []] (Wk.trans (Wk.nilB 0 2 88 1 rfl rfl (by simp)) (Wk.ren [0,1,2,3,4,5] (by decide) rfl (by decide) (fun j hj=>?_) (fun j m s l hj h=>?_) ?_ ?_)) ?_
 ·match j,hj with
  | 0,_=>rfl
  | 1,_=>rfl
  | 2,_=>rfl
  | 3,_=>rfl
 ·match j,hj with
  | 0,_=>cases h
  | 1,_=>cases h
  | 2,_=>cases h
  | 3,_=>cases h
 ·simp +decide -dsimp -implicitDefEqProofs [go_sem,dbB,QAr,QAl,hsr]
 ·simp +decide -dsimp -implicitDefEqProofs [go_sem,rnT]
 ·simp +decide -dsimp -implicitDefEqProofs [go_sem,QB7,dbB]
end Go.Ab
namespace Go.Ab
open Go Go.Proofs
theorem QAp (is:List Nat) (m:QAs):QFY is (smK .str m) = smK .str m:=QHz is .str (fun _=>rfl) m
theorem QO4 (dur seen:QAs) (pend:List Wr) (r:Rcd) (hS:QAb r = true) (hp:pend.length < 1000000) (hc:QGM seen < 512):
  ACalls Tryz.prog 18 [.ptr 0 0,.agg (QAU r)] (dbO dur seen pend) (.int .i64 0) (dbO dur (QC4 (QAw r.path) (QBJ r) seen) (pend ++ [(QAw r.path,some (QBJ r))])):=by
 have hsm:=QBf hS
 have ce:=QIs r hsm.few
 rw [(QII hS).1,(QII hS).2] at ce
 have cn:=QF3 r.path (by have:=hsm.path; omega)
 have hpl:QAd r.path = true:=by
  simp only [QAb,Bool.and_eq_true] at hS
  exact hS.1.1.1.1.1.1.1.1.1.1.1
 unfold QKt at cn
 simp only [hpl,if_true] at cn
 have cd:=QXj dur seen pend (QAw r.path,some (QBJ r)) hp
 have hk:=QCY .str (QAw r.path) seen
 have hf:=QCl AV.str (QAw r.path) seen
 have hl:=QFr AV.str seen
 have hcl:=QBI
 have h1:∀ (w:Wr) (is:List Nat),QA4 is [QCG w] = [QCG w]:=fun w is=>QAr is [w]
 have h2:∀ (w:Wr) (k:Nat),QAV k [QCG w] = true:=fun w k=>QBI k [w]
 have hsc:∀ (m:QAs) (k:Nat) (a b:AV),(a,b) ∈ smK .str m → QAM k a = true ∧ QAM k b = true:=fun m k=>QBU (k:=k) fun _=>rfl
 have hlt:¬ (512:Int) ≤ (QGM seen:Int):=by omega
 refine QAF c18_ok rfl ?_
 unfold c18
 unfold dbO dbB mO at cd ⊢
 unfold wAV at cd
 simp +decide -dsimp -implicitDefEqProofs [go_sem,QAN,QAP]
 refine QAA ce (by simp +decide -dsimp -implicitDefEqProofs [go_sem,QAg]) rfl ?_
 unfold QAU
 simp +decide -dsimp -implicitDefEqProofs [go_sem]
 refine QAA cn rfl rfl ?_
 cases hg:QAv (QAw r.path) seen with
 | none=>
  rw [hg] at hf
  simp +decide -dsimp -implicitDefEqProofs [go_sem,hk,hf,hl,hlt]
  refine QAB [0,1,2,3] cd rfl rfl (by simp) (by simp +decide -dsimp -implicitDefEqProofs [go_sem]) (by simp +decide -dsimp -implicitDefEqProofs [go_sem,QAp,QAr]) ?_
  simp +decide -dsimp -implicitDefEqProofs [go_sem,QAp,QAr,hcl,doW,h1]
  exact ⟨hsc _ _,hsc _ _,QGS _ _⟩
 | some t=>
  rw [hg] at hf
  simp +decide -dsimp -implicitDefEqProofs [go_sem,hk,hf]
  refine QAB [0,1,2,3] cd rfl rfl (by simp) (by simp +decide -dsimp -implicitDefEqProofs [go_sem]) (by simp +decide -dsimp -implicitDefEqProofs [go_sem,QAp,QAr]) ?_
  simp +decide -dsimp -implicitDefEqProofs [go_sem,QAp,QAr,hcl,doW,h1]
  exact ⟨hsc _ _,hsc _ _,QGS _ _⟩

theorem QJd (dur seen:QAs) (pend:List Wr) (p:List UInt8) (hpl:QAd p = true) (hpn:p.length ≤ 400000) (hp:pend.length < 1000000):
  (QAv (QAw p) seen ≠ none → ACalls Tryz.prog 16 [.ptr 0 0,.str p] (dbO dur seen pend) (.int .i64 0) (dbO dur (QDt (QAw p) seen) (pend ++ [(QAw p,none)]))) ∧
  (QAv (QAw p) seen = none → ACalls Tryz.prog 16 [.ptr 0 0,.str p] (dbO dur seen pend) (.int .i64 262) (dbO dur seen pend)):=by
 have cn:=QF3 p hpn
 unfold QKt at cn
 simp only [hpl,if_true] at cn
 have cd:=QXj dur seen pend (QAw p,none) hp
 have hk:=QCY .str (QAw p) seen
 have hf:=QCl AV.str (QAw p) seen
 have hcl:=QBI
 have h1:∀ (w:Wr) (is:List Nat),QA4 is [QCG w] = [QCG w]:=fun w is=>QAr is [w]
 have h2:∀ (w:Wr) (k:Nat),QAV k [QCG w] = true:=fun w k=>QBI k [w]
 have hsc:∀ (m:QAs) (k:Nat) (a b:AV),(a,b) ∈ smK .str m → QAM k a = true ∧ QAM k b = true:=fun m k=>QBU (k:=k) fun _=>rfl
 unfold dbO dbB mO at cd ⊢
 unfold wAV at cd
 refine ⟨fun h=>?_,fun h=>?_⟩
 ·obtain ⟨t,hg⟩:=Option.ne_none_iff_exists'.1 h
  rw [hg] at hf
  refine QAF c16_ok rfl ?_
  unfold c16
  simp +decide -dsimp -implicitDefEqProofs [go_sem]
  refine QAA cn rfl rfl ?_
  simp +decide -dsimp -implicitDefEqProofs [go_sem,hk,hf]
  refine QAB [0,1,2,3] cd rfl rfl (by simp) (by simp +decide -dsimp -implicitDefEqProofs [go_sem]) (by simp +decide -dsimp -implicitDefEqProofs [go_sem,QAp,QAr]) ?_
  simp +decide -dsimp -implicitDefEqProofs [go_sem,QAp,QAr,hcl,doW,h1]
  exact ⟨hsc _ _,hsc _ _,QGS _ _⟩
 ·rw [h] at hf
  refine QAF c16_ok rfl ?_
  unfold c16
  simp +decide -dsimp -implicitDefEqProofs [go_sem]
  refine QAA cn rfl rfl ?_
  simp +decide -dsimp -implicitDefEqProofs [go_sem,hk,hf,hcl]
  exact ⟨hsc _ _,hsc _ _⟩
end Go.Ab
namespace Go.Ab
open Go Go.Proofs
def QA8 (m:QAs) (l:List Wr):QAs:=l.foldl doW m
def QDr (keep:Int) (n:Nat):Nat:=min keep.toNat n
theorem QTF (keep:Int) (n:Nat):(if (n:Int) < (if keep < 0 then 0 else keep) then (n:Int) else (if keep < 0 then 0 else keep)) = ((QDr keep n:Nat):Int):=by
 unfold QDr
 repeat' split
 all_goals omega
theorem QO5 (dur seen:QAs) (pend:List Wr) (keep:Int) (hp:pend.length < 1000000):
  ACallsR Tryz.prog 19 [.ptr 0 0,.int .i64 keep] (dbO dur seen pend) (fun v G=>v = .tup [] ∧ G = [dbB 1 4 5 0,mO (QA8 dur (pend.take (QDr keep pend.length))),mO seen,.reg 88 1 (pend.map QCG),mO (QA8 dur (pend.take (QDr keep pend.length))),.reg 88 1 []]):=by
 have hkk:=QTF keep pend.length
 obtain ⟨kk,hk⟩:∃ kk,kk = QDr keep pend.length:=⟨_,rfl⟩
 rw [← hk] at hkk ⊢
 have hkn:kk ≤ pend.length:=by rw [hk]; unfold QDr; omega
 have hcl:=QBI
 have hsc:∀ (m:QAs) (k:Nat) (a b:AV),(a,b) ∈ smK .str m → QAM k a = true ∧ QAM k b = true:=fun m k=>QBU (k:=k) fun _=>rfl
 refine QFq _ c19_ok ?_
 unfold c19 dbO dbB mO
 simp +decide -dsimp -implicitDefEqProofs [go_sem,hkk,hkn]
 refine QAR (S:=Nat) (fun i=>⟨tmps 42 [(0,.ptr 0 0),(18,.pre 3 0 kk pend.length),(19,.int .i64 kk),(20,.int .i64 i)],[dbB 1 2 3 pend.length,mO (QA8 dur (pend.take i)),mO seen,.reg 88 1 (pend.map QCG)]⟩) (fun i=>kk - i) (fun i=>i ≤ kk) 0 (by simp) (QAD (by simp) ?_) ?_
 ·simp +decide -dsimp -implicitDefEqProofs [go_sem,dbB,QAl,hcl,QA8]
  exact ⟨hsc _ _,hsc _ _⟩
 intro i hi
 by_cases h:i < kk
 ·have w:IntKind.i64.wrap ((i:Int) + 1) = i + 1:=w64 (by omega) (by omega)
  have hil:i < pend.length:=by omega
  have hai:pend[i]? = some pend[i]:=List.getElem?_eq_getElem hil
  have hnx:QA8 dur (pend.take (i + 1)) = doW (QA8 dur (pend.take i)) pend[i]:=by
   unfold QA8; rw [List.take_succ_eq_append_getElem hil,List.foldl_append]; rfl
  generalize pend[i] = wr at hai hnx
  obtain ⟨n,o⟩:=wr
  cases o with
  | some t=>
   have cd:=QV7 n t (QA8 dur (pend.take i))
   unfold mO at cd
   simp +decide -dsimp -implicitDefEqProofs [go_sem,dbB,QAl,h,hai,QCG,wAV]
   refine QAB [1] cd rfl rfl (by simp) (by simp +decide -dsimp -implicitDefEqProofs [go_sem]) (by simp +decide -dsimp -implicitDefEqProofs [go_sem,QAp]) ?_
   simp +decide -dsimp -implicitDefEqProofs [go_sem,QAp,w]
   refine QAI (i + 1) (by show i + 1 ≤ kk; omega) (by show kk - (i + 1) < kk - i; omega) (QAD (by simp) ?_)
   rw [hnx]
   simp +decide -dsimp -implicitDefEqProofs [go_sem,dbB,QAl,hcl,doW]
   exact ⟨hsc _ _,hsc _ _⟩
  | none=>
   have cd:=QRZ n (QA8 dur (pend.take i))
   unfold mO at cd
   simp +decide -dsimp -implicitDefEqProofs [go_sem,dbB,QAl,h,hai,QCG,wAV]
   refine QAB [1] cd rfl rfl (by simp) (by simp +decide -dsimp -implicitDefEqProofs [go_sem]) (by simp +decide -dsimp -implicitDefEqProofs [go_sem,QAp]) ?_
   simp +decide -dsimp -implicitDefEqProofs [go_sem,QAp,w]
   refine QAI (i + 1) (by show i + 1 ≤ kk; omega) (by show kk - (i + 1) < kk - i; omega) (QAD (by simp) ?_)
   rw [hnx]
   simp +decide -dsimp -implicitDefEqProofs [go_sem,dbB,QAl,hcl,doW]
   exact ⟨hsc _ _,hsc _ _⟩
 ·have e:i = kk:=by omega
  subst e
  simp +decide -dsimp -implicitDefEqProofs [go_sem,dbB,QAl]
  refine QBG [1] 1 (QLh (smK .str (QA8 dur (pend.take i)))) rfl (fun v G h=>by rw [h.2]; rfl) (by simp +decide) (by simp +decide -dsimp -implicitDefEqProofs [go_sem]) (by simp +decide -dsimp -implicitDefEqProofs [go_sem,QAp]) ?_
  rintro _ _ ⟨rfl,rfl⟩
  simp +decide -dsimp -implicitDefEqProofs [go_sem,QAp]
  refine QCJ (List.replicate 42 .junk) [dbB 1 4 5 0,mO (QA8 dur (pend.take i)),mO seen,.reg 88 1 (pend.map QCG),mO (QA8 dur (pend.take i)),.reg 88 1 []] (Wk.trans (Wk.nilB 0 2 88 1 rfl rfl (by simp)) (Wk.ren [0,1,2,3,4,5] (by decide) rfl (by decide) (fun j hj=>?_) (fun j m s l hj h=>?_) ?_ ?_)) ?_
  ·match j,hj with
   | 0,_=>rfl
   | 1,_=>rfl
   | 2,_=>rfl
   | 3,_=>rfl
  ·match j,hj with
   | 0,_=>cases h
   | 1,_=>cases h
   | 2,_=>cases h
   | 3,_=>cases h
  ·simp +decide -dsimp -implicitDefEqProofs [go_sem,dbB,QAr,QAl,QAp]
  ·simp +decide -dsimp -implicitDefEqProofs [go_sem,rnT]
  ·simp +decide -dsimp -implicitDefEqProofs [go_sem,QB7,dbB,QAl]
end Go.Ab
namespace Go.Ab
open Go Go.Proofs
def QGn (r:Rcd) (b:Bool):AV:=.tup [.agg (QAU r),.bool b]
def QH0 (m:QAs) (n:List UInt8) (r:Rcd) (b:Bool):Prop:=
 (∃ x,QAb x = true ∧ QBJ x = (QAv n m).getD [] ∧ QAw x.path = n ∧ r = x ∧ b = true) ∨ ((∀ x,QAb x = true → QBJ x = (QAv n m).getD [] → ¬ QAw x.path = n) ∧ r = QCR ∧ b = false)
theorem QEE:QAU QCR = [.str [],.int .i64 0,.imm [],.imm [],.imm [],.imm [],.imm [],.str [],.int .i64 0,.str [],.str [],.int .i64 0]:=by simp [QAU,QCR]
theorem QMY (dur seen:QAs) (pend:List Wr) (n:List UInt8) (hl:((QAv n seen).getD []).length < 50000000):
  ∃ r b,QH0 seen n r b ∧ ACalls Tryz.prog 49 [.ptr 0 0,.str n] (dbO dur seen pend) (QGn r b) (dbO dur seen pend):=by
 have hk:=QCY .str n seen
 have hf:=QCl AV.str n seen
 have hcl:=QBI
 have hsc:∀ (m:QAs) (k:Nat) (a b:AV),(a,b) ∈ smK .str m → QAM k a = true ∧ QAM k b = true:=fun m k=>QBU (k:=k) fun _=>rfl
 have hg:((QAv n seen).map AV.str).getD (.str []) = .str ((QAv n seen).getD []):=by cases QAv n seen <;> rfl
 have cd:=QPj ((QAv n seen).getD []) hl
 unfold dbO dbB mO
 rcases QKB ((QAv n seen).getD []) with ⟨x,hx,hxe,hv⟩ | ⟨hno,hv⟩
 ·rw [hv] at cd
  have hpl:QAd x.path = true:=by
   simp only [QAb,Bool.and_eq_true] at hx
   exact hx.1.1.1.1.1.1.1.1.1.1.1
  have cn:=QF3 x.path (by have:=(QBf hx).path; omega)
  unfold QKt at cn
  simp only [hpl,if_true] at cn
  have hun:∀ y,QAb y = true → QBJ y = (QAv n seen).getD [] → y = x:=fun y hy he=>QD6 hy hx (he.trans hxe.symm)
  by_cases he:QAw x.path = n
  ·refine ⟨x,true,.inl ⟨x,hx,hxe,he,rfl,rfl⟩,?_⟩
   refine QAF c49_ok rfl ?_
   unfold c49
   simp +decide -dsimp -implicitDefEqProofs [go_sem,hk,hf,hg]
   refine QAA cd rfl (by simp +decide -dsimp -implicitDefEqProofs [go_sem,QAg]) ?_
   unfold QGn
   unfold QAU
   simp +decide -dsimp -implicitDefEqProofs [go_sem]
   refine QAA cn rfl rfl ?_
   simp +decide -dsimp -implicitDefEqProofs [go_sem,he,hcl]
   exact ⟨hsc _ _,hsc _ _⟩
  ·refine ⟨QCR,false,.inr ⟨fun y hy hye hp=>he (hun y hy hye ▸ hp),rfl,rfl⟩,?_⟩
   refine QAF c49_ok rfl ?_
   unfold c49
   simp +decide -dsimp -implicitDefEqProofs [go_sem,hk,hf,hg]
   refine QAA cd rfl (by simp +decide -dsimp -implicitDefEqProofs [go_sem,QAg]) ?_
   unfold QGn
   rw [QEE]
   unfold QAU
   simp +decide -dsimp -implicitDefEqProofs [go_sem]
   refine QAA cn rfl rfl ?_
   simp +decide -dsimp -implicitDefEqProofs [go_sem,he,hcl]
   exact ⟨hsc _ _,hsc _ _⟩
 ·rw [hv] at cd
  refine ⟨QCR,false,.inr ⟨fun y hy hye _=>hno ⟨y,hy,hye⟩,rfl,rfl⟩,?_⟩
  refine QAF c49_ok rfl ?_
  unfold c49
  simp +decide -dsimp -implicitDefEqProofs [go_sem,hk,hf,hg]
  refine QAA cd rfl (by simp +decide -dsimp -implicitDefEqProofs [go_sem]) ?_
  unfold QGn
  rw [QEE]
  simp +decide -dsimp -implicitDefEqProofs [go_sem,hcl]
  exact ⟨hsc _ _,hsc _ _⟩
theorem QQh (dur seen:QAs) (pend:List Wr) (p:List UInt8) (hpl:QAd p = true) (hpn:p.length ≤ 400000) (hl:((QAv (QAw p) seen).getD []).length < 50000000):
  ∃ r b,QH0 seen (QAw p) r b ∧ ACalls Tryz.prog 20 [.ptr 0 0,.str p] (dbO dur seen pend) (QGn r b) (dbO dur seen pend):=by
 have hcl:=QBI
 have hsc:∀ (m:QAs) (k:Nat) (a b:AV),(a,b) ∈ smK .str m → QAM k a = true ∧ QAM k b = true:=fun m k=>QBU (k:=k) fun _=>rfl
 obtain ⟨r,b,h1,cr⟩:=QMY dur seen pend (QAw p) hl
 have cn:=QF3 p hpn
 unfold QKt at cn
 simp only [hpl,if_true] at cn
 refine ⟨r,b,h1,?_⟩
 refine QAF c20_ok rfl ?_
 unfold c20
 unfold QGn at cr ⊢
 unfold dbO dbB mO at cr ⊢
 simp +decide -dsimp -implicitDefEqProofs [go_sem]
 refine QAA cn rfl rfl ?_
 simp +decide -dsimp -implicitDefEqProofs [go_sem]
 refine QAB [0,1,2,3] cr rfl rfl (by simp) (by simp +decide -dsimp -implicitDefEqProofs [go_sem]) (by simp +decide -dsimp -implicitDefEqProofs [go_sem,QAp,QAr]) ?_
 unfold QAU
 simp +decide -dsimp -implicitDefEqProofs [go_sem,QAp,QAr,QBg,QD4,hcl]
 exact ⟨hsc _ _,hsc _ _⟩
end Go.Ab
namespace Go.Ab
open Go Go.Proofs
def QWv (a b:UInt8):UInt8:=UInt8.ofNat (16 * (hexL.idxOf a) + hexL.idxOf b)
theorem QDY {a b:List UInt8} (h:QAw a = QAw b):a = b:=by
 have f:∀ c:UInt8,QWv (QFK (c.toNat / 16)) (QFK (c.toNat % 16)) = c:=by
  intro c
  have key:∀ n:Nat,n < 256 → QWv (QFK (n / 16)) (QFK (n % 16)) = UInt8.ofNat n:=by decide +kernel
  have:=key c.toNat (UInt8.toNat_lt c)
  rwa [UInt8.ofNat_toNat] at this
 rw [← QJh QWv f a,h,QJh QWv f b]
theorem QFJ {m:QAs} (h:QAx m) (w:Wr) (k:List UInt8):QAv k (doW m w) = if w.1 = k then w.2 else QAv k m:=by
 obtain ⟨n,o⟩:=w
 cases o with
 | some t=>simp only [doW]; rw [QBQ]
 | none=>simp only [doW]; rw [QCK _ _ h]
theorem QO6 {m:QAs} (h:QAx m) (w:Wr):QAx (doW m w):=by
 obtain ⟨n,o⟩:=w
 cases o with
 | some t=>exact QD8 _ _ h
 | none=>exact QD9 _ h
theorem QCa:∀ (l:List Wr) {m:QAs},QAx m → QAx (QA8 m l)
 | [],_,h=>h
 | w :: r,m,h=>QCa r (m:=doW m w) (QO6 h w)
theorem QF0 (m:QAs) (l:List Wr) (w:Wr) (j:Nat):QA8 m ((l ++ [w]).take j) = QA8 m (l.take j) ∨ QA8 m ((l ++ [w]).take j) = doW (QA8 m (l.take j)) w:=by
 by_cases h:j ≤ l.length
 ·left; rw [List.take_append_of_le_length h]
 ·right
  rw [List.take_of_length_le (by simp; omega),List.take_of_length_le (by omega)]
  simp [QA8]

structure Inv (dur seen:QAs) (pend:List Wr) (syn now:QB1 Rcd) (tch:QB1 Bool):Prop where
 o1:QAx seen
 od:QAx dur
 on:QAx now
 os:QAx syn
 sees:∀ p r,QAv p now = some r → QAd p = true ∧ QAb r = true ∧ r.path = p ∧ QAv (QAw p) seen = some (QBJ r)
 only:∀ n,QAv n seen ≠ none → ∃ p r,n = QAw p ∧ QAv p now = some r
 keep:∀ p r,QAv p syn = some r → QAv p tch ≠ some true → ∀ j,QAv (QAw p) (QA8 dur (pend.take j)) = some (QBJ r)
 syp:∀ p r,QAv p syn = some r → QAd p = true ∧ QAb r = true ∧ r.path = p
 tx:∀ n t,QAv n seen = some t → t.length ≤ 40000
 txk:∀ j n t,QAv n (QA8 dur (pend.take j)) = some t → t.length ≤ 40000

section
variable {dur seen:QAs} {pend:List Wr} {syn now:QB1 Rcd} {tch:QB1 Bool}
theorem Inv.sync (h:Inv dur seen pend syn now tch) {syn':QB1 Rcd} (h1:∀ p,QAv p syn' = QAv p now) (h2:QAx syn'):Inv seen seen [] syn' now []:=by
 refine ⟨h.o1,h.o1,h.on,h2,h.sees,h.only,fun p r hp _ j=>?_,fun p r hp=>?_,h.tx,fun j n t hn=>?_⟩
 ·rw [h1] at hp; simpa [QA8] using (h.sees p r hp).2.2.2
 ·rw [h1] at hp; have:=h.sees p r hp; exact ⟨this.1,this.2.1,this.2.2.1⟩
 ·exact h.tx n t (by simpa [QA8] using hn)
theorem Inv.put (h:Inv dur seen pend syn now tch) {r:Rcd} (hS:QAb r = true) (hp:QAd r.path = true):
  Inv dur (QC4 (QAw r.path) (QBJ r) seen) (pend ++ [(QAw r.path,some (QBJ r))]) syn (QC4 r.path r now) (QC4 r.path true tch):=by
 have hl:=QC7 hS
 refine ⟨QD8 _ _ h.o1,h.od,QD8 _ _ h.on,h.os,fun p q hq=>?_,fun n hn=>?_,fun p q hq ht j=>?_,h.syp,fun n t hn=>?_,fun j n t hn=>?_⟩
 ·rw [QBQ] at hq
  by_cases e:r.path = p
  ·rw [if_pos e] at hq; cases hq
   exact ⟨e ▸ hp,hS,e,by rw [QBQ,e,if_pos rfl]⟩
  ·rw [if_neg e] at hq
   have:=h.sees p q hq
   exact ⟨this.1,this.2.1,this.2.2.1,by rw [QBQ,if_neg fun x=>e (QDY x)]; exact this.2.2.2⟩
 ·rw [QBQ] at hn
  by_cases e:QAw r.path = n
  ·exact ⟨r.path,r,e.symm,by rw [QBQ,if_pos rfl]⟩
  ·rw [if_neg e] at hn
   obtain ⟨p,q,h1,h2⟩:=h.only n hn
   exact ⟨p,q,h1,by rw [QBQ,if_neg fun x=>e (by rw [x,h1])]; exact h2⟩
 ·rw [QBQ] at ht
  by_cases e:r.path = p
  ·rw [if_pos e] at ht; exact (ht rfl).elim
  ·rw [if_neg e] at ht
   have hk:=h.keep p q hq ht
   rcases QF0 dur pend (QAw r.path,some (QBJ r)) j with h1 | h1
   ·rw [h1]; exact hk j
   ·rw [h1,QFJ (QCa _ h.od),if_neg fun x=>e (QDY x)]; exact hk j
 ·rw [QBQ] at hn
  split at hn
  ·cases hn; exact hl
  ·exact h.tx n t hn
 ·rcases QF0 dur pend (QAw r.path,some (QBJ r)) j with h1 | h1
  ·rw [h1] at hn; exact h.txk j n t hn
  ·rw [h1,QFJ (QCa _ h.od)] at hn
   split at hn
   ·cases hn; exact hl
   ·exact h.txk j n t hn
theorem Inv.del (h:Inv dur seen pend syn now tch) (p:List UInt8):
  Inv dur (QDt (QAw p) seen) (pend ++ [(QAw p,none)]) syn (QDt p now) (QC4 p true tch):=by
 refine ⟨QD9 _ h.o1,h.od,QD9 _ h.on,h.os,fun q r hq=>?_,fun n hn=>?_,fun q r hq ht j=>?_,h.syp,fun n t hn=>?_,fun j n t hn=>?_⟩
 ·rw [QCK _ _ h.on] at hq
  split at hq
  ·cases hq
  ·rename_i e
   have:=h.sees q r hq
   exact ⟨this.1,this.2.1,this.2.2.1,by rw [QCK _ _ h.o1,if_neg fun x=>e (QDY x)]; exact this.2.2.2⟩
 ·rw [QCK _ _ h.o1] at hn
  split at hn
  ·exact (hn rfl).elim
  ·rename_i e
   obtain ⟨q,r,h1,h2⟩:=h.only n hn
   exact ⟨q,r,h1,by rw [QCK _ _ h.on,if_neg fun x=>e (by rw [x,h1])]; exact h2⟩
 ·rw [QBQ] at ht
  by_cases e:p = q
  ·rw [if_pos e] at ht; exact (ht rfl).elim
  ·rw [if_neg e] at ht
   have hk:=h.keep q r hq ht
   rcases QF0 dur pend (QAw p,none) j with h1 | h1
   ·rw [h1]; exact hk j
   ·rw [h1,QFJ (QCa _ h.od),if_neg fun x=>e (QDY x)]; exact hk j
 ·rw [QCK _ _ h.o1] at hn
  split at hn
  ·cases hn
  ·exact h.tx n t hn
 ·rcases QF0 dur pend (QAw p,none) j with h1 | h1
  ·rw [h1] at hn; exact h.txk j n t hn
  ·rw [h1,QFJ (QCa _ h.od)] at hn
   split at hn
   ·cases hn
   ·exact h.txk j n t hn
theorem Inv.del0 (h:Inv dur seen pend syn now tch) {p:List UInt8} (hp:QAv p now = none):Inv dur seen pend syn (QDt p now) (QC4 p true tch):=by
 have hn:∀ q,QAv q (QDt p now) = QAv q now:=fun q=>by
  rw [QCK _ _ h.on]
  split
  ·rename_i e; rw [← e,hp]
  ·rfl
 refine ⟨h.o1,h.od,QD9 _ h.on,h.os,fun q r hq=>h.sees q r (by rw [← hn]; exact hq),fun n h1=>?_,fun q r hq ht j=>?_,h.syp,h.tx,h.txk⟩
 ·obtain ⟨q,r,h2,h3⟩:=h.only n h1
  exact ⟨q,r,h2,by rw [hn]; exact h3⟩
 ·rw [QBQ] at ht
  by_cases e:p = q
  ·rw [if_pos e] at ht; exact (ht rfl).elim
  ·rw [if_neg e] at ht; exact h.keep q r hq ht j
end
end Go.Ab
