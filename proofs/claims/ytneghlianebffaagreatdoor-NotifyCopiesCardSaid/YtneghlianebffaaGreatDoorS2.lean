/- Maps with text keys as the kit knows them; a new object beside the others. -/
import Derived.Test.YtneghlianebffaaGreatDoorA5
import Derived.Sort.KeysCollected
import Derived.Shelf.SlIter.Nil
import Derived.Shelf.SlIter.Collect
import Derived.Test.YtneghlianebffaaGreatDoorProg
import Derived.Test.YtneghlianebffaaGreatDoorB1
import Derived.Test.YtneghlianebffaaGreatDoorA6
import Derived.Test.YtneghlianebffaaGreatDoorS1
import Derived.Test.YtneghlianebffaaGreatDoorB2
import Derived.Test.YtneghlianebffaaGreatDoorW2
import Derived.Test.YtneghlianebffaaGreatDoorW3
set_option maxRecDepth 20000
namespace Go.Ab
open Go Go.RowKit Go.Maps Go.Sort Go.Proofs
variable {β:Type}
def ksS (m:QAy β):List (List UInt8):=m.filterMap (fun o=>o.map (·.1))
theorem QIB {m:QAy β} {k:List UInt8} (h:QBI m):k ∈ ksS m ↔ (QAo k m).isSome = true:=by
 induction m with
 | nil=>simp [ksS,QAo]
 | cons o r ih=>
  cases o with
  | none=>simpa [ksS,QAo] using ih (by simpa [QBI] using h)
  | some p=>
   have hr:=ih (by simp only [QBI] at h; exact h.2)
   simp only [ksS,QAo,List.filterMap_cons,Option.map_some,List.mem_cons] at hr ⊢
   by_cases e:p.1 = k
   ·rw [if_pos e]; exact ⟨fun _=>rfl,fun _=>.inl e.symm⟩
   ·rw [if_neg e,← hr]
    exact ⟨fun h=>h.resolve_left fun h=>e h.symm,.inr⟩
theorem QEK:∀ {m:QAy β},QBI m → (ksS m).Nodup
 | [],_=>by simp [ksS]
 | none :: r,h=>by simpa [ksS] using QEK (m:=r) h
 | some p :: r,h=>by
  simp only [QBI] at h
  have hr:=QEK h.2
  simp only [ksS,List.filterMap_cons,Option.map_some,List.nodup_cons] at hr ⊢
  refine ⟨fun hm=>?_,hr⟩
  have:=(QIB h.2).1 (by simpa [ksS] using hm)
  rw [h.1] at this; cases this
theorem QJ0:∀ m:QAy β,(ksS m).length = QEG m
 | []=>rfl
 | none :: r=>by simpa [ksS,QEG] using QJ0 r
 | some p :: r=>by have:=QJ0 r; simp only [ksS,List.filterMap_cons,Option.map_some,List.length_cons,QEG] at this ⊢; rw [this]
theorem QL8 {c:Cx} {f:β → AV}:∀ {m:QAy β} {n:Nat} {es:List MapEntry},Kvs c (smK f m) n es → es.map (·.key) = (ksS m).map encStr ∧ (∀ e ∈ es,n ≤ e.born ∧ e.born < n + m.length) ∧ (es.map (·.born)).Nodup
 | [],n,es,h=>by simp only [smK,List.map_nil,Kvs] at h; subst h; simp [ksS]
 | none :: r,n,es,h=>by
  simp only [smK,List.map_cons,QES,Kvs,QB7,if_true] at h
  obtain ⟨h1,h2,h3⟩:=QL8 (m:=r) h
  refine ⟨by simpa [ksS] using h1,fun e he=>?_,h3⟩
  have:=h2 e he
  simp only [List.length_cons]; omega
 | some p :: r,n,es,h=>by
  simp only [smK,List.map_cons,QES,Kvs,QB7,Bool.false_eq_true,if_false] at h
  obtain ⟨e,es',rfl,hk,_,hb,hr⟩:=h
  obtain ⟨h1,h2,h3⟩:=QL8 (m:=r) hr
  simp only [Val] at hk
  refine ⟨?_,fun x hx=>?_,?_⟩
  ·simp only [ksS,List.map_cons,List.filterMap_cons,Option.map_some] at h1 ⊢
   rw [h1,hk]
   try rfl
  ·simp only [List.mem_cons] at hx
   simp only [List.length_cons]
   rcases hx with rfl | hx
   ·omega
   ·have:=h2 x hx; omega
  ·simp only [List.map_cons,List.nodup_cons,h3,and_true,List.mem_map,not_exists,not_and]
   intro x hx hxb
   have:=h2 x hx; omega
theorem QRI {c:Cx} {w':World} {v:Value} {e n:Nat} {ss:List (List UInt8)} (h:w'.ownsRow c.w.heap.size e 1 v n (ss.map encStr)) (hn:ss.length = n):
  ∀ c':Cx,c'.w = w' → c'.μ[c.H.length]? = some v → QLE c' c.H.length (.reg e 1 (ss.map fun k=>[.str k])):=by
 intro c' hw hm
 subst hw
 refine ⟨v,hm,?_⟩
 rcases h.2 with ⟨rfl,h0⟩ | ⟨g,cap,cur,rfl,_,hg,h1,h2,h3,h4⟩
 ·refine .inl ⟨rfl,?_⟩
  have:ss = []:=List.eq_nil_of_length_eq_zero (by omega)
  subst this; rfl
 ·refine .inr ⟨g,0,cap,cur,by simp [hn],hg,by simp [hn,h1],h2,⟨by omega,fun _=>rfl⟩,?_⟩
  have key:∀ (l:List (List UInt8)) (off:Nat),(∀ j s,l[j]? = some s → cur[off + j]? = some (encStr s)) → QAh c' (l.map fun k=>[AV.str k]) g off 1:=by
   intro l
   induction l with
   | nil=>intro off _; simp [QAh]
   | cons s r ih=>
    intro off hc
    simp only [List.map_cons,QAh]
    refine ⟨rfl,?_,ih (off + 1) fun j x hj=>?_⟩
    ·simp only [QBN,and_true]
     refine ⟨encStr s,?_,by simp [Value.oneCell'],by simp [Val,encStr]⟩
     have:=hc 0 s rfl
     simp only [Nat.add_zero] at this
     simp [World.cell?,hg,this]
    ·have:=hc (j + 1) x (by simpa using hj)
     rw [← this]; congr 1; omega
  refine key ss 0 fun j s hj=>?_
  have hj2:(cur.toList.take (n * 1))[j]? = some (encStr s):=by rw [h4,List.getElem?_map,hj]; rfl
  have hjl:j < n * 1:=by have:=(List.getElem?_eq_some_iff.1 hj).1; omega
  rw [List.getElem?_take_of_lt hjl] at hj2
  simpa using hj2
def noR (_:Value):Option (DataW Unit × List MemPlace):=some (.nil,[])
theorem QL9 {c:Cx} {f:β → AV} {m:QAy β} {P:Program} {k r:Nat} {es:Array MapEntry} (hP:P.underlying k = some .string) (h1:QBI m) (hl:∀ x ∈ ksS m,x.length ≤ maxLen) (hn:m.length ≤ 1000000)
  (hh:c.w.heap[r]? = some (.map es m.length)) (hk:Kvs c (smK f m) 0 es.toList):
  ∃ D0:DataW Unit,c.w.ownsMap P k noR r m.length D0 ∧ (strKeys D0).Perm (ksS m) ∧ Maps.size D0 ≤ 1000000:=by
 obtain ⟨g1,g2,g3⟩:=QL8 hk
 have hlen:es.size ≤ m.length:=by
  have:(es.toList.map (·.key)).length = (ksS m).length:=by rw [g1]; simp
  have h2:(ksS m).length ≤ m.length:=List.length_filterMap_le _ _
  simp only [List.length_map,Array.length_toList] at this; omega
 have hkey:∀ x ∈ es.toList,∃ s ∈ ksS m,x.key = encStr s:=fun x hx=>by
  have:x.key ∈ es.toList.map (·.key):=List.mem_map.2 ⟨x,hx,rfl⟩
  rw [g1] at this
  obtain ⟨s,hs,e⟩:=List.mem_map.1 this
  exact ⟨s,hs,e.symm⟩
 have hrd:∀ x ∈ es.toList,∀ s,x.key = encStr s → s ∈ ksS m → Go.WideElems.rd P k noR x = some (.string s,.nil):=fun x _ s e hs=>by
  have:=hl s hs
  simp [Go.WideElems.rd,e,keyOf,hP,mapKey,encStr,noR,ByteArray.size,this]
 refine ⟨_,⟨es,m.length,hh,⟨?_,⟨?_,g3,?_⟩,?_⟩,hlen,rfl⟩,?_,?_⟩
 ·exact Nat.le_trans (Nat.le_trans hlen hn) (by decide)
 ·intro x hx; have:=(g2 x hx).2; omega
 ·rw [g1]
  exact (List.pairwise_map.2 ((QEK h1).imp fun hne e=>hne (encStr_inj e)))
 ·intro x hx
  obtain ⟨s,hs,e⟩:=hkey x hx
  exact ⟨_,hrd x hx s e hs⟩
 ·show (((es.toList.map (Go.WideElems.rg P k noR)).foldr DataW.insert []).map fun p=>strOf p.1).Perm _
  refine ((Go.WideShapes.sorted_perm _).map _).trans (List.Perm.of_eq ?_)
  have hmap:∀ x ∈ es.toList,((fun p:Lit × DataW Unit=>encStr (strOf p.1)) ∘ Go.WideElems.rg P k noR) x = x.key:=fun x hx=>by
   obtain ⟨s,hs,e⟩:=hkey x hx
   simp [Go.WideElems.rg,hrd x hx s e hs,strOf,e]
  have he:(((es.toList.map (Go.WideElems.rg P k noR)).map fun p=>strOf p.1).map encStr) = (ksS m).map encStr:=by
   rw [List.map_map,List.map_map,← g1]
   exact List.map_congr_left hmap
  exact (List.map_inj_right fun a b=>encStr_inj).1 he
 ·show ((es.toList.map (Go.WideElems.rg P k noR)).foldr DataW.insert []).length ≤ _
  rw [length_sorted]; simp; omega
variable [Glob]
theorem QRJ {c:Cx} (hr:Rel c) {x':AObj} {v':Value} {w':World} (hk:Below c.w.heap.size c.w w') (hb:∀ b,blk v' = some b → c.w.heap.size ≤ b)
  (hok:∀ c':Cx,c'.w = w' → c'.μ[c.H.length]? = some v' → QLE c' c.H.length x'):
  Rel ⟨c.F,c.μ ++ [v'],c.H ++ [x'],w'⟩ ∧ Ext c ⟨c.F,c.μ ++ [v'],c.H ++ [x'],w'⟩:=by
 obtain ⟨r1,e1⟩:=QDa hr
 have hs1:(c.H ++ [AObj.unborn]).set c.H.length x' = c.H ++ [x']:=by simp
 have hs2:(c.μ ++ [Value.pointer none]).set c.H.length v' = c.μ ++ [v']:=by rw [← hr.len]; simp
 have hU:=QC3 (c:={ c with μ:=c.μ ++ [.pointer none],H:=c.H ++ [.unborn] }) r1 (o:=c.H.length) (x:=.unborn) (x':=x') (v':=v') (F':=c.F) (w':=w') (by simp) (by simp [OStep]) (fun _ h=>h) (fun _ h=>.inl h)
  (fun b h _=>hk.block b h) hk.size hk.os hk.tape hk.output (fun b _ h=>.inl (hb b h)) (fun _=>hok _ rfl (by rw [hs2,← hr.len]; simp))
 rw [hs1,hs2] at hU
 exact ⟨hU.1,e1.trans hU.2⟩
end Go.Ab
namespace Go.Proofs
open Go.Shelf
def Tryz.keys42_ren:Go.Shelf.Ren:=⟨fun | 7=>53 | 10=>94 | n=>n,fun | 23=>79 | 26=>9 | 3=>36 | 28=>102 | 0=>0 | 27=>101 | 33=>85 | 4=>4 | n=>n,fun | n=>n⟩
theorem Tryz.keys42:Go.Proofs.SlLaysZ.n7 Tryz.prog Tryz.keys42_ren:={
 mixed:=by kernel_rfl
 f7:=⟨Tryz.f53.name,by decide,Tryz.func53.trans (congrArg some (by kernel_rfl))⟩
 f10:=⟨Tryz.f94.name,by decide,Tryz.func94.trans (congrArg some (by kernel_rfl))⟩
 t0:=Tryz.underlying0
 a0:=Tryz.isAgg0
 z0:=Tryz.sizeOf0
 v0:=Tryz.zeroValue0
 t4:=Tryz.underlying4
 a4:=Tryz.isAgg4
 z4:=Tryz.sizeOf4
 v4:=Tryz.zeroValue4
 t23:=Tryz.underlying79
 a23:=Tryz.isAgg79
 z23:=Tryz.sizeOf79
 v23:=Tryz.zeroValue79
 t26:=Tryz.underlying9
 a26:=Tryz.isAgg9
 z26:=Tryz.sizeOf9
 v26:=Tryz.zeroValue9
 t27:=Tryz.underlying101
 a27:=Tryz.isAgg101
 z27:=Tryz.sizeOf101
 v27:=Tryz.zeroValue101
 t28:=Tryz.underlying102
 a28:=Tryz.isAgg102
 z28:=Tryz.sizeOf102
 v28:=Tryz.zeroValue102
 t33:=Tryz.underlying85
 a33:=Tryz.isAgg85
 z33:=Tryz.sizeOf85
 v33:=Tryz.zeroValue85 }
def Tryz.collect70_ren:Go.Shelf.Ren:=⟨fun | 8=>93 | 11=>134 | n=>n,fun | 26=>9 | 28=>102 | 24=>34 | 0=>0 | 33=>85 | 4=>4 | n=>n,fun | n=>n⟩
theorem Tryz.collect70:Go.Proofs.SlLaysZ.n8 Tryz.prog Tryz.collect70_ren:={
 mixed:=by kernel_rfl
 f8:=⟨Tryz.f93.name,by decide,Tryz.func93.trans (congrArg some (by kernel_rfl))⟩
 f11:=⟨Tryz.f134.name,by decide,Tryz.func134.trans (congrArg some (by kernel_rfl))⟩
 t0:=Tryz.underlying0
 a0:=Tryz.isAgg0
 z0:=Tryz.sizeOf0
 v0:=Tryz.zeroValue0
 t24:=Tryz.underlying34
 a24:=Tryz.isAgg34
 z24:=Tryz.sizeOf34
 v24:=Tryz.zeroValue34
 t26:=Tryz.underlying9
 a26:=Tryz.isAgg9
 z26:=Tryz.sizeOf9
 v26:=Tryz.zeroValue9
 t28:=Tryz.underlying102
 a28:=Tryz.isAgg102
 z28:=Tryz.sizeOf102
 v28:=Tryz.zeroValue102
 i26:=by kernel_rfl }
end Go.Proofs
namespace Go.Ab
open Go Go.Proofs Go.Sort
theorem QWp {β:Type} (k:Nat) (f:β → AV) (hf:∀ x,QAE k (f x) = true) (m:QAy β):((smK f m).all fun p=>QAE k p.1 && QAE k p.2) = true:=by
 refine List.all_eq_true.2 fun p hp=>?_
 obtain ⟨o,_,rfl⟩:=List.mem_map.1 hp
 cases o with
 | none=>rfl
 | some q=>simp [QES,QAE,hf]
theorem QTr {β:Type} {k:Nat} {f:β → AV} (hf:∀ x,QAE k (f x) = true) {m:QAy β}:∀ a b:AV,(a,b) ∈ smK f m → QAE k a = true ∧ QAE k b = true:=fun a b h=>by
 have:=List.all_eq_true.1 (QWp k f hf m) (a,b) h
 simpa using this
theorem QJ1 {β:Type} {k:List UInt8} {v:β}:∀ {m:QAy β} {j:Nat},m[j]? = some (some (k,v)) → QAo k m ≠ none
 | [],j,h=>by simp at h
 | none :: r,0,h=>by simp at h
 | none :: r,j + 1,h=>by simpa [QAo] using QJ1 (m:=r) (j:=j) (by simpa using h)
 | some p :: r,0,h=>by simp at h; subst h; simp [QAo]
 | some p :: r,j + 1,h=>by
  have:=QJ1 (m:=r) (j:=j) (by simpa using h)
  simp only [QAo]
  split
  ·simp
  ·exact this
theorem QPF {β:Type} {k:List UInt8} {v w:β}:∀ {m:QAy β} {i j:Nat},QBI m → m[i]? = some (some (k,v)) → m[j]? = some (some (k,w)) → i = j
 | [],i,j,_,h,_=>by simp at h
 | none :: r,0,_,_,h,_=>by simp at h
 | none :: r,_ + 1,0,_,_,h=>by simp at h
 | none :: r,i + 1,j + 1,ho,h1,h2=>by rw [QPF (m:=r) (i:=i) (j:=j) ho (by simpa using h1) (by simpa using h2)]
 | some p :: r,0,0,_,_,_=>rfl
 | some p :: r,0,j + 1,ho,h1,h2=>by
  simp at h1; subst h1
  exact absurd ho.1 (QJ1 (m:=r) (j:=j) (by simpa using h2))
 | some p :: r,i + 1,0,ho,h1,h2=>by
  simp at h2; subst h2
  exact absurd ho.1 (QJ1 (m:=r) (j:=i) (by simpa using h1))
 | some p :: r,i + 1,j + 1,ho,h1,h2=>by rw [QPF (m:=r) (i:=i) (j:=j) ho.2 (by simpa using h1) (by simpa using h2)]
theorem QMA (is:List Nat) {β:Type} (f:β → AV) (hf:∀ x,ren is (f x) = f x) (m:QAy β):QEw is (smK f m) = smK f m:=by
 rw [QGn]
 simp only [smK,List.map_map]
 refine List.map_congr_left fun o _=>?_
 cases o with
 | none=>rfl
 | some p=>simp [QES,ren,hf]
end Go.Ab
namespace Go.Ab
open Go Go.Proofs Go.RowKit Go.Maps Go.Sort Go.Shelf
section
variable {β:Type}
theorem QWq (f:β → AV) (m:QAy β):ACallsR Tryz.prog 53 [.map 0] [.map (smK f m)] (fun v G=>v = .fn (.func 94) [] [.ptr 1 0] ∧ G = [.map (smK f m),.box 79 [.map 0]]):=by
 refine QDd _ c53_ok ?_
 unfold c53
 refine gs ?_
 refine QAj _ _ (.refl _ _) ?_
 simp +decide -dsimp -implicitDefEqProofs [go_sem,QBG]
def colR (f:β → AV) (m:QAy β) (v:AV) (G:List AObj):Prop:=∃ ks:List Txt,ks.Perm (ksS m) ∧ v = .own 2 ks.length ∧ G = [.map (smK f m),.box 79 [.map 0],.reg 9 1 (ks.map QAT)]
theorem QPG (f:β → AV) (m:QAy β) (h1:QBI m) (hl:∀ x ∈ ksS m,x.length ≤ maxLen) (hn:m.length ≤ 1000000):
  ACallsR Tryz.prog 93 [.fn (.func 94) [] [.ptr 1 0]] [.map (smK f m),.box 79 [.map 0]] (colR f m):=by
 refine ⟨by kernel_rfl,fun c vs hH hr hv=>?_⟩
 obtain ⟨v0,_,rfl,hv0,rfl⟩:=hv
 obtain ⟨vf,vc,rfl,hvf,hvc⟩:=hv0
 have hvf':vf = #[]:=by simpa [QA3] using hvf
 subst hvf'
 simp only [QA3] at hvc
 obtain ⟨vp,_,hvc,hp,rfl⟩:=hvc
 obtain ⟨e,cs,b,h1b,hmu1,rfl⟩:=hp
 have hvc':vc = #[.pointer (some ⟨b,0,none⟩)]:=by rw [← Array.toList_inj,hvc]
 subst hvc'
 have hH0:c.H[0]? = some (.map (smK f m)):=by rw [hH]; rfl
 have hH1:c.H[1]? = some (.box 79 [.map 0]):=by rw [hH]; rfl
 obtain ⟨b',arr,hm1,hb,has,hcells⟩:=hr.obj 1 _ hH1
 rw [hmu1] at hm1
 simp only [Option.some.injEq,Value.pointer.injEq,Addr.mk.injEq,and_true] at hm1
 subst hm1
 obtain ⟨⟨vm,hcell,_,hvm⟩,_⟩:=hcells
 obtain ⟨kvs,r,_,hmu0,rfl⟩:=hvm
 obtain ⟨r',es,hm0,hheap,hkvs⟩:=hr.obj 0 _ hH0
 rw [hmu0] at hm0
 simp only [Option.some.injEq,Value.map.injEq] at hm0
 subst hm0
 rw [QDh] at hheap
 obtain ⟨D0,hown,hperm,hsz⟩:=QL9 (P:=Tryz.prog) (k:=9) Tryz.underlying9 h1 hl hn hheap hkvs
 have hblt:b < c.w.heap.size:=(Array.getElem?_eq_some_iff.1 hb).1
 have hseq:SeqGives Fence.wide 3 Tryz.prog 94 #[.pointer (some ⟨b,0,none⟩)] encStr (fun ss=>ss.Perm (strKeys D0)) (Maps.size D0) c.w:=
  AnyZ.keys_gives (ρ:=Tryz.keys42_ren) { Tryz.keys42 with } Fence.wide _ trivial rfl (by omega) b r m.length D0 _ hblt hcell hown
 have hk:=callsIn_wide.1 (AnyZ.collect_in Tryz.collect70 Fence.wide 5 trivial trivial rfl (by omega) 94 #[.pointer (some ⟨b,0,none⟩)] trivial (enters_of Tryz.func94 (by kernel_rfl) rfl) _ _ (Nat.le_trans hsz (by decide)) (by omega) _ hseq)
 refine hk.mono fun e w' hq=>?_
 obtain ⟨v,ss,rfl,hS,hrow,_,hbel⟩:=hq
 obtain ⟨r1,e1⟩:=QRJ hr hbel (v':=v) (x':=.reg 9 1 (ss.map fun k=>[.str k])) (fun q hq=>by
  rcases hrow.2 with ⟨rfl,_⟩ | ⟨g,cap,cur,rfl,hg,_⟩
  ·cases hq
  ·cases hq; exact hg) (fun c' hw hm=>QRI hrow rfl c' hw hm)
 refine ⟨v,_,.own 2 ss.length,rfl,rfl,⟨ss,hS.trans hperm,rfl,by rw [hH]; rfl⟩,r1,e1,?_⟩
 have hl2:c.H.length = 2:=by rw [hH]; rfl
 have hm2:c.μ.length = 2:=by rw [hr.len,hl2]
 simp only [Val]
 refine ⟨?_,.inl ⟨9,1,ss.map fun k=>[.str k],?_,Nat.le_of_eq (by rw [List.length_map]),fun _=>?_⟩⟩
 ·rcases hrow.2 with ⟨rfl,_⟩ | ⟨g,cap,cur,rfl,_⟩
  ·exact ⟨_,_,_,rfl⟩
  ·exact ⟨_,_,_,rfl⟩
 ·show (c.H ++ _)[2]? = _
  rw [← hl2]; simp
 ·show (c.μ ++ _)[2]? = _
  rw [← hm2]; simp
def sfR (f:β → AV) (m:QAy β) (v:AV) (G:List AObj):Prop:=∃ ks:List Txt,ks.Perm (ksS m) ∧ (ks.Pairwise fun a b=>ltP a b = true) ∧ v = .own 2 ks.length ∧ G = [.map (smK f m),.box 79 [.map 0],.reg 9 1 (ks.map QAT)]
theorem QPH (f:β → AV) (hf:∀ k x,QAE k (f x) = true) (hfr:∀ is x,ren is (f x) = f x) (m:QAy β) (h1:QBI m) (hp:∀ x ∈ ksS m,QAf x = true) (hn:(ksS m).length ≤ 100000) (hm:m.length ≤ 1000000):
  ACallsR Tryz.prog 52 [.fn (.func 94) [] [.ptr 1 0],.fn (.func 54) [] []] [.map (smK f m),.box 79 [.map 0]] (sfR f m):=by
 have hsc:∀ (m:QAy β) (k:Nat) (a b:AV),(a,b) ∈ smK f m → QAE k a = true ∧ QAE k b = true:=fun m k=>QTr (k:=k) (hf k)
 have hsr:∀ is,QEw is (smK f m) = smK f m:=fun is=>QMA is f (hfr is) m
 refine QDd _ cqq ?_
 refine gs ?_
 refine QHD [0,1] 1 (QPG f m h1 (fun x hx=>Nat.le_trans (QBV (hp x hx)) (by decide)) hm) rfl (fun v G ⟨_,_,_,hG⟩=>by rw [hG]; rfl) (by simp +decide) (by simp +decide -dsimp -implicitDefEqProofs [go_sem]) (by simp +decide -dsimp -implicitDefEqProofs [go_sem,hsr]) ?_
 rintro _ _ ⟨ks,hk,rfl,rfl⟩
 have hnd:ks.Nodup:=hk.nodup_iff.2 (QEK h1)
 have hkl:=hk.length_eq
 have cs:=QJZ ks (by omega) (fun x hx=>hp x (hk.mem_iff.1 hx)) hnd
 simp +decide -dsimp -implicitDefEqProofs [go_sem,hsr]
 refine QBc [2] cs rfl (fun v G ⟨_,_,_,_,hG⟩=>by rw [hG]; rfl) (by simp) (by simp +decide -dsimp -implicitDefEqProofs [go_sem]) (by simp +decide -dsimp -implicitDefEqProofs [go_sem]) ?_
 rintro _ _ ⟨rfl,l',q1,q2,rfl⟩
 have hl2:l'.length = ks.length:=q1.length_eq
 refine gs ?_
 refine QAj _ _ (.refl _ _) ?_
 simp +decide -dsimp -implicitDefEqProofs [go_sem,QBG]
 exact ⟨l',q1.trans hk,q2,by rw [hl2],rfl⟩
end
end Go.Ab
namespace Go.Ab
open Go Go.Proofs
deriving instance DecidableEq for Ntc

structure RSb where
 name:Txt
 f:Flt
 wait:List Ntc
 sees:List Txt
 behind:Bool
structure RBus where
 ready:List Rcd
 subs:List RSb
 last:Int
def QFQ (l:List Txt) (s:Txt):List Txt:=l.filter fun x=>decide (x ≠ s)
def QCX (n:Ntc) (s:RSb):RSb:=
 if s.behind then { s with sees:=QFQ s.sees n.rc.path ++ (if n.kind = 1 then [n.rc.path] else []) }
 else if s.wait.length = 64 then { s with sees:=QFQ s.sees n.rc.path ++ (if n.kind = 1 then [n.rc.path] else []),wait:=[],behind:=true }
 else { s with sees:=QFQ s.sees n.rc.path ++ (if n.kind = 1 then [n.rc.path] else []),wait:=s.wait ++ [n] }
def QAp (q:Int) (r:Rcd) (rdy:Bool) (s:RSb):RSb:=
 if rdy = true ∧ QA4 s.f r = true then QCX ⟨q,1,r⟩ s else if r.path ∈ s.sees then QCX ⟨q,2,r⟩ s else s
def RBus.tell (W:RBus) (r:Rcd) (rdy:Bool):RBus:={ W with subs:=W.subs.map (QAp (W.last + 1) r rdy),last:=W.last + 1 }
def RBus.at (W:RBus) (p:Txt):Option Rcd:=W.ready.find? fun r=>decide (r.path = p)
def QBk (l:List Rcd) (p:Txt):List Rcd:=l.filter fun r=>decide (r.path ≠ p)
def QFe (l:List Rcd) (r:Rcd):Nat → Nat
 | 0=>0
 | k + 1=>if QFA r.path ((l[k]?.map (·.path)).getD []) < 0 then QFe l r k else k + 1
def QFu (l:List Rcd) (r:Rcd):List Rcd:=l.take (QFe l r l.length) ++ r :: l.drop (QFe l r l.length)
def QBn (p:Txt):Txt:=if 2 ≤ (QAZ p).length then QCR p else []
def RBus.readyR (W:RBus) (r:Rcd):RBus × Int:=
 if QAk r = true then
  if QBn r.path ≠ [] ∧ (W.at (QBn r.path)).isSome = false then (W,305)
  else match W.at r.path with
   | some x=>if x.index = r.index then (({ W with ready:=QFu (QBk W.ready r.path) r }:RBus).tell r true,0) else (W,306)
   | none=>(({ W with ready:=QFu (QBk W.ready r.path) r }:RBus).tell r true,0)
 else (W,304)
def RBus.goneR (W:RBus) (p:Txt):RBus × Int:=
 match W.at p with
 | none=>(W,307)
 | some r=>if W.ready.any (fun x=>QEv p x.path) then (W,308) else (({ W with ready:=QBk W.ready p }:RBus).tell r false,0)
def RBus.find (W:RBus) (n:Txt):Option RSb:=W.subs.find? fun t=>decide (t.name = n)
def RBus.subR (W:RBus) (n:Txt) (f:Flt):RBus × Int:=
 if QAe n = true then (if QCD f.sub ≠ 0 ∨ (f.tag ≠ [] ∧ QCD f.tag ≠ 0) then (W,301) else if (W.find n).isSome then (W,302) else if 16 ≤ W.subs.length then (W,303) else ({ W with subs:=W.subs ++ [⟨n,f,[],[],true⟩] },0)) else (W,300)
def QGI (n:Txt):List RSb → List RSb
 | []=>[]
 | t :: l=>if t.name = n then l else t :: QGI n l
def QEF (n:Txt) (x:RSb):List RSb → List RSb
 | []=>[]
 | t :: l=>if t.name = n then x :: l else t :: QEF n x l
def RBus.unsR (W:RBus) (n:Txt):RBus × Int:=if (W.find n).isSome then ({ W with subs:=QGI n W.subs },0) else (W,300)
def RBus.wanted (W:RBus) (f:Flt):List Rcd:=W.ready.filter (QA4 f)
def QCC (most:Int) (n:Nat):Nat:=if most < 0 then 0 else min most.toNat n
def RBus.readR (W:RBus) (n:Txt) (most:Int):RBus × List Ntc × Bool × Int:=
 match W.find n with
 | none=>(W,[],false,300)
 | some t=>if t.behind = true then ({ W with subs:=QEF n { t with sees:=(W.wanted t.f).map (·.path),behind:=false } W.subs },(W.wanted t.f).map (fun r=>⟨W.last,1,r⟩),true,0)
  else ({ W with subs:=QEF n { t with wait:=t.wait.drop (QCC most t.wait.length) } W.subs },t.wait.take (QCC most t.wait.length),false,0)
def RBus.viewR (W:RBus) (n:Txt):List Txt × Int:=
 match W.find n with
 | none=>([],300)
 | some t=>((W.ready.filter fun r=>if t.behind then QA4 t.f r else decide (r.path ∈ t.sees)).map (·.path),0)
/-! The two in step. -/
structure QDX (R:QAy Rcd) (s:Sb) (t:RSb):Prop where
 f:s.f = t.f
 w:s.wait = t.wait
 b:s.behind = t.behind
 se:s.behind = false → ∀ p,QAo p s.seen = some true ↔ p ∈ t.sees
 wa:s.behind = false → ∀ p,QAo p s.seen = some true ↔ ∃ r,QAo p R = some r ∧ QA4 s.f r = true
 wl:s.wait.length ≤ 64
 bw:s.behind = true → s.wait = []
 fl:s.f.sub.length ≤ 1000 ∧ s.f.tag.length ≤ 1000
 wr:∀ n ∈ s.wait,QAk n.rc = true
 os:QBI s.seen
def QIC (R:QAy Rcd):Option Sb → Option RSb → Prop
 | none,none=>True
 | some s,some t=>QDX R s t
 | _,_=>False
structure Cpl (R:QAy Rcd) (D:QAy Sb) (W:RBus):Prop where
 oR:QBI R
 oD:QBI D
 key:∀ p r,QAo p R = some r → r.path = p ∧ QAk r = true
 mem:∀ r,r ∈ W.ready ↔ QAo r.path R = some r
 asc:W.ready.Pairwise fun a b=>ltP a.path b.path = true
 par:∀ r ∈ W.ready,2 ≤ (QAZ r.path).length → (QAo (QCR r.path) R).isSome = true
 nm:(W.subs.map (·.name)).Nodup
 sub:∀ n,QIC R (QAo n D) (W.find n)
 cnt:QEG D = W.subs.length
theorem Cpl.nil:Cpl [] [] ⟨[],[],0⟩:=⟨trivial,trivial,by simp [QAo],by simp [QAo],.nil,by simp,by simp,fun n=>trivial,rfl⟩
theorem QGJ {β γ:Type} (g:β → γ) (k:Txt):∀ m:QAy β,QAo k (m.map (Option.map fun p=>(p.1,g p.2))) = (QAo k m).map g
 | []=>rfl
 | none :: m=>by simp only [List.map_cons,Option.map,QAo]; exact QGJ g k m
 | some p :: m=>by
  simp only [List.map_cons,Option.map,QAo]
  split
  ·rfl
  ·exact QGJ g k m
theorem QFR {β γ:Type} (g:β → γ):∀ {m:QAy β},QBI m → QBI (m.map (Option.map fun p=>(p.1,g p.2)))
 | [],_=>trivial
 | none :: m,h=>by simp only [List.map_cons,Option.map,QBI]; exact QFR g (m:=m) h
 | some p :: m,h=>by
  simp only [List.map_cons,Option.map,QBI]
  simp only [QBI] at h
  exact ⟨by rw [QGJ,h.1]; rfl,QFR g h.2⟩
theorem QHs {β γ:Type} (g:β → γ):∀ m:QAy β,QEG (m.map (Option.map fun p=>(p.1,g p.2))) = QEG m
 | []=>rfl
 | none :: m=>by simp only [List.map_cons,Option.map,QEG]; exact QHs g m
 | some p :: m=>by simp only [List.map_cons,Option.map,QEG]; rw [QHs g m]
theorem QPI (g:RSb → RSb) (hg:∀ t,(g t).name = t.name) (n:Txt) (l:List RSb):(l.map g).find? (fun t=>decide (t.name = n)) = (l.find? fun t=>decide (t.name = n)).map g:=by
 induction l with
 | nil=>rfl
 | cons t l ih=>
  rw [List.map_cons,List.find?_cons,List.find?_cons,hg]
  split
  ·rfl
  ·exact ih
theorem QI8 (n:Ntc) (s:RSb):(QCX n s).name = s.name:=by unfold QCX; split <;> (try split) <;> rfl
theorem QDm (q:Int) (r:Rcd) (b:Bool) (s:RSb):(QAp q r b s).name = s.name:=by
 unfold QAp
 split
 ·exact QI8 _ _
 ·split
  ·exact QI8 _ _
  ·rfl
theorem QHt {l:List Txt} {s x:Txt}:x ∈ QFQ l s ↔ x ∈ l ∧ x ≠ s:=by simp [QFQ]
theorem QID {R R':QAy Rcd} {s:Sb} {t:RSb} (h:QDX R s t) (n:Ntc) (hn:QAk n.rc = true) (hR:s.behind = false → ∀ p,(if p = n.rc.path then n.kind = 1 else ∃ r,QAo p R = some r ∧ QA4 s.f r = true) ↔ ∃ r,QAo p R' = some r ∧ QA4 s.f r = true):
  QDX R' (s.send n) (QCX n t):=by
 have hb:=h.b
 cases hs:s.behind with
 | true=>
  rw [hs] at hb
  have e1:s.send n = s:=by simp [Sb.send,hs]
  have e2:QCX n t = { t with sees:=QFQ t.sees n.rc.path ++ (if n.kind = 1 then [n.rc.path] else []) }:=by simp [QCX,← hb]
  rw [e1,e2]
  exact ⟨h.f,h.w,h.b,fun e=>absurd (hs.symm.trans e) (by decide),fun e=>absurd (hs.symm.trans e) (by decide),h.wl,h.bw,h.fl,h.wr,h.os⟩
 | false=>
  rw [hs] at hb
  have hse:=h.se hs
  have hwa:=h.wa hs
  have hRs:=hR hs
  have hw:=h.w
  have hl:=h.wl
  have key1:∀ p,QAo p (QBT n.rc.path (decide (n.kind = 1)) s.seen) = some true ↔ p ∈ QFQ t.sees n.rc.path ++ (if n.kind = 1 then [n.rc.path] else []):=fun p=>by
   rw [QCM]
   by_cases e:n.rc.path = p
   ·subst e
    rw [if_pos rfl,List.mem_append,QHt]
    by_cases e2:n.kind = 1 <;> simp [e2]
   ·rw [if_neg e,hse p,List.mem_append,QHt]
    by_cases e2:n.kind = 1 <;> simp [e2,Ne.symm e]
  have key2:∀ p,QAo p (QBT n.rc.path (decide (n.kind = 1)) s.seen) = some true ↔ ∃ r,QAo p R' = some r ∧ QA4 s.f r = true:=fun p=>by
   rw [← hRs p,QCM]
   by_cases e:n.rc.path = p
   ·subst e
    rw [if_pos rfl,if_pos rfl]
    simp
   ·rw [if_neg e,if_neg (Ne.symm e),hwa p]
  by_cases hk:64 < s.wait.length + 1
  ·have hk':t.wait.length = 64:=by rw [← hw]; omega
   have e1:s.send n = ⟨s.f,QBT n.rc.path (decide (n.kind = 1)) s.seen,[],true⟩:=by simp [Sb.send,hs,hk]
   have e2:QCX n t = { t with sees:=QFQ t.sees n.rc.path ++ (if n.kind = 1 then [n.rc.path] else []),wait:=[],behind:=true }:=by simp [QCX,← hb,hk']
   rw [e1,e2]
   exact ⟨h.f,rfl,rfl,fun e=>by simp at e,fun e=>by simp at e,by simp,fun _=>rfl,h.fl,by simp,QDw _ _ h.os⟩
  ·have hk':¬ t.wait.length = 64:=by rw [← hw]; omega
   have e1:s.send n = ⟨s.f,QBT n.rc.path (decide (n.kind = 1)) s.seen,s.wait ++ [n],false⟩:=by simp [Sb.send,hs,hk]
   have e2:QCX n t = { t with sees:=QFQ t.sees n.rc.path ++ (if n.kind = 1 then [n.rc.path] else []),wait:=t.wait ++ [n] }:=by simp [QCX,← hb,hk']
   rw [e1,e2]
   exact ⟨h.f,by show s.wait ++ [n] = t.wait ++ [n]; rw [hw],hb,fun _=>key1,fun _=>key2,by simp; omega,fun e=>by simp at e,h.fl,fun m hm=>(List.mem_append.1 hm).elim (h.wr m) fun hm=>by rw [List.mem_singleton.1 hm]; exact hn,QDw _ _ h.os⟩
theorem QN5 {R:QAy Rcd} {s:Sb} {t:RSb} (h:QDX R s t) (q:Int) (r:Rcd) (hs0:QAk r = true):QDX (QBT r.path r R) (QEA q r s) (QAp q r true t):=by
 have hf:=h.f
 have hR:∀ p x,QAo p (QBT r.path r R) = some x ∧ QA4 s.f x = true ↔ (if r.path = p then x = r ∧ QA4 s.f r = true else QAo p R = some x ∧ QA4 s.f x = true):=fun p x=>by
  rw [QCM]
  by_cases e:r.path = p
  ·rw [if_pos e,if_pos e]
   constructor
   ·rintro ⟨h1,h2⟩; cases h1; exact ⟨rfl,h2⟩
   ·rintro ⟨rfl,h2⟩; exact ⟨rfl,h2⟩
  ·rw [if_neg e,if_neg e]
 unfold QEA QAp
 by_cases hw:QA4 s.f r = true
 ·have hpw:true = true ∧ QA4 t.f r = true:=⟨rfl,by rw [← hf]; exact hw⟩
  rw [if_pos hw,if_pos hpw]
  refine QID h ⟨q,1,r⟩ hs0 fun _ p=>?_
  simp only [hR]
  by_cases e:r.path = p
  ·subst e; simp [hw]
  ·rw [if_neg (Ne.symm e)]; simp only [if_neg e]
 ·have hnw:¬ (true = true ∧ QA4 t.f r = true):=fun h=>hw (by rw [hf]; exact h.2)
  rw [if_neg hw,if_neg hnw]
  have wa':s.behind = false → ∀ p,(if p = r.path then (2:Int) = 1 else ∃ x,QAo p R = some x ∧ QA4 s.f x = true) ↔ ∃ x,QAo p (QBT r.path r R) = some x ∧ QA4 s.f x = true:=fun _ p=>by
   simp only [hR]
   by_cases e:r.path = p
   ·subst e; simp [hw]
   ·rw [if_neg (Ne.symm e)]; simp only [if_neg e]
  cases hs:s.behind with
  | true=>
   have e1:(if (QAo r.path s.seen).getD false = true then s.send ⟨q,2,r⟩ else s) = s:=by simp [Sb.send,hs]
   rw [e1]
   have hb:=h.b
   rw [hs] at hb
   have e2:(if r.path ∈ t.sees then QCX ⟨q,2,r⟩ t else t) = { t with sees:=if r.path ∈ t.sees then QFQ t.sees r.path else t.sees }:=by
    split
    ·simp [QCX,← hb]
    ·rfl
   rw [e2]
   exact ⟨h.f,h.w,h.b,fun e=>absurd (hs.symm.trans e) (by decide),fun e=>absurd (hs.symm.trans e) (by decide),h.wl,h.bw,h.fl,h.wr,h.os⟩
  | false=>
   have hse:=h.se hs r.path
   by_cases hm:r.path ∈ t.sees
   ·rw [if_pos hm,if_pos (by rw [hse.2 hm]; rfl)]
    exact QID h ⟨q,2,r⟩ hs0 wa'
   ·have hn:¬ QAo r.path s.seen = some true:=fun e=>hm (hse.1 e)
    have hn2:¬ (QAo r.path s.seen).getD false = true:=by
     cases hg:QAo r.path s.seen with
     | none=>simp
     | some b=>cases b with
      | true=>exact (hn hg).elim
      | false=>simp
    rw [if_neg hm,if_neg hn2]
    refine ⟨h.f,h.w,h.b,h.se,fun _ p=>?_,h.wl,h.bw,h.fl,h.wr,h.os⟩
    rw [← wa' hs p,h.wa hs p]
    by_cases e:p = r.path
    ·subst e
     rw [if_pos rfl]
     have:=h.wa hs r.path
     rw [← this]
     simp [hn]
    ·rw [if_neg e]
theorem QPJ {R:QAy Rcd} {s:Sb} {t:RSb} (h:QDX R s t) (oR:QBI R) (q:Int) (r:Rcd) (hs0:QAk r = true):QDX (QDC r.path R) (QFf q r r.path s) (QAp q r false t):=by
 have hR:∀ p x,QAo p (QDC r.path R) = some x ∧ QA4 s.f x = true ↔ (if r.path = p then False else QAo p R = some x ∧ QA4 s.f x = true):=fun p x=>by
  rw [QEm _ _ oR]
  by_cases e:r.path = p
  ·simp [e]
  ·rw [if_neg e,if_neg e]
 have wa':s.behind = false → ∀ p,(if p = r.path then (2:Int) = 1 else ∃ x,QAo p R = some x ∧ QA4 s.f x = true) ↔ ∃ x,QAo p (QDC r.path R) = some x ∧ QA4 s.f x = true:=fun _ p=>by
  simp only [hR]
  by_cases e:r.path = p
  ·subst e; simp
  ·rw [if_neg (Ne.symm e)]; simp only [if_neg e]
 unfold QFf QAp
 rw [if_neg (by simp:¬ (false = true ∧ QA4 t.f r = true))]
 cases hs:s.behind with
 | true=>
  have e1:(if (QAo r.path s.seen).getD false = true then s.send ⟨q,2,r⟩ else s) = s:=by simp [Sb.send,hs]
  rw [e1]
  have hb:=h.b
  rw [hs] at hb
  have e2:(if r.path ∈ t.sees then QCX ⟨q,2,r⟩ t else t) = { t with sees:=if r.path ∈ t.sees then QFQ t.sees r.path else t.sees }:=by
   split
   ·simp [QCX,← hb]
   ·rfl
  rw [e2]
  exact ⟨h.f,h.w,h.b,fun e=>absurd (hs.symm.trans e) (by decide),fun e=>absurd (hs.symm.trans e) (by decide),h.wl,h.bw,h.fl,h.wr,h.os⟩
 | false=>
  have hse:=h.se hs r.path
  by_cases hm:r.path ∈ t.sees
  ·rw [if_pos hm,if_pos (by rw [hse.2 hm]; rfl)]
   exact QID h ⟨q,2,r⟩ hs0 wa'
  ·have hn:¬ QAo r.path s.seen = some true:=fun e=>hm (hse.1 e)
   have hn2:¬ (QAo r.path s.seen).getD false = true:=by
    cases hg:QAo r.path s.seen with
    | none=>simp
    | some b=>cases b with
     | true=>exact (hn hg).elim
     | false=>simp
   rw [if_neg hm,if_neg hn2]
   refine ⟨h.f,h.w,h.b,h.se,fun _ p=>?_,h.wl,h.bw,h.fl,h.wr,h.os⟩
   rw [← wa' hs p,h.wa hs p]
   by_cases e:p = r.path
   ·subst e
    rw [if_pos rfl]
    have:=h.wa hs r.path
    rw [← this]
    simp [hn]
   ·rw [if_neg e]
end Go.Ab
namespace Go.Ab
open Go Go.Proofs
theorem QI9 {R:QAy Rcd} {D:QAy Sb} {W:RBus} (h:Cpl R D W) (p:Txt):W.at p = QAo p R:=by
 unfold RBus.at
 cases hg:QAo p R with
 | none=>
  rw [List.find?_eq_none]
  intro r hr e
  have e':r.path = p:=by simpa using e
  have:=(h.mem r).1 hr
  rw [e',hg] at this; cases this
 | some r=>
  obtain ⟨hp,_⟩:=h.key p r hg
  have hm:r ∈ W.ready:=(h.mem r).2 (by rw [hp]; exact hg)
  cases hf:W.ready.find? fun r=>decide (r.path = p) with
  | none=>
   have:=List.find?_eq_none.1 hf r hm
   simp [hp] at this
  | some x=>
   have hx:=List.mem_of_find?_eq_some hf
   have hxp:x.path = p:=by simpa using List.find?_some hf
   have:=(h.mem x).1 hx
   rw [hxp,hg] at this
   exact this.symm
theorem Cpl.sound {R:QAy Rcd} {D:QAy Sb} {W:RBus} (h:Cpl R D W) {r:Rcd} (hr:r ∈ W.ready):QAk r = true:=(h.key _ _ ((h.mem r).1 hr)).2
theorem QAm {r:Rcd} (h:QAk r = true):QAf r.path = true:=by
 simp only [QAk,Bool.and_eq_true] at h
 exact h.1.1.1.1.1.1.1.1.1.1.1
theorem QCj {l:List Rcd} {p:Txt} {r:Rcd}:r ∈ QBk l p ↔ r ∈ l ∧ r.path ≠ p:=by simp [QBk]
theorem QJ2 (l:List Rcd) (r:Rcd):∀ k,QFe l r k ≤ k
 | 0=>Nat.le_refl _
 | k + 1=>by unfold QFe; split; exact Nat.le_succ_of_le (QJ2 l r k); exact Nat.le_refl _
theorem QJA (l:List Rcd) (r:Rcd):∀ k,k ≤ l.length → ∀ i (hi:i < l.length),QFe l r k ≤ i → i < k → QFA r.path l[i].path < 0
 | 0,_,i,_,_,h=>by omega
 | k + 1,hk,i,hi,h1,h2=>by
  unfold QFe at h1
  have e:l[k]? = some l[k]:=List.getElem?_eq_getElem (by omega)
  rw [e] at h1
  simp only [Option.map_some,Option.getD_some] at h1
  split at h1
  ·rename_i hc
   by_cases hik:i = k
   ·subst hik; exact hc
   ·exact QJA l r k (by omega) i hi h1 (by omega)
  ·omega
theorem QPK (l:List Rcd) (r:Rcd):∀ k,k ≤ l.length → 0 < QFe l r k → ∀ (hi:QFe l r k - 1 < l.length),¬ QFA r.path (l[QFe l r k - 1]'hi).path < 0
 | 0,_,h,_=>by simp [QFe] at h
 | k + 1,hk,h,hi=>by
  have e:l[k]? = some l[k]:=List.getElem?_eq_getElem (by omega)
  by_cases hc:QFA r.path l[k].path < 0
  ·have e2:QFe l r (k + 1) = QFe l r k:=by
    rw [QFe,e]
    simp only [Option.map_some,Option.getD_some]
    rw [if_pos hc]
   simp only [e2] at h hi ⊢
   exact QPK l r k (by omega) h hi
  ·have e2:QFe l r (k + 1) = k + 1:=by
    rw [QFe,e]
    simp only [Option.map_some,Option.getD_some]
    rw [if_neg hc]
   simp only [e2,Nat.add_sub_cancel]
   exact hc
theorem QKz {a b c:Txt} (h1:ltP a b = true) (h2:ltP b c = true):ltP a c = true:=by
 simp only [ltP,decide_eq_true_eq] at *
 unfold QFA at *
 rw [QHB] at *
 exact List.lt_trans h1 h2
theorem QWr {a b:Txt} (ha:QAf a = true) (hb:QAf b = true) (hne:a ≠ b) (h:¬ QFA b a < 0):ltP a b = true:=by
 cases h2:ltP a b with
 | true=>rfl
 | false=>exact (hne (QLa ha hb (by simpa [ltP] using h2) h)).elim
theorem QHu (l:List Rcd) (r x:Rcd):x ∈ QFu l r ↔ x = r ∨ x ∈ l:=by
 unfold QFu
 conv=>rhs; rhs; rw [← List.take_append_drop (QFe l r l.length) l]
 simp only [List.mem_append,List.mem_cons]
 constructor
 ·rintro (h | h | h)
  ·exact .inr (.inl h)
  ·exact .inl h
  ·exact .inr (.inr h)
 ·rintro (h | h | h)
  ·exact .inr (.inl h)
  ·exact .inl h
  ·exact .inr (.inr h)
theorem QRK {l:List Rcd} {r:Rcd} (hs:∀ x ∈ l,QAf x.path = true) (hr:QAf r.path = true) (hn:∀ x ∈ l,x.path ≠ r.path) (h:l.Pairwise fun a b=>ltP a.path b.path = true):(QFu l r).Pairwise fun a b=>ltP a.path b.path = true:=by
 unfold QFu
 have hle:=QJ2 l r l.length
 have h':(l.take (QFe l r l.length) ++ l.drop (QFe l r l.length)).Pairwise fun a b=>ltP a.path b.path = true:=by rw [List.take_append_drop]; exact h
 rw [List.pairwise_append] at h'
 obtain ⟨h1,h2,h3⟩:=h'
 have hafter:∀ x ∈ l.drop (QFe l r l.length),ltP r.path x.path = true:=fun x hx=>by
  obtain ⟨i,hi,rfl⟩:=List.getElem_of_mem hx
  rw [List.getElem_drop]
  simp only [List.length_drop] at hi
  exact decide_eq_true (QJA l r l.length (Nat.le_refl _) _ (by omega) (Nat.le_add_right _ _) (by omega))
 have hbefore:∀ x ∈ l.take (QFe l r l.length),ltP x.path r.path = true:=fun x hx=>by
  have hpos:0 < QFe l r l.length:=by
   rcases Nat.eq_zero_or_pos (QFe l r l.length) with h0 | h0
   ·rw [h0] at hx; simp at hx
   ·exact h0
  have hi:QFe l r l.length - 1 < l.length:=by omega
  have hlast:=QPK l r l.length (Nat.le_refl _) hpos hi
  have hl:ltP l[QFe l r l.length - 1].path r.path = true:=QWr (hs _ (List.getElem_mem hi)) hr (hn _ (List.getElem_mem hi)) hlast
  obtain ⟨i,hi2,rfl⟩:=List.getElem_of_mem hx
  rw [List.getElem_take]
  simp only [List.length_take] at hi2
  by_cases e:i = QFe l r l.length - 1
  ·subst e; exact hl
  ·have hp:=List.pairwise_iff_getElem.1 h i (QFe l r l.length - 1) (by omega) hi (by omega)
   exact QKz hp hl
 rw [List.pairwise_append,List.pairwise_cons]
 refine ⟨h1,⟨hafter,h2⟩,fun a ha b hb=>?_⟩
 rcases List.mem_cons.1 hb with rfl | hb
 ·exact hbefore a ha
 ·exact h3 a ha b hb
theorem Cpl.tell {R R':QAy Rcd} {D:QAy Sb} {W:RBus} (h:Cpl R D W) (L:List Rcd) (r:Rcd) (b:Bool) (g:Sb → Sb)
  (hl:∀ s t,QDX R s t → QDX R' (g s) (QAp (W.last + 1) r b t)) (oR:QBI R') (key:∀ p r,QAo p R' = some r → r.path = p ∧ QAk r = true) (mem:∀ r,r ∈ L ↔ QAo r.path R' = some r)
  (asc:L.Pairwise fun a b=>ltP a.path b.path = true) (par:∀ r ∈ L,2 ≤ (QAZ r.path).length → (QAo (QCR r.path) R').isSome = true):
  Cpl R' (D.map (Option.map fun p=>(p.1,g p.2))) (({ W with ready:=L }:RBus).tell r b):=by
 refine ⟨oR,QFR g h.oD,key,mem,asc,par,?_,fun n=>?_,?_⟩
 ·show ((W.subs.map _).map _).Nodup
  rw [List.map_map]
  have:(fun t:RSb=>t.name) ∘ QAp (W.last + 1) r b = fun t=>t.name:=by funext t; exact QDm _ _ _ _
  show (W.subs.map ((fun t:RSb=>t.name) ∘ QAp (W.last + 1) r b)).Nodup
  rw [this]; exact h.nm
 ·rw [QGJ]
  show QIC R' _ ((W.subs.map _).find? _)
  rw [QPI _ (QDm _ _ _)]
  have:=h.sub n
  unfold RBus.find at this
  cases h1:QAo n D <;> cases h2:W.subs.find? (fun t=>decide (t.name = n)) <;> rw [h1,h2] at this
  ·trivial
  ·exact this.elim
  ·exact this.elim
  ·exact hl _ _ this
 ·rw [QHs,h.cnt]
  show _ = (W.subs.map _).length
  rw [List.length_map]
theorem Cpl.ready {R:QAy Rcd} {D:QAy Sb} {W:RBus} (h:Cpl R D W) {r:Rcd} (hs:QAk r = true) (hp:2 ≤ (QAZ r.path).length → (QAo (QCR r.path) R).isSome = true):
  Cpl (QBT r.path r R) (D.map (Option.map fun p=>(p.1,QEA (W.last + 1) r p.2))) (({ W with ready:=QFu (QBk W.ready r.path) r }:RBus).tell r true):=by
 refine h.tell _ r true _ (fun s t hst=>QN5 hst _ r hs) (QDw _ _ h.oR) (fun p x hx=>?_) (fun x=>?_) ?_ fun x hx h2=>?_
 ·rw [QCM] at hx
  split at hx
  ·rename_i e; cases hx; exact ⟨e,hs⟩
  ·exact h.key p x hx
 ·rw [QHu,QCj,QCM]
  by_cases e:r.path = x.path
  ·rw [if_pos e]
   constructor
   ·rintro (rfl | ⟨_,h2⟩)
    ·rfl
    ·exact (h2 e.symm).elim
   ·intro h1; cases h1; exact .inl rfl
  ·rw [if_neg e,h.mem x]
   constructor
   ·rintro (rfl | ⟨h1,_⟩)
    ·exact (e rfl).elim
    ·exact h1
   ·exact fun h1=>.inr ⟨h1,Ne.symm e⟩
 ·refine QRK (fun x hx=>QAm (h.sound (QCj.1 hx).1)) (QAm hs) (fun x hx=>(QCj.1 hx).2) (h.asc.sublist List.filter_sublist)
 ·rw [QCM]
  split
  ·rfl
  ·rw [QHu] at hx
   rcases hx with rfl | hx
   ·exact hp h2
   ·exact h.par x (QCj.1 hx).1 h2
theorem QPL {p:Txt} (_hp:QAf p = true) (h:2 ≤ (QAZ p).length) (_hq:QAf (QCR p) = true) (hc:QAZ (QCR p) = (QAZ p).dropLast):QEv (QCR p) p = true:=by
 unfold QEv
 rw [hc,List.length_dropLast,Bool.and_eq_true,decide_eq_true_eq,decide_eq_true_eq]
 exact ⟨by omega,by rw [List.dropLast_eq_take]⟩
theorem QFv {p:Txt} (hp:QAf p = true) (h:2 ≤ (QAZ p).length):QAZ (QCR p) = (QAZ p).dropLast ∧ QAf (QCR p) = true:=by
 obtain ⟨h1,h2⟩:=QBW hp
 have hv:∀ x ∈ QAZ p,QAe x = true:=by
  unfold QCm at h1
  split at h1
  ·cases h1
  ·split at h1
   ·rename_i hq
    rw [← Option.some.inj h1]
    exact List.all_eq_true.1 hq.2
   ·cases h1
 have hd:(QAZ p).dropLast ≠ []:=fun e=>by have:=congrArg List.length e; rw [List.length_dropLast] at this; simp at this; omega
 have hv2:∀ x ∈ (QAZ p).dropLast,QAe x = true:=fun x hx=>hv x (List.dropLast_subset _ hx)
 have hlen:(QAZ p).dropLast.length ≤ 7:=by rw [List.length_dropLast]; omega
 unfold QCR
 generalize (QAZ p).dropLast = C at *
 obtain ⟨x,r,rfl⟩:=List.exists_cons_of_ne_nil hd
 have hs:QBm (x :: r) = 47 :: (x ++ QBm r):=rfl
 have h3:=QF2 (x :: r) (fun y hy=>QGV (hv2 y hy)) (by simp) _ hs
 have e:QCl (x ++ QBm r) 47 = x :: r:=by rw [QDt,h3]
 have e2:((x :: r).all QAe) = true:=List.all_eq_true.2 hv2
 have e3:QCm (QBm (x :: r)) = some (x :: r):=by
  unfold QCm
  rw [hs]
  simp only [e,e2,and_self,if_true]
 refine ⟨by unfold QAZ; rw [e3]; rfl,?_⟩
 unfold QAf
 rw [e3]
 simpa using hlen
theorem Cpl.gone {R:QAy Rcd} {D:QAy Sb} {W:RBus} (h:Cpl R D W) {p:Txt} {r:Rcd} (hr:QAo p R = some r) (ha:W.ready.any (fun x=>QEv p x.path) = false):
  Cpl (QDC p R) (D.map (Option.map fun x=>(x.1,QFf (W.last + 1) r p x.2))) (({ W with ready:=QBk W.ready p }:RBus).tell r false):=by
 obtain ⟨rfl,hsr⟩:=h.key p r hr
 refine h.tell _ r false _ (fun s t hst=>QPJ hst h.oR _ r hsr) (QIi _ h.oR) (fun p x hx=>?_) (fun x=>?_) (h.asc.sublist List.filter_sublist) fun x hx h2=>?_
 ·rw [QEm _ _ h.oR] at hx
  split at hx
  ·cases hx
  ·exact h.key p x hx
 ·rw [QCj,QEm _ _ h.oR,h.mem x]
  by_cases e:r.path = x.path
  ·rw [if_pos e]; simp [e]
  ·rw [if_neg e]; simp [Ne.symm e]
 ·have hx1:=(QCj.1 hx).1
  have hpl:=QAm (h.sound hx1)
  obtain ⟨c1,c2⟩:=QFv hpl h2
  rw [QEm _ _ h.oR]
  split
  ·rename_i e
   have:=List.any_eq_false.1 ha x hx1
   rw [e,QPL hpl h2 c2 c1] at this
   exact (this rfl).elim
  ·exact h.par x hx1 h2
end Go.Ab
namespace Go.Ab
open Go Go.Proofs
theorem QGK (k:Txt) (x:SbL):∀ m:QAy SbL,QCP (QBT k x m) = QBT k x.s (QCP m)
 | []=>rfl
 | none :: m=>by
  have:=QGK k x m
  simp only [QCP,QBT,List.map_cons,Option.map] at this ⊢; rw [this]
 | some p :: m=>by
  have:=QGK k x m
  simp only [QCP,QBT,List.map_cons,Option.map] at this ⊢
  split
  ·rfl
  ·rw [List.map_cons,this]; rfl
theorem QJ3 (k:Txt):∀ m:QAy SbL,QCP (QDC k m) = QDC k (QCP m)
 | []=>rfl
 | none :: m=>by
  have:=QJ3 k m
  simp only [QCP,QDC,List.map_cons,Option.map] at this ⊢; rw [this]
 | some p :: m=>by
  have:=QJ3 k m
  simp only [QCP,QDC,List.map_cons,Option.map] at this ⊢
  split
  ·rfl
  ·rw [List.map_cons,this]; rfl
theorem QEZ (k:Txt) (m:QAy SbL):QAo k (QCP m) = (QAo k m).map (·.s):=QGJ (fun x:SbL=>x.s) k m
theorem QRL (m:QAy SbL):QEG (QCP m) = QEG m:=QHs (fun x:SbL=>x.s) m
theorem QMB {β:Type} {k:Txt} {v w:β}:∀ {m:QAy β} {j:Nat},QBI m → m[j]? = some (some (k,v)) → m.set j (some (k,w)) = QBT k w m
 | [],j,_,h=>by simp at h
 | none :: m,0,_,h=>by simp at h
 | none :: m,j + 1,ho,h=>by simp only [List.set_cons_succ,QBT]; rw [QMB (m:=m) (j:=j) ho (by simpa using h)]
 | some p :: m,0,ho,h=>by simp at h; subst h; simp [QBT]
 | some p :: m,j + 1,ho,h=>by
  simp only [QBI] at ho
  have h':m[j]? = some (some (k,v)):=by simpa using h
  have hg:=QFF ho.2 h'
  have hne:¬ p.1 = k:=fun e=>by rw [e,hg] at ho; cases ho.1
  simp only [List.set_cons_succ,QBT,if_neg hne]
  rw [QMB ho.2 h']
theorem QMC {β:Type} (k:Txt) (v:β):∀ {m:QAy β},QAo k m = none → QEG (QBT k v m) = QEG m + 1
 | [],_=>rfl
 | none :: m,h=>by simp only [QBT,QEG]; exact QMC k v (m:=m) h
 | some p :: m,h=>by
  simp only [QAo] at h
  split at h
  ·cases h
  ·rename_i e; simp only [QBT,if_neg e,QEG]; rw [QMC k v h]
theorem QMD {β:Type} (k:Txt) (v:β):∀ {m:QAy β},(QAo k m).isSome = true → QEG (QBT k v m) = QEG m
 | [],h=>by simp [QAo] at h
 | none :: m,h=>by simp only [QBT,QEG]; exact QMD k v (m:=m) h
 | some p :: m,h=>by
  simp only [QAo] at h
  simp only [QBT]
  split
  ·rfl
  ·rename_i e; rw [if_neg e] at h; simp only [QEG]; rw [QMD k v h]
theorem QJ4 {β:Type} (k:Txt):∀ {m:QAy β},(QAo k m).isSome = true → QEG (QDC k m) + 1 = QEG m
 | [],h=>by simp [QAo] at h
 | none :: m,h=>by simp only [QDC,QEG]; exact QJ4 k (m:=m) h
 | some p :: m,h=>by
  simp only [QAo] at h
  simp only [QDC]
  split
  ·rfl
  ·rename_i e; rw [if_neg e] at h; simp only [QEG]; rw [QJ4 k h]
theorem QK0 (n m:Txt):∀ {l:List RSb},(l.map (·.name)).Nodup → (QGI n l).find? (fun t=>decide (t.name = m)) = if n = m then none else l.find? fun t=>decide (t.name = m)
 | [],_=>by simp [QGI]
 | t :: l,h=>by
  rw [List.map_cons,List.nodup_cons] at h
  unfold QGI
  by_cases e:t.name = n
  ·rw [if_pos e]
   by_cases e2:n = m
   ·rw [if_pos e2,List.find?_eq_none]
    intro x hx e3
    have e3':x.name = m:=by simpa using e3
    exact h.1 (by rw [e,e2,← e3']; exact List.mem_map.2 ⟨x,hx,rfl⟩)
   ·rw [if_neg e2,List.find?_cons]
    simp only [show decide (t.name = m) = false from decide_eq_false (by rw [e]; exact e2)]
  ·rw [if_neg e,List.find?_cons,List.find?_cons,QK0 n m h.2]
   by_cases e2:n = m
   ·subst e2; simp [e]
   ·simp only [if_neg e2]
theorem QM2 (n:Txt):∀ l:List RSb,(QGI n l).Sublist l
 | []=>.slnil
 | t :: l=>by unfold QGI; split; exact List.sublist_cons_self _ _; exact (QM2 n l).cons_cons _
theorem QM3 (n:Txt):∀ {l:List RSb},(l.find? fun t=>decide (t.name = n)).isSome = true → (QGI n l).length + 1 = l.length
 | [],h=>by simp at h
 | t :: l,h=>by
  unfold QGI
  by_cases e:t.name = n
  ·rw [if_pos e]; rfl
  ·rw [if_neg e]
   rw [List.find?_cons] at h
   simp only [show decide (t.name = n) = false from decide_eq_false e] at h
   simp [QM3 n h]
theorem QK1 (n m:Txt) (x:RSb) (hx:x.name = n):∀ l:List RSb,(QEF n x l).find? (fun t=>decide (t.name = m)) = if n = m then (l.find? fun t=>decide (t.name = n)).map (fun _=>x) else l.find? fun t=>decide (t.name = m)
 | []=>by simp [QEF]
 | t :: l=>by
  have ih:=QK1 n m x hx l
  unfold QEF
  by_cases e:t.name = n
  ·rw [if_pos e,List.find?_cons,List.find?_cons,List.find?_cons]
   by_cases e2:n = m
   ·subst e2; simp [hx,e]
   ·simp [hx,e2,e]
  ·rw [if_neg e,List.find?_cons,ih,List.find?_cons,List.find?_cons]
   by_cases e2:n = m
   ·subst e2; simp [e]
   ·simp only [if_neg e2]
theorem QGr (n:Txt) (x:RSb) (hx:x.name = n):∀ l:List RSb,(QEF n x l).map (·.name) = l.map (·.name)
 | []=>rfl
 | t :: l=>by
  unfold QEF
  split
  ·rename_i e; simp [hx,e]
  ·simp [QGr n x hx l]
theorem Cpl.noSub {R:QAy Rcd} {D:QAy Sb} {W:RBus} (h:Cpl R D W) {n:Txt} (hn:QAo n D = none):W.find n = none:=by
 have:=h.sub n
 rw [hn] at this
 cases hf:W.find n with
 | none=>rfl
 | some t=>rw [hf] at this; exact this.elim
theorem Cpl.theSub {R:QAy Rcd} {D:QAy Sb} {W:RBus} (h:Cpl R D W) {n:Txt} {s:Sb} (hn:QAo n D = some s):∃ t,W.find n = some t ∧ QDX R s t:=by
 have:=h.sub n
 rw [hn] at this
 cases hf:W.find n with
 | none=>rw [hf] at this; exact this.elim
 | some t=>rw [hf] at this; exact ⟨t,rfl,this⟩
theorem QPM {W:RBus} {n:Txt} {t:RSb} (h:W.find n = some t):t.name = n:=by simpa using List.find?_some h
theorem Cpl.subscribe {R:QAy Rcd} {D:QAy Sb} {W:RBus} (h:Cpl R D W) {n:Txt} (hn:QAo n D = none) (f:Flt) (hf:f.sub.length ≤ 1000 ∧ f.tag.length ≤ 1000):Cpl R (QBT n ⟨f,[],[],true⟩ D) { W with subs:=W.subs ++ [⟨n,f,[],[],true⟩] }:=by
 have hw:=h.noSub hn
 refine ⟨h.oR,QDw _ _ h.oD,h.key,h.mem,h.asc,h.par,?_,fun m=>?_,?_⟩
 ·show ((W.subs ++ [_]).map _).Nodup
  rw [List.map_append,List.nodup_append]
  refine ⟨h.nm,by simp,fun a ha b hb=>?_⟩
  simp only [List.map_cons,List.map_nil,List.mem_singleton] at hb
  subst hb
  rintro rfl
  obtain ⟨t,ht,hte⟩:=List.mem_map.1 ha
  have:=List.find?_eq_none.1 hw t ht
  simp [hte] at this
 ·rw [QCM]
  show QIC R _ ((W.subs ++ [_]).find? _)
  rw [List.find?_append]
  by_cases e:n = m
  ·subst e
   have hw':(W.subs.find? fun t=>decide (t.name = n)) = Option.none:=hw
   rw [if_pos rfl,hw']
   simp only [Option.none_or,List.find?_cons,decide_true]
   exact ⟨rfl,rfl,rfl,fun e=>by simp at e,fun e=>by simp at e,by simp,fun _=>rfl,hf,by simp,trivial⟩
  ·rw [if_neg e]
   have:=h.sub m
   unfold RBus.find at this
   have e2:List.find? (fun t:RSb=>decide (t.name = m)) [⟨n,f,[],[],true⟩] = Option.none:=by simp [e]
   rw [e2,Option.or_none]; exact this
 ·rw [QMC _ _ hn,h.cnt]; simp
theorem Cpl.unsubscribe {R:QAy Rcd} {D:QAy Sb} {W:RBus} (h:Cpl R D W) {n:Txt} (hn:(QAo n D).isSome = true):Cpl R (QDC n D) { W with subs:=QGI n W.subs }:=by
 obtain ⟨s,hs⟩:=Option.isSome_iff_exists.1 hn
 obtain ⟨t,ht,_⟩:=h.theSub hs
 refine ⟨h.oR,QIi _ h.oD,h.key,h.mem,h.asc,h.par,h.nm.sublist ((QM2 n W.subs).map _),fun m=>?_,?_⟩
 ·rw [QEm _ _ h.oD]
  show QIC R _ ((QGI n W.subs).find? _)
  rw [QK0 n m h.nm]
  by_cases e:n = m
  ·rw [if_pos e,if_pos e]; trivial
  ·rw [if_neg e,if_neg e]; exact h.sub m
 ·have h1:=QJ4 n hn
  have h2:=QM3 n (l:=W.subs) (by have ht':(W.subs.find? fun t=>decide (t.name = n)) = Option.some t:=ht; rw [ht']; rfl)
  have h3:=h.cnt
  show QEG (QDC n D) = (QGI n W.subs).length
  omega
theorem Cpl.change {R:QAy Rcd} {D:QAy Sb} {W:RBus} (h:Cpl R D W) {n:Txt} {s:Sb} (hn:QAo n D = some s) {s':Sb} {t':RSb} (ht:t'.name = n) (hl:QDX R s' t'):Cpl R (QBT n s' D) { W with subs:=QEF n t' W.subs }:=by
 obtain ⟨t,hf,_⟩:=h.theSub hn
 refine ⟨h.oR,QDw _ _ h.oD,h.key,h.mem,h.asc,h.par,?_,fun m=>?_,?_⟩
 ·show ((QEF n t' W.subs).map _).Nodup
  rw [QGr n t' ht]; exact h.nm
 ·rw [QCM]
  show QIC R _ ((QEF n t' W.subs).find? _)
  rw [QK1 n m t' ht]
  by_cases e:n = m
  ·have hf':(W.subs.find? fun t=>decide (t.name = n)) = Option.some t:=hf
   rw [if_pos e,if_pos e,hf']; exact hl
  ·rw [if_neg e,if_neg e]; exact h.sub m
 ·rw [QMD _ _ (by rw [hn]; rfl),h.cnt]
  show _ = (QEF n t' W.subs).length
  have:=congrArg List.length (QGr n t' ht W.subs)
  simpa using this.symm
def QC1 (l:List Rcd):QAy Bool:=l.foldl (fun m r=>QBT r.path true m) []
theorem QME (l:List Rcd) (r:Rcd):QC1 (l ++ [r]) = QBT r.path true (QC1 l):=by simp [QC1]
theorem QK2 (p:Txt):∀ (l:List Rcd) (m:QAy Bool),QAo p (l.foldl (fun m r=>QBT r.path true m) m) = if p ∈ l.map (·.path) then some true else QAo p m
 | [],m=>by simp
 | r :: l,m=>by
  rw [List.foldl_cons,QK2 p l]
  by_cases h1:p ∈ l.map (·.path)
  ·rw [if_pos h1,if_pos (by simp only [List.map_cons,List.mem_cons]; exact .inr h1)]
  ·rw [if_neg h1,QCM]
   by_cases h2:r.path = p
   ·rw [if_pos h2,if_pos (by simp [h2])]
   ·rw [if_neg h2,if_neg (by simp only [List.map_cons,List.mem_cons,not_or]; exact ⟨Ne.symm h2,h1⟩)]
theorem QJB (p:Txt) (l:List Rcd):QAo p (QC1 l) = some true ↔ p ∈ l.map (·.path):=by
 unfold QC1
 rw [QK2]
 split
 ·rename_i h; simp only [true_iff]; exact h
 ·rename_i h; simp only [QAo,reduceCtorEq,false_iff]; exact h
theorem QK3:∀ (l:List Rcd) {m:QAy Bool},QBI m → QBI (l.foldl (fun m r=>QBT r.path true m) m)
 | [],_,h=>h
 | _r :: l,_,h=>QK3 l (QDw _ _ h)
theorem QN6 (l:List Rcd):QBI (QC1 l):=QK3 l trivial
def QIE (L:List Rcd) (s:Sb):Sb:={ s with seen:=QC1 (L.filter (QA4 s.f)),behind:=false }
def QIF (most:Int) (s:Sb):Sb:={ s with wait:=s.wait.drop (QCC most s.wait.length) }
theorem QK4 {R:QAy Rcd} {D:QAy Sb} {W:RBus} (h:Cpl R D W) (f:Flt) (p:Txt):p ∈ (W.ready.filter (QA4 f)).map (·.path) ↔ ∃ r,QAo p R = Option.some r ∧ QA4 f r = true:=by
 rw [List.mem_map]
 constructor
 ·rintro ⟨r,hr,rfl⟩
  rw [List.mem_filter] at hr
  exact ⟨r,(h.mem r).1 hr.1,hr.2⟩
 ·rintro ⟨r,hr,hw⟩
  obtain ⟨rfl,_⟩:=h.key p r hr
  exact ⟨r,List.mem_filter.2 ⟨(h.mem r).2 hr,hw⟩,rfl⟩
theorem Cpl.read {R:QAy Rcd} {D:QAy Sb} {W:RBus} (h:Cpl R D W) {n:Txt} {s:Sb} (hn:QAo n D = some s) (most:Int):
  Cpl R (QBT n (if s.behind then QIE W.ready s else QIF most s) D) (W.readR n most).1 ∧
   (W.readR n most).2 = (if s.behind then ((W.ready.filter (QA4 s.f)).map (fun r=>(⟨W.last,1,r⟩:Ntc)),true,0) else (s.wait.take (QCC most s.wait.length),false,0)):=by
 obtain ⟨t,hf,hl⟩:=h.theSub hn
 have hnm:=QPM hf
 have hb:=hl.b
 have hff:=hl.f
 unfold RBus.readR
 rw [hf]
 simp only
 cases hs:s.behind with
 | true=>
  rw [hs] at hb
  rw [if_pos hb.symm]
  simp only [if_true]
  refine ⟨h.change hn hnm ⟨hff,hl.w,rfl,fun _ p=>?_,fun _ p=>?_,hl.wl,fun e=>by simp [QIE] at e,hl.fl,hl.wr,QN6 _⟩,by unfold RBus.wanted; rw [hff]⟩
  ·unfold QIE RBus.wanted
   rw [QJB,hff]
  ·unfold QIE
   rw [QJB]
   exact QK4 h s.f p
 | false=>
  rw [hs] at hb
  have hb2:¬ t.behind = true:=fun e=>by rw [e] at hb; cases hb
  rw [if_neg hb2]
  simp only [Bool.false_eq_true,if_false]
  have hw:=hl.w
  refine ⟨h.change hn hnm ⟨hff,by unfold QIF; simp only; rw [hw],by unfold QIF; exact hl.b,fun e p=>hl.se hs p,fun e p=>hl.wa hs p,?_,fun e=>?_,hl.fl,fun m hm=>hl.wr m (List.drop_subset _ _ hm),hl.os⟩,by rw [hw]⟩
  ·unfold QIF
   simp only [List.length_drop]
   have:=hl.wl
   omega
  ·unfold QIF at e; simp only [hs] at e; cases e
end Go.Ab
namespace Go.Ab
open Go Go.Proofs
set_option maxRecDepth 20000
structure AllOk (R:QAy Rcd) (l:List Rcd):Prop where
 one:QBI R
 key:∀ p r,QAo p R = some r → r.path = p ∧ QAk r = true
 mem:∀ r,r ∈ l ↔ QAo r.path R = some r
 asc:l.Pairwise fun a b=>ltP a.path b.path = true
 len:l.length ≤ 1000
 rlen:R.length ≤ 100000
theorem Cpl.all {R:QAy Rcd} {D:QAy Sb} {W:RBus} (h:Cpl R D W) (h1:W.ready.length ≤ 1000) (h2:R.length ≤ 100000):AllOk R W.ready:=⟨h.oR,h.key,h.mem,h.asc,h1,h2⟩
theorem QJ5 {a b:Txt} (h:ltP a b = true):¬ ltP b a = true:=fun h2=>by
 have:=swo_ltP.irrefl a
 rw [QKz h h2] at this
 cases this
theorem AllOk.keys {R:QAy Rcd} {l:List Rcd} (h:AllOk R l) {ks:List Txt} (hp:ks.Perm (ksS R)) (ha:ks.Pairwise fun a b=>ltP a b = true):ks = l.map (·.path):=by
 refine QMX (fun a b h=>QJ5 h) ha (List.pairwise_map.2 h.asc) fun k=>?_
 rw [hp.mem_iff,QIB h.one,List.mem_map]
 constructor
 ·intro hk
  obtain ⟨r,hr⟩:=Option.isSome_iff_exists.1 hk
  obtain ⟨rfl,_⟩:=h.key k r hr
  exact ⟨r,(h.mem r).2 hr,rfl⟩
 ·rintro ⟨r,hr,rfl⟩
  rw [(h.mem r).1 hr]; rfl
def allR (H:List AObj) (l:List Rcd) (v:AV) (G:List AObj):Prop:=v = .imm (l.map QAR) ∧ ∃ lit,G = H ++ lit
def allS (H:List AObj) (ob ro:Nat) (K:List (List AV)) (l:List Rcd) (i:Nat):St:=⟨tmps 29 [(0,.ptr ob 0),(3,.own (H.length + 2) i),(11,.own (H.length + 1) l.length),(12,.int .i64 l.length),(13,.int .i64 i)],H ++ [.box 79 [.map ro],.reg 9 1 K,.reg 36 12 ((l.take i).map QAR)]⟩
theorem QWs (k:Nat) (r:Rcd):QAE k (AV.agg (QAR r)) = true:=QBr k r
theorem QPN {r:Rcd} (h:QAk r = true):Cpy r:=by
 have hsm:=QEr h
 have:=hsm.props; have:=hsm.tags; have:=hsm.links; have:=hsm.runs; have:=hsm.loads
 exact ⟨by omega,by omega,by omega,by omega,by omega⟩
theorem QJC {r:Rcd} (h:QAk r = true):Ask r:=by
 have hsm:=QEr h
 have:=hsm.props; have:=hsm.tags
 exact ⟨by omega,fun p hp=>by have:=(hsm.attr p hp).2; omega,by omega,fun x hx=>by have:=hsm.tag x hx; omega⟩
theorem QPO {H:List AObj} {ob ro so:Nat} {R:QAy Rcd} {q:Int} (b1:H[ob]? = some (.box 82 [.map ro,.map so,.int .i64 q])) (b2:H[ro]? = some (.map (rdM R))) {l:List Rcd} (hA:AllOk R l):ACallsR Tryz.prog 22 [.ptr ob 0] H (allR H l):=by
 have ap:∀ {i:Nat} {x:AObj} (l:List AObj),H[i]? = some x → (H ++ l)[i]? = some x:=fun l hx=>by
  rw [List.getElem?_append_left (List.getElem?_eq_some_iff.1 hx).1]; exact hx
 have a1:=fun l=>ap l b1
 have a2:=fun l=>ap l b2
 have lr:=(List.getElem?_eq_some_iff.1 b2).1
 have hsr:∀ is,QEw is (rdM R) = rdM R:=fun is=>QMA is _ (fun r=>by simp [ren,QD9]) R
 have hlen:=hA.len
 have ne1:ro ≠ H.length:=by omega
 have ne2:ro ≠ H.length + 1:=by omega
 have key:=QWq (fun r:Rcd=>AV.agg (QAR r)) R
 have kp:∀ x ∈ ksS R,QAf x = true:=fun x hx=>by
  obtain ⟨r,hr⟩:=Option.isSome_iff_exists.1 ((QIB hA.one).1 hx)
  obtain ⟨rfl,hs⟩:=hA.key x r hr
  exact QAm hs
 have kl:(ksS R).length ≤ 100000:=Nat.le_trans (List.length_filterMap_le _ _) hA.rlen
 have sf:=QPH (fun r:Rcd=>AV.agg (QAR r)) QWs (fun is r=>by simp [ren,QD9]) R hA.one kp kl (Nat.le_trans hA.rlen (by decide))
 refine QCn _ cqq ?_
 refine gS ?_
 refine gS ?_
 refine QBU ?_
 simp +decide -dsimp -implicitDefEqProofs [go_sem,b1]
 refine QHD [ro] 1 key rfl (fun v G ⟨_,hG⟩=>by rw [hG]; rfl) (by simp [ne1]) (by simp [QBt,ren]) (by simp [QBP,hsr,b2]) ?_
 rintro _ _ ⟨rfl,rfl⟩
 have e1:QBd (H ++ List.replicate 1 AObj.unborn) ([ro] ++ List.range' H.length 1) (List.map (QBP ([ro] ++ List.range' H.length 1)) [AObj.map (rdM R),AObj.box 79 [AV.map 0]]) = H ++ [.box 79 [.map ro]]:=by
  have s1:(H ++ [AObj.unborn]).set ro (.map (rdM R)) = H ++ [.unborn]:=QCe (a2 _)
  simp [QBd,QBP,hsr,QBt,ren,s1]
 have e2:ren ([ro] ++ List.range' H.length 1) (AV.fn (Fn.func 94) [] [AV.ptr 1 0]) = .fn (.func 94) [] [.ptr H.length 0]:=by simp [ren,QBt]
 rw [e1,e2]
 refine gs ?_
 have l1:(H ++ [AObj.box 79 [.map ro]]).length = H.length + 1:=by simp
 have b79:∀ l,(H ++ AObj.box 79 [.map ro] :: l)[H.length]? = some (.box 79 [.map ro]):=fun l=>by simp
 refine QHD [ro,H.length] 1 sf rfl (fun v G ⟨_,_,_,_,hG⟩=>by rw [hG]; rfl) (by simp [ne1,ne2]) (by simp [QBt,ren]) (by simp [QBP,QBt,ren,hsr,a2]) ?_
 rintro _ _ ⟨ks,k1,k2,rfl,rfl⟩
 obtain rfl:=hA.keys k1 k2
 rw [l1]
 have e3:QBd ((H ++ [AObj.box 79 [.map ro]]) ++ List.replicate 1 AObj.unborn) ([ro,H.length] ++ List.range' (H.length + 1) 1) (List.map (QBP ([ro,H.length] ++ List.range' (H.length + 1) 1)) [AObj.map (rdM R),AObj.box 79 [AV.map 0],AObj.reg 9 1 ((l.map (·.path)).map QAT)]) = H ++ [.box 79 [.map ro],.reg 9 1 ((l.map (·.path)).map QAT)]:=by
  have s1:(H ++ [AObj.box 79 [.map ro],AObj.unborn]).set ro (.map (rdM R)) = H ++ [.box 79 [.map ro],.unborn]:=QCe (a2 _)
  have s2:∀ is,QBL is ((l.map (·.path)).map QAT) = (l.map (·.path)).map QAT:=fun is=>QCU is _
  simp only [List.map_map] at s2
  simp [QBd,QBP,hsr,QBt,ren,s1,s2]
 have e4:ren ([ro,H.length] ++ List.range' (H.length + 1) 1) (AV.own 2 (l.map (·.path)).length) = .own (H.length + 1) l.length:=by simp [ren]
 rw [e3,e4]
 refine gs ?_
 obtain ⟨K,hK⟩:∃ K,K = l.map (QAT ∘ fun x=>x.path):=⟨_,rfl⟩
 rw [← hK]
 have kl:K.length = l.length:=by rw [hK]; simp
 have ka:∀ (i:Nat) (h:i < l.length) (h':i < K.length),K[i] = [.str l[i].path]:=fun i h h'=>by
  simp only [hK,List.getElem_map,Function.comp,QAT]
 have g1:∀ a b c:AObj,(H ++ [a,b,c])[H.length + 1]? = some b:=fun a b c=>by rw [List.getElem?_append_right (by omega)]; simp
 have g2:∀ a b c:AObj,(H ++ [a,b,c])[H.length + 2]? = some c:=fun a b c=>by rw [List.getElem?_append_right (by omega)]; simp
 have s2:∀ a b c d:AObj,(H ++ [a,b,c]).set (H.length + 2) d = H ++ [a,b,d]:=fun a b c d=>by
  rw [List.set_append,if_neg (by omega)]; simp
 have hk2:=fun p=>QBy (fun r:Rcd=>AV.agg (QAR r)) p R
 have hf2:=fun p=>QCd (fun r:Rcd=>AV.agg (QAR r)) p R
 refine QBH (S:=Nat) (allS H ob ro K l) (fun i=>l.length - i) (fun i=>i ≤ l.length) 0 (Nat.zero_le _) ((Wk.nilT 3 36 12 rfl (by simp)).trans ?_) ?_
 ·have e:((H ++ [AObj.box 79 [AV.map ro],AObj.reg 9 1 K]).length) = H.length + 2:=by simp
  rw [e,List.append_assoc]
  refine Wk.jk ?_
  simp +decide -dsimp -implicitDefEqProofs [go_sem,jkT]
 intro i hi
 unfold allS
 by_cases h:i < l.length
 ·have hm:l[i] ∈ l:=List.getElem_mem h
  have hgi:=(hA.mem l[i]).1 hm
  have co:=QEd l[i] (QPN (hA.key _ _ hgi).2)
  have hcl:=fun k=>QBr k l[i]
  have hf3:=hf2 l[i].path
  rw [hgi] at hf3
  have w:IntKind.i64.wrap ((i:Int) + 1) = i + 1:=w64 (by omega) (by omega)
  have hrow:=QAc l[i]
  rw [hrow] at co hcl
  have htk:(l.take i).map QAR ++ [QAR l[i]] = (l.take (i + 1)).map QAR:=by rw [List.take_succ_eq_append_getElem h,List.map_append]; rfl
  have hti:(l.take i).length = i:=by rw [List.length_take]; omega
  refine QAD ?_
  simp +decide -dsimp -implicitDefEqProofs [go_sem,h,a1,a2,kl,ka,hk2,hf3,hrow]
  refine QAA co (by rw [QAB,QAE,hcl 0]; rfl) (by rw [QAE,hcl 0]) ?_
  simp +decide -dsimp -implicitDefEqProofs [go_sem,maxLen,w]
  have hmin:min i l.length = i:=by omega
  have htk':List.take i (List.map QAR l) ++ [[AV.str l[i].path,.int .i64 l[i].index,.imm (l[i].props.map QBK),.imm (l[i].tags.map QAT),.imm (l[i].links.map QAT),.imm (l[i].run.map QAT),.imm (l[i].load.map QAT),.str l[i].name,.int .i64 l[i].prio,.str l[i].owner,.str l[i].group,.int .i64 l[i].mode]] = (l.take (i + 1)).map QAR:=by rw [← List.map_take]; exact htk
  rw [hmin,htk']
  refine ⟨rfl,⟨by omega,by omega⟩,?_⟩
  refine QAG (S:=Nat) (i + 1) (by show i + 1 ≤ l.length; omega) (by show l.length - (i + 1) < l.length - i; omega) (Wk.jk ?_)
  simp +decide -dsimp -implicitDefEqProofs [go_sem,jkT]
 ·have e:i = l.length:=by omega
  subst e
  refine QAD ?_
  refine gs ?_
  refine QAD ?_
  refine gs ?_
  refine QAj _ _ (Wk.frz (l:=l.map QAR) 2 (H.length + 2) (g2 _ _ _) (by simp)) ?_
  simp +decide -dsimp -implicitDefEqProofs [go_sem,QBG]
  exact ⟨rfl,_,rfl⟩
theorem QSq {H:List AObj} {ob ro so:Nat} {B:Bus} (h:QB0 H ob ro so B) {l:List Rcd} (hA:AllOk B.ready l):ACallsR Tryz.prog 22 [.ptr ob 0] H (allR H l):=QPO h.box h.rdy hA
end Go.Ab
namespace Go.Ab
open Go Go.Proofs
set_option maxRecDepth 20000
def nt1 (q:Int) (r:Rcd):Ntc:=⟨q,1,r⟩
def QC9 (q:Int) (f:Flt) (l:List Rcd):List Ntc:=(l.filter (QA4 f)).map (nt1 q)
theorem QEz {α:Type} {H l:List α} {n:Nat} (x:α) (h:H.length ≤ n):(H ++ l).set n x = H ++ l.set (n - H.length) x:=by
 rw [List.set_append,if_neg (by omega)]
def QZp (H:List AObj) (q:Int) (f:Flt) (l:List Rcd) (v:AV) (G:List AObj):Prop:=v = .imm ((QC9 q f l).map QAU) ∧ ∃ lit,G = H ++ lit
def QWt (ob o R:Nat) (q:Int) (f:Flt) (l:List Rcd) (s:Nat × List AObj):St:=⟨tmps 32 [(0,.ptr ob 0),(1,.ptr o 0),(5,.own R (QC9 q f (l.take s.1)).length),(9,.imm (l.map QAR)),(10,.int .i64 l.length),(11,.int .i64 s.1)],s.2⟩
def QWu (H:List AObj) (R:Nat) (q:Int) (f:Flt) (l:List Rcd) (s:Nat × List AObj):Prop:=s.1 ≤ l.length ∧ H.length ≤ R ∧ (∃ lit,s.2 = H ++ lit) ∧ s.2[R]? = some (.reg 39 14 ((QC9 q f (l.take s.1)).map QAU))
theorem QK5 (q:Int) (f:Flt) (l:List Rcd):(QC9 q f l).length ≤ l.length:=by
 unfold QC9; rw [List.length_map]; exact List.length_filter_le _ _
theorem QSr {H:List AObj} {ob ro so:Nat} {B:Bus} (h:QB0 H ob ro so B) {l:List Rcd} (hA:AllOk B.ready l) {o:Nat} {f:Flt} {sv wv:AV} {b:Bool} (ho:H[o]? = some (.box 89 [QA5 f,sv,wv,.bool b])) (hf:f.sub.length ≤ 1000 ∧ f.tag.length ≤ 1000):
  ACallsR Tryz.prog 44 [.ptr ob 0,.ptr o 0] H (QZp H B.last f l):=by
 have b1:=h.box
 have ap:∀ {i:Nat} {x:AObj} (l:List AObj),H[i]? = some x → (H ++ l)[i]? = some x:=fun l hx=>by
  rw [List.getElem?_append_left (List.getElem?_eq_some_iff.1 hx).1]; exact hx
 have a1:=fun l=>ap l b1
 have a2:=fun l=>ap l ho
 have hlen:=hA.len
 refine QCn _ cqq ?_
 refine gS ?_
 refine gS ?_
 refine gS ?_
 refine QAS (QSq h hA) ?_
 rintro _ G ⟨rfl,lit,rfl⟩
 refine gs ?_
 have hT0:QWu H (H ++ lit).length B.last f l (0,(H ++ lit) ++ [.reg 39 14 []]):=⟨Nat.zero_le _,by simp,⟨lit ++ [.reg 39 14 []],by simp⟩,by show ((H ++ lit) ++ _)[(H ++ lit).length]? = _; rw [List.getElem?_append_right (Nat.le_refl _)]; simp [QC9]⟩
 refine QBH (S:=Nat × List AObj) (QWt ob o (H ++ lit).length B.last f l) (fun s=>l.length - s.1) (QWu H (H ++ lit).length B.last f l) _ hT0 ((Wk.nilT 5 39 14 rfl (by simp)).trans (Wk.jk ?_)) ?_
 ·simp +decide -dsimp -implicitDefEqProofs [go_sem,jkT,QC9]
 generalize (H ++ lit).length = R
 rintro ⟨i,G⟩ ⟨hi,hR,⟨lit,hG⟩,hreg⟩
 simp only at hi hG hreg
 unfold QWt
 simp only
 by_cases hlt:i < l.length
 ·have hgi:=(hA.mem l[i]).1 (List.getElem_mem hlt)
  have cw:=QNC f l[i] (by omega) (by omega) (QJC (hA.key _ _ hgi).2)
  have w:IntKind.i64.wrap ((i:Int) + 1) = i + 1:=w64 (by omega) (by omega)
  have hrow:=QAc l[i]
  have hcl:=fun k=>QBr k l[i]
  have q1:∀ l,(G ++ l)[ob]? = some (.box 82 [.map ro,.map so,.int .i64 B.last]):=fun l=>by rw [hG,List.append_assoc]; exact a1 _
  have q2:∀ l,(G ++ l)[o]? = some (.box 89 [QA5 f,sv,wv,.bool b]):=fun l=>by rw [hG,List.append_assoc]; exact a2 _
  have q3:∀ l',(G ++ l')[R]? = some (.reg 39 14 ((QC9 B.last f (l.take i)).map QAU)):=fun l'=>by
   rw [List.getElem?_append_left (List.getElem?_eq_some_iff.1 hreg).1]; exact hreg
  have lR:=(List.getElem?_eq_some_iff.1 hreg).1
  have q0:ob < G.length:=by have:=(List.getElem?_eq_some_iff.1 (q1 [])).1; simpa using this
  have q00:o < G.length:=by have:=(List.getElem?_eq_some_iff.1 (q2 [])).1; simpa using this
  have hll:=QK5 B.last f (l.take i)
  rw [List.length_take] at hll
  unfold QA5 QBM at q2
  unfold QBM at cw
  rw [hrow] at cw hcl
  have g0:∀ x,(G ++ [x])[G.length]? = some x:=fun x=>by simp
  refine QAD ?_
  simp +decide -dsimp -implicitDefEqProofs [go_sem,hlt,hrow,q2]
  refine QAK cw (by simp [QAB,QAE,QAW,QAF]) rfl ?_
  have o1:QBB [0,1,3,7,0,31] [([],[]),([],[]),([],[]),([o],[]),([G.length],[]),([],[])] = true:=by simp +decide [QBB,QCz]
  cases hw:QA4 f l[i] with
  | true=>
   have hst:QC9 B.last f (l.take (i + 1)) = QC9 B.last f (l.take i) ++ [nt1 B.last l[i]]:=by
    unfold QC9; rw [List.take_succ_eq_append_getElem hlt,List.filter_append,List.map_append]; simp [hw]
   simp +decide -dsimp -implicitDefEqProofs [go_sem,o1,q1,q3,maxLen]
   have o2:QBB [0,0,2,6,14,0,62,126,255,511] [([],[]),([],[]),([],[]),([],[]),([ob],[]),([G.length],[]),([],[]),([],[]),([R],[R]),([],[])] = true:=by simp +decide [QBB,QCz]
   rw [w]
   refine ⟨⟨by omega,by omega⟩,o2,?_⟩
   have hrw:(QC9 B.last f (l.take i)).map QAU ++ [[.int .i64 B.last,.int .i64 1,AV.str l[i].path,.int .i64 l[i].index,.imm (l[i].props.map QBK),.imm (l[i].tags.map QAT),.imm (l[i].links.map QAT),.imm (l[i].run.map QAT),.imm (l[i].load.map QAT),.str l[i].name,.int .i64 l[i].prio,.str l[i].owner,.str l[i].group,.int .i64 l[i].mode]] = (QC9 B.last f (l.take (i + 1))).map QAU:=by rw [hst,List.map_append]; rfl
   have hl2:(QC9 B.last f (l.take (i + 1))).length = (QC9 B.last f (l.take i)).length + 1:=by rw [hst]; simp
   rw [hrw]
   refine QAG (S:=Nat × List AObj) (i + 1,(G ++ [AObj.box 36 (QAR l[i]),.unborn]).set R (.reg 39 14 ((QC9 B.last f (l.take (i + 1))).map QAU))) ⟨hlt,hR,⟨(lit ++ [AObj.box 36 (QAR l[i]),.unborn]).set (R - H.length) (.reg 39 14 ((QC9 B.last f (l.take (i + 1))).map QAU)),?_⟩,?_⟩ (by show l.length - (i + 1) < l.length - i; omega) (Wk.jk ?_)
   ·show (G ++ _).set R _ = _
    rw [hG,List.append_assoc]; exact QEz _ hR
   ·exact QBX (q3 _)
   ·rw [← hl2]
    simp +decide -dsimp -implicitDefEqProofs [go_sem,jkT]
  | false=>
   have hst:QC9 B.last f (l.take (i + 1)) = QC9 B.last f (l.take i):=by
    unfold QC9; rw [List.take_succ_eq_append_getElem hlt,List.filter_append,List.map_append]; simp [hw]
   simp +decide -dsimp -implicitDefEqProofs [go_sem,o1,w]
   refine QAG (S:=Nat × List AObj) (i + 1,G ++ [.box 36 (QAR l[i])]) ⟨hlt,hR,⟨lit ++ [.box 36 (QAR l[i])],by show G ++ _ = _; rw [hG,List.append_assoc]⟩,?_⟩ (by show l.length - (i + 1) < l.length - i; omega) (Wk.jk ?_)
   ·show (G ++ _)[R]? = _
    rw [hst]; exact q3 _
   ·rw [hst]
    simp +decide -dsimp -implicitDefEqProofs [go_sem,jkT]
 ·have e:i = l.length:=by omega
  subst e
  refine QAD ?_
  refine gs ?_
  refine QAD ?_
  refine gs ?_
  rw [List.take_length] at hreg
  refine QAj _ _ (Wk.frz (l:=(QC9 B.last f l).map QAU) 4 R hreg (by simp)) ?_
  simp +decide -dsimp -implicitDefEqProofs [go_sem,QBG]
  exact ⟨rfl,lit.set (R - H.length) .dead,by rw [hG]; exact QEz _ hR⟩
end Go.Ab
namespace Go.Ab
open Go Go.Proofs
set_option maxRecDepth 20000
theorem Wk.nilI {k:Nat} {T:List AV} {H:List AObj} (n:Nat) (hn:T[n]? = some .nils):Wk k ⟨T,H⟩ ⟨T.set n (.imm []),H⟩:=fun c a hr hH hF=>⟨c,rfl,hr,.refl k c,hH,by
 refine ⟨by simpa using hF.1,hF.2.1,fun j=>?_⟩
 by_cases hj:n = j
 ·subst hj
  have hlt:=(List.getElem?_eq_some_iff.1 hn).1
  have hv:=hF.2.2 n
  simp only [hn,Option.getD_some,Val] at hv
  rw [List.getElem?_set_self hlt,Option.getD_some,hv]
  simp only [Val]
  exact .inr ⟨trivial,_,_,rfl⟩
 ·rw [List.getElem?_set_ne hj]; exact hF.2.2 j⟩
theorem QJD {H:List AObj} {ob ro so:Nat} {B:Bus} (h:QB0 H ob ro so B) {j:Nat} {k:List UInt8} {x:SbL} (hj:B.subs[j]? = some (some (k,x))) {G:List AObj} {fp':List Nat} (hlen:H.length ≤ G.length)
  (hG:∀ i,i < H.length → i ∉ x.fp → G[i]? = H[i]?) (hfp:∀ i ∈ fp',i ∈ x.fp ∨ (H.length ≤ i ∧ i < G.length)) {s':Sb} (hs:SubAt G x.o fp' s'):QB0 G ob ro so (B.put j k ⟨x.o,fp',s'⟩) ∧ BusF H G ob ro so B (B.put j k ⟨x.o,fp',s'⟩):=by
 have fx:∀ i,i ∈ x.fp → B.foot i:=fun i hi=>⟨j,(k,x),hj,hi⟩
 have lo:=(List.getElem?_eq_some_iff.1 h.box).1
 have lr:=(List.getElem?_eq_some_iff.1 h.rdy).1
 have ls:=(List.getElem?_eq_some_iff.1 h.sbs).1
 have nf:∀ i,¬ B.foot i → i < H.length → G[i]? = H[i]?:=fun i h1 h2=>hG i h2 fun h3=>h1 (fx i h3)
 have no:¬ B.foot ob:=fun e=>(h.out ob e).2.1 rfl
 have nr:¬ B.foot ro:=fun e=>(h.out ro e).2.2.1 rfl
 have ns:¬ B.foot so:=fun e=>(h.out so e).2.2.2 rfl
 have ft:∀ i,(B.put j k ⟨x.o,fp',s'⟩).foot i → B.foot i ∨ (H.length ≤ i ∧ i < G.length):=fun i ⟨m,p,h1,h2⟩=>by
  rcases QCo h1 with ⟨_,rfl⟩ | ⟨_,h3⟩
  ·rcases hfp i h2 with h4 | h4
   ·exact .inl (fx i h4)
   ·exact .inr h4
  ·exact .inl ⟨m,p,h3,h2⟩
 have hsb:sbM (B.put j k ⟨x.o,fp',s'⟩).subs = sbM B.subs:=by
  show List.map _ (B.subs.set j _) = List.map _ B.subs
  rw [List.map_set]
  exact QCe (by rw [List.getElem?_map,hj]; rfl)
 refine ⟨⟨(nf ob no lo).trans h.box,(nf ro nr lr).trans h.rdy,by rw [hsb]; exact (nf so ns ls).trans h.sbs,h.rso,fun m p hm=>?_,fun i hi=>?_,fun a b p q hab ha hb y hy=>?_⟩,⟨hlen,fun i h1 _ _ _ h2=>⟨nf i h2 h1,fun h3=>?_⟩⟩⟩
 ·rcases QCo hm with ⟨_,rfl⟩ | ⟨hmj,h3⟩
  ·exact hs
  ·exact (h.sub m p h3).keep (fun _ h=>h) fun i hi=>hG i (h.out i ⟨m,p,h3,hi⟩).1 (h.dis m j p (k,x) hmj h3 hj i hi)
 ·rcases ft i hi with h3 | ⟨h3,h4⟩
  ·exact ⟨Nat.lt_of_lt_of_le (h.out i h3).1 hlen,(h.out i h3).2⟩
  ·exact ⟨h4,by omega,by omega,by omega⟩
 ·rcases QCo ha with ⟨ea,rfl⟩ | ⟨ea,h3⟩
  ·rcases QCo hb with ⟨eb,rfl⟩ | ⟨eb,h4⟩
   ·exact (hab (ea.trans eb.symm)).elim
   ·rcases hfp y hy with h5 | ⟨h5,_⟩
    ·exact h.dis j b (k,x) q (Ne.symm eb) hj h4 y h5
    ·intro h6
     have:=(h.out y ⟨b,q,h4,h6⟩).1
     omega
  ·rcases QCo hb with ⟨eb,rfl⟩ | ⟨eb,h4⟩
   ·intro h5
    rcases hfp y h5 with h5 | ⟨h5,_⟩
    ·exact h.dis a j p (k,x) ea h3 hj y hy h5
    ·have:=(h.out y ⟨a,p,h3,hy⟩).1
     omega
   ·exact h.dis a b p q hab h3 h4 y hy
 ·rcases ft i h3 with h4 | ⟨h4,_⟩
  ·exact h2 h4
  ·omega
end Go.Ab
namespace Go.Ab
open Go Go.Proofs
set_option maxRecDepth 20000
theorem QPP {B:Bus} {j:Nat} {k:List UInt8} {x y:SbL} (h1:QBI B.subs) (hj:B.subs[j]? = some (some (k,x))):QCP (B.put j k y).subs = QBT k y.s (QCP B.subs):=by
 unfold Bus.put
 simp only
 rw [QMB h1 hj,QGK]
def QHn (B:Bus) (l:List Rcd) (name:Txt) (most:Int):List Ntc × Bool × Int:=match QAo name B.subs with
 | none=>([],false,300)
 | some x=>if x.s.behind then (QC9 B.last x.s.f l,true,0) else (x.s.wait.take (QCC most x.s.wait.length),false,0)
def QTs (l:List Rcd) (most:Int) (s:Sb):Sb:=if s.behind then QIE l s else QIF most s
def QN7 (H:List AObj) (ob ro so:Nat) (B:Bus) (l:List Rcd) (name:Txt) (most:Int) (G:List AObj):Prop:=match QAo name B.subs with
 | none=>QB0 G ob ro so B ∧ BusF H G ob ro so B B
 | some x=>∃ B',QB0 G ob ro so B' ∧ BusF H G ob ro so B B' ∧ B'.ready = B.ready ∧ B'.last = B.last ∧ QCP B'.subs = QBT name (QTs l most x.s) (QCP B.subs)
def readR (H:List AObj) (ob ro so:Nat) (B:Bus) (l:List Rcd) (name:Txt) (most:Int) (v:AV) (G:List AObj):Prop:=
 v = .tup [.imm ((QHn B l name most).1.map QAU),.bool (QHn B l name most).2.1,.int .i64 (QHn B l name most).2.2] ∧ QN7 H ob ro so B l name most G
def rdbS (n o _M:Nat) (L:List Ntc) (s:Nat × List AObj):St:=⟨tmps 91 [(9,.ptr o 0),(11,.imm (L.map QAU)),(41,.imm (L.map QAU)),(42,.int .i64 n),(43,.int .i64 s.1)],s.2⟩
def rdbI (H1:List AObj) (M:Nat) (l:List Rcd) (s:Nat × List AObj):Prop:=s.1 ≤ l.length ∧ (∃ lit,s.2 = H1 ++ lit) ∧ s.2[M]? = some (.map (smK AV.bool (QC1 (l.take s.1))))
theorem QB4 (n:Ntc):QAU n = [.int .i64 n.seq,.int .i64 n.kind,.str n.rc.path,.int .i64 n.rc.index,.imm (n.rc.props.map QBK),.imm (n.rc.tags.map QAT),.imm (n.rc.links.map QAT),.imm (n.rc.run.map QAT),.imm (n.rc.load.map QAT),.str n.rc.name,.int .i64 n.rc.prio,.str n.rc.owner,.str n.rc.group,.int .i64 n.rc.mode]:=rfl
def rdcS (o R:Nat) (most:Int) (s:Nat × AV × List AObj):St:=⟨tmps 91 [(2,.int .i64 most),(9,.ptr o 0),(14,.own R s.1)],s.2.2⟩
def rdcI (H:List AObj) (x:SbL) (sv:AV) (R:Nat) (most:Int) (s:Nat × AV × List AObj):Prop:=s.1 ≤ x.s.wait.length ∧ ((s.1:Int) ≤ most ∨ s.1 = 0) ∧ QLw H s.2.1 x.fp (x.s.wait.drop s.1) ∧ (∃ lit,s.2.2 = H.set x.o (.box 89 [QA5 x.s.f,sv,s.2.1,.bool false]) ++ lit) ∧ s.2.2[R]? = some (.reg 39 14 ((x.s.wait.take s.1).map QAU))
theorem QWv {H:List AObj} {ob ro so:Nat} {B:Bus} (h:QB0 H ob ro so B) {l:List Rcd} (hA:AllOk B.ready l) (h1:QBI B.subs) (hfl:B.okF) (hw:∀ (j:Nat) (p:Txt × SbL),B.subs[j]? = some (some p) → ∀ n ∈ p.2.s.wait,QAk n.rc = true) (name:Txt) (most:Int):
  ACallsR Tryz.prog 14 [.ptr ob 0,.str name,.int .i64 most] H (readR H ob ro so B l name most):=by
 have b1:=h.box
 have b3:=h.sbs
 have ap:∀ {i:Nat} {x:AObj} (l:List AObj),H[i]? = some x → (H ++ l)[i]? = some x:=fun l hx=>by
  rw [List.getElem?_append_left (List.getElem?_eq_some_iff.1 hx).1]; exact hx
 have a1:=fun l=>ap l b1
 have hk:=QBy (fun x:SbL=>AV.ptr x.o 0) name B.subs
 have hf:=QCd (fun x:SbL=>AV.ptr x.o 0) name B.subs
 refine QCn _ cqq ?_
 refine gS ?_
 unfold goE
 cases hg:QAo name B.subs with
 | none=>
  rw [hg] at hf
  refine QAD ?_
  simp +decide -dsimp -implicitDefEqProofs [go_sem,b1,b3,hk,hf]
  refine QAj _ _ (Wk.nilI 6 rfl) ?_
  simp +decide -dsimp -implicitDefEqProofs [go_sem,QBG]
  refine ⟨by simp [QHn,hg],?_⟩
  unfold QN7
  rw [hg]
  have:=QB6 h []
  rwa [List.append_nil] at this
 | some x=>
  rw [hg] at hf
  obtain ⟨j,hj⟩:=QHf hg
  have hsub:=h.sub j _ hj
  have hflx:=hfl j _ hj
  have hwx:=hw j _ hj
  obtain ⟨sv,wv,s1,s2,s3,s4,s5,s6⟩:=hsub
  simp only at s1 s2 s3 s4 s5 s6 hflx hwx
  have lx:=(List.getElem?_eq_some_iff.1 s2).1
  refine QBU ?_
  simp +decide -dsimp -implicitDefEqProofs [go_sem,b1,b3,hk,hf]
  refine gS ?_
  unfold goE
  cases hb:x.s.behind with
  | true=>
   rw [hb] at s2
   refine QAD ?_
   simp +decide -dsimp -implicitDefEqProofs [go_sem,s2]
   refine QAS (QSr h hA s2 hflx) ?_
   rintro _ G ⟨rfl,lit,rfl⟩
   have a2:∀ l,(H ++ l)[x.o]? = some (.box 89 [QA5 x.s.f,sv,wv,.bool true]):=fun l=>ap l s2
   simp +decide -dsimp -implicitDefEqProofs [go_sem,a2]
   have lo:x.o < H.length + (lit.length + 1):=by omega
   rw [if_pos lo]
   have e2:∀ y,((H ++ (lit ++ [AObj.map []])).set x.o y)[x.o]? = some y:=fun y=>QBX (a2 _)
   simp +decide -dsimp -implicitDefEqProofs [go_sem,e2]
   have lo':x.o < H.length + (lit.length + 1):=by omega
   rw [if_pos lo']
   obtain ⟨M,hM⟩:∃ M,M = H.length + lit.length:=⟨_,rfl⟩
   rw [← hM]
   obtain ⟨H1,hH1⟩:∃ H1,H1 = H.set x.o (.box 89 [QA5 x.s.f,.map M,wv,.bool false]):=⟨_,rfl⟩
   have eH:(H ++ (lit ++ [AObj.map []])).set x.o (.box 89 [QA5 x.s.f,.map M,wv,.bool false]) = H1 ++ (lit ++ [.map []]):=by
    rw [hH1,List.set_append,if_pos lx]
   have lH1:H1.length = H.length:=by rw [hH1,List.length_set]
   rw [eH]
   have b4:∀ l,(H1 ++ l)[x.o]? = some (.box 89 [QA5 x.s.f,.map M,wv,.bool false]):=fun l=>by
    rw [List.getElem?_append_left (by omega),hH1]; exact QBX s2
   obtain ⟨F,hF⟩:∃ F,F = l.filter (QA4 x.s.f):=⟨_,rfl⟩
   have eL:QC9 B.last x.s.f l = F.map (nt1 B.last):=by rw [hF]; rfl
   rw [eL]
   have fl:F.length ≤ 1000:=by rw [hF]; exact Nat.le_trans (List.length_filter_le _ _) hA.len
   have hT0:rdbI H1 M F (0,H1 ++ (lit ++ [.map []])):=⟨Nat.zero_le _,⟨_,rfl⟩,by
    show (H1 ++ _)[M]? = _
    rw [← List.append_assoc,List.getElem?_append_right (by simp; omega)]
    simp [hM,lH1,QC1,smK]⟩
   simp only [List.length_map]
   refine QBH (S:=Nat × List AObj) (rdbS F.length x.o M (F.map (nt1 B.last))) (fun s=>F.length - s.1) (rdbI H1 M F) _ hT0 (Wk.jk ?_) ?_
   ·simp +decide -dsimp -implicitDefEqProofs [go_sem,jkT]
   rintro ⟨i,G⟩ ⟨hi,⟨lit2,hG⟩,hmap⟩
   simp only at hi hG hmap
   unfold rdbS
   simp only
   by_cases hlt:i < F.length
   ·have w:IntKind.i64.wrap ((i:Int) + 1) = i + 1:=w64 (by omega) (by omega)
    have hrow:=QB4 (nt1 B.last F[i])
    have q1:∀ l,(G ++ l)[x.o]? = some (.box 89 [QA5 x.s.f,.map M,wv,.bool false]):=fun l=>by rw [hG,List.append_assoc]; exact b4 _
    have q2:∀ l,(G ++ l)[M]? = some (.map (smK AV.bool (QC1 (F.take i)))):=fun l=>by
     rw [List.getElem?_append_left (List.getElem?_eq_some_iff.1 hmap).1]; exact hmap
    have hkk:=QBy AV.bool F[i].path (QC1 (F.take i))
    have hset:=QDv AV.bool F[i].path true (QC1 (F.take i))
    have hst:QBT F[i].path true (QC1 (F.take i)) = QC1 (F.take (i + 1)):=by rw [List.take_succ_eq_append_getElem hlt,QME]
    rw [hst] at hset
    refine QAD ?_
    simp +decide -dsimp -implicitDefEqProofs [go_sem,hlt,hrow,q1,q2,w]
    have o2:QBB [0,1,3,7,0,16,48,127] [([],[]),([],[]),([],[]),([x.o],[]),([],[]),([],[]),([G.length],[]),([M],[M])] = true:=by simp +decide [QBB,QCz]
    refine ⟨hkk,o2,?_⟩
    have hset':QCt (AV.str (nt1 B.last F[i]).rc.path) (AV.bool true) (smK AV.bool (QC1 (List.take i F))) = smK AV.bool (QC1 (F.take (i + 1))):=hset
    rw [hset']
    refine QAG (S:=Nat × List AObj) (i + 1,(G ++ [AObj.box 39 (QAU (nt1 B.last F[i]))]).set M (.map (smK AV.bool (QC1 (F.take (i + 1)))))) ⟨hlt,⟨(lit2 ++ [AObj.box 39 (QAU (nt1 B.last F[i]))]).set (M - H1.length) (.map (smK AV.bool (QC1 (F.take (i + 1))))),?_⟩,?_⟩ (by show F.length - (i + 1) < F.length - i; omega) (Wk.jk ?_)
    ·show (G ++ _).set M _ = _
     rw [hG,List.append_assoc]; exact QEz _ (by omega)
    ·exact QBX (q2 _)
    ·simp +decide -dsimp -implicitDefEqProofs [go_sem,jkT]
   ·have e:i = F.length:=by omega
    subst e
    refine QAD ?_
    refine gs ?_
    refine QAj _ _ (Wk.refl _ _) ?_
    simp +decide -dsimp -implicitDefEqProofs [go_sem,QBG]
    rw [List.take_length] at hmap
    have eV:QHn B l name most = (QC9 B.last x.s.f l,true,0):=by simp [QHn,hg,hb]
    unfold readR
    rw [eV]
    refine ⟨by rw [eL,List.map_map],?_⟩
    unfold QN7
    rw [hg]
    have hwv:=s5 hb
    subst hwv
    have hwn:x.s.wait = []:=by
     rcases s4 with ⟨_,h⟩ | ⟨r,F,_,_,⟨h,_⟩ | ⟨_,_,_,h,_⟩⟩
     ·exact h
     ·cases h
     ·cases h
    have hS:SubAt G x.o (M :: x.fp) (QIE l x.s):=by
     refine ⟨.map M,.nils,by simp [s1],?_,.inr ⟨M,by simp,rfl,?_⟩,.inl ⟨rfl,hwn⟩,fun e=>by simp [QIE] at e,by show x.s.wait.length ≤ 64; exact s6⟩
     ·rw [hG]; exact b4 _
     ·show G[M]? = some (.map (smK AV.bool (QC1 (l.filter (QA4 x.s.f)))))
      rw [← hF]; exact hmap
    have hGl:H.length ≤ G.length:=by rw [hG,List.length_append,lH1]; omega
    have lM:=(List.getElem?_eq_some_iff.1 hmap).1
    have hG1:∀ i,i < H.length → i ∉ x.fp → G[i]? = H[i]?:=fun i hi hn=>by
     have hne:x.o ≠ i:=fun e=>hn (e ▸ s1)
     rw [hG,List.getElem?_append_left (by omega),hH1,List.getElem?_set_ne hne]
    have hfp:∀ i ∈ M :: x.fp,i ∈ x.fp ∨ (H.length ≤ i ∧ i < G.length):=fun i hi=>by
     rcases List.mem_cons.1 hi with rfl | hi
     ·exact .inr ⟨by omega,lM⟩
     ·exact .inl hi
    obtain ⟨k1,k2⟩:=QJD h hj hGl hG1 hfp hS
    refine ⟨_,k1,k2,rfl,rfl,?_⟩
    rw [QPP h1 hj]
    unfold QTs
    rw [hb]; rfl
  | false=>
   rw [hb] at s2
   refine QAD ?_
   simp +decide -dsimp -implicitDefEqProofs [go_sem,s2]
   have hT0:rdcI H x sv H.length most (0,wv,H ++ [.reg 39 14 []]):=⟨Nat.zero_le _,.inr rfl,by simpa using s4,⟨[.reg 39 14 []],by rw [QCe s2]⟩,by simp⟩
   refine QBH (S:=Nat × AV × List AObj) (rdcS x.o H.length most) (fun s=>x.s.wait.length - s.1) (rdcI H x sv H.length most) _ hT0 ((Wk.nilT 14 39 14 rfl (Nat.le_refl _)).trans (Wk.jk ?_)) ?_
   ·simp +decide -dsimp -implicitDefEqProofs [go_sem,jkT]
   rintro ⟨i,wv1,G⟩ ⟨hi,him,hW,⟨lit,hG⟩,hreg⟩
   simp only at hi him hW hG hreg
   unfold rdcS
   simp only
   have hti:(x.s.wait.take i).length = i:=by rw [List.length_take]; omega
   have q1:∀ l,(G ++ l)[x.o]? = some (.box 89 [QA5 x.s.f,sv,wv1,.bool false]):=fun l=>by
    rw [hG,List.append_assoc,List.getElem?_append_left (by rw [List.length_set]; exact lx)]; exact QBX s2
   have q1':G[x.o]? = some (.box 89 [QA5 x.s.f,sv,wv1,.bool false]):=by have:=q1 []; rwa [List.append_nil] at this
   have q2:∀ l,(G ++ l)[H.length]? = some (.reg 39 14 ((x.s.wait.take i).map QAU)):=fun l=>by
    rw [List.getElem?_append_left (List.getElem?_eq_some_iff.1 hreg).1]; exact hreg
   have hmin:min i x.s.wait.length = i:=by omega
   have hend:i = QCC most x.s.wait.length → readR H ob ro so B l name most (.tup [.imm ((x.s.wait.take i).map QAU),.bool false,.int .i64 0]) (G.set H.length .dead):=fun hc=>by
    have eV:QHn B l name most = (x.s.wait.take i,false,0):=by simp [QHn,hg,hb,hc]
    unfold readR
    rw [eV]
    refine ⟨rfl,?_⟩
    unfold QN7
    rw [hg]
    have hGs:(G.set H.length .dead) = H.set x.o (.box 89 [QA5 x.s.f,sv,wv1,.bool false]) ++ lit.set 0 .dead:=by
     rw [hG,QEz _ (by rw [List.length_set]; exact Nat.le_refl _),List.length_set,Nat.sub_self]
    have hgl:H.length ≤ (G.set H.length .dead).length:=by rw [hGs,List.length_append,List.length_set]; omega
    have hG1:∀ k,k < H.length → k ∉ x.fp → (G.set H.length .dead)[k]? = H[k]?:=fun k hk hn=>by
     have hne:x.o ≠ k:=fun e=>hn (e ▸ s1)
     rw [hGs,List.getElem?_append_left (by rw [List.length_set]; exact hk),List.getElem?_set_ne hne]
    have hG2:∀ k y,k ≠ x.o → H[k]? = some y → (G.set H.length .dead)[k]? = some y:=fun k y hk hy=>by
     rw [hGs,List.getElem?_append_left (by rw [List.length_set]; exact (List.getElem?_eq_some_iff.1 hy).1),List.getElem?_set_ne (Ne.symm hk)]; exact hy
    have hS:SubAt (G.set H.length .dead) x.o x.fp (QIF most x.s):=by
     refine ⟨sv,wv1,s1,?_,?_,?_,fun e=>?_,?_⟩
     ·rw [hGs,List.getElem?_append_left (by rw [List.length_set]; exact lx)]
      show _ = some (AObj.box 89 [QA5 x.s.f,sv,wv1,.bool x.s.behind])
      rw [hb]; exact QBX s2
     ·rcases s3 with ⟨e,_⟩ | ⟨q,hq,e,hq2⟩
      ·rw [hb] at e; cases e
      ·exact .inr ⟨q,hq,e,hG2 q _ (QDJ hq2 s2 (by simp)) hq2⟩
     ·show QLw _ wv1 x.fp (x.s.wait.drop (QCC most x.s.wait.length))
      rw [← hc]
      rcases hW with ⟨e,e2⟩ | ⟨r,F,hr,hF,hFw⟩
      ·exact .inl ⟨e,e2⟩
      ·exact .inr ⟨r,F,hr,hG2 r _ (QDJ hF s2 (by simp)) hF,hFw⟩
     ·have:x.s.behind = true:=e
      rw [hb] at this; cases this
     ·show (x.s.wait.drop _).length ≤ 64
      rw [List.length_drop]; omega
    obtain ⟨k1,k2⟩:=QJD h hj hgl hG1 (fun k hk=>.inl hk) hS
    refine ⟨_,k1,k2,rfl,rfl,?_⟩
    rw [QPP h1 hj]
    unfold QTs
    rw [hb]; rfl
   obtain ⟨K,hK⟩:∃ K,K = (x.s.wait.take i).map QAU:=⟨_,rfl⟩
   rw [← hK] at hend hreg q2
   have hKl:K.length = i:=by rw [hK,List.length_map,hti]
   by_cases hm:(i:Int) < most
   rotate_left
   ·refine QAD ?_
    simp +decide -dsimp -implicitDefEqProofs [go_sem,hreg,hKl,hm]
    refine QAj _ _ (Wk.frz (l:=K) 6 H.length hreg (by rw [hKl]; rfl)) ?_
    simp +decide -dsimp -implicitDefEqProofs [go_sem,QBG]
    exact hend (by unfold QCC; split <;> omega)
   ·rcases hW with ⟨rfl,hnil⟩ | ⟨r,F,hr,hF,hFw⟩
    ·refine QAD ?_
     simp +decide -dsimp -implicitDefEqProofs [go_sem,hreg,q1',hKl,hm]
     refine QAj _ _ (Wk.frz (l:=K) 6 H.length hreg (by rw [hKl]; rfl)) ?_
     simp +decide -dsimp -implicitDefEqProofs [go_sem,QBG]
     exact hend (by have:=congrArg List.length hnil; rw [List.length_drop] at this; simp only [List.length_nil] at this; unfold QCC; split <;> omega)
    ·have hrx:r ≠ x.o:=QDJ hF s2 (by simp)
     have hrG:G[r]? = some (.reg 39 14 (F.map QAU)):=by
      rw [hG,List.getElem?_append_left (by rw [List.length_set]; exact (List.getElem?_eq_some_iff.1 hF).1),List.getElem?_set_ne (Ne.symm hrx)]; exact hF
     have hxR:x.o ≠ H.length:=by omega
     have hrR:r ≠ H.length:=by have:=(List.getElem?_eq_some_iff.1 hF).1; omega
     rcases hFw with ⟨rfl,hFe⟩ | ⟨lo,jj,hlo,rfl,hFe⟩
     ·have hlen:F.length = x.s.wait.length - i:=by rw [hFe,List.length_drop]
      have hLl:(F.map QAU).length = F.length:=List.length_map _
      by_cases hz:i < x.s.wait.length
      rotate_left
      ·have hj0:¬ 0 < F.length:=by omega
       generalize F.map QAU = L at hrG hLl
       refine QAD ?_
       simp +decide -dsimp -implicitDefEqProofs [go_sem,hreg,q1',hKl,hm,hrG,hLl,hj0]
       refine QAj _ _ (Wk.frz (l:=K) 6 H.length hreg (by rw [hKl]; rfl)) ?_
       simp +decide -dsimp -implicitDefEqProofs [go_sem,QBG]
       exact hend (by unfold QCC; split <;> omega)
      ·have hj1:0 < F.length:=by omega
       obtain ⟨w,hw0⟩:∃ w,w = x.s.wait[i]:=⟨_,rfl⟩
       have hrow:∀ (h:0 < (F.map QAU).length),(F.map QAU)[0]'h = [.int .i64 w.seq,.int .i64 w.kind,.str w.rc.path,.int .i64 w.rc.index,.imm (w.rc.props.map QBK),.imm (w.rc.tags.map QAT),.imm (w.rc.links.map QAT),.imm (w.rc.run.map QAT),.imm (w.rc.load.map QAT),.str w.rc.name,.int .i64 w.rc.prio,.str w.rc.owner,.str w.rc.group,.int .i64 w.rc.mode]:=fun h=>by
        rw [← QB4,hw0,List.getElem_map]
        congr 1
        simp only [hFe,List.getElem_drop,Nat.add_zero]
       have co:=QEd w.rc (QPN (hwx w (hw0 ▸ List.getElem_mem hz)))
       have hcl:=fun k=>QBr k w.rc
       rw [QAc] at co hcl
       have hwt:K ++ [[.int .i64 w.seq,.int .i64 w.kind,.str w.rc.path,.int .i64 w.rc.index,.imm (w.rc.props.map QBK),.imm (w.rc.tags.map QAT),.imm (w.rc.links.map QAT),.imm (w.rc.run.map QAT),.imm (w.rc.load.map QAT),.str w.rc.name,.int .i64 w.rc.prio,.str w.rc.owner,.str w.rc.group,.int .i64 w.rc.mode]] = (x.s.wait.take (i + 1)).map QAU:=by
        rw [← QB4,hK,List.take_succ_eq_append_getElem hz,List.map_append,hw0]; rfl
       have hLn:0 < (F.map QAU).length:=by rw [hLl]; omega
       have g0:∀ y,(G ++ [y])[G.length]? = some y:=fun y=>by simp
       have lG0:H.length < G.length:=(List.getElem?_eq_some_iff.1 hreg).1
       have q4:∀ l,(G ++ l)[r]? = some (.reg 39 14 (F.map QAU)):=fun l=>by rw [List.getElem?_append_left (List.getElem?_eq_some_iff.1 hrG).1]; exact hrG
       have hrw:=List.getElem?_eq_getElem hLn
       rw [hrow hLn] at hrw
       generalize F.map QAU = L at hrG hLl hrow hLn q4 hrw
       refine QAD ?_
       simp +decide -dsimp -implicitDefEqProofs [go_sem,hreg,q1',hKl,hm,hrG,hLl,hj1,hrow]
       have f1:∀ l y,((G ++ l).set H.length y)[x.o]? = some (.box 89 [QA5 x.s.f,sv,(.own r F.length),.bool false]):=fun l y=>QBF (q1 l) (.inl hxR)
       have f2:∀ l y,((G ++ l).set H.length y)[r]? = some (.reg 39 14 L):=fun l y=>QBF (q4 l) (.inl hrR)
       refine QAA co (by rw [QAB,QAE,hcl 0]; rfl) (by rw [QAE,hcl 0]) ?_
       simp +decide -dsimp -implicitDefEqProofs [go_sem,q2,hKl,hLl,maxLen,f1,f2]
       have ord:QBB [0,0,0,4,14,0,32,96,224,480,30,2047,4095,8191] [([],[]),([],[]),([G.length],[]),([],[]),([H.length],[H.length]),([],[]),([],[]),([],[]),([x.o],[]),([r],[]),([],[]),([],[]),([],[]),([x.o],[x.o])] = true:=by
        simp +decide [QBB,QCz,hxR,hrR,Ne.symm hxR,Ne.symm hrR]
       refine ⟨⟨by omega,by omega⟩,by omega,ord,?_⟩
       rw [hwt]
       have hnew:∀ a b:AObj,((G ++ [a,b]).set H.length (.reg 39 14 ((x.s.wait.take (i + 1)).map QAU))).set x.o (.box 89 [QA5 x.s.f,sv,.pre r 1 (F.length - 1) F.length,.bool false]) = H.set x.o (.box 89 [QA5 x.s.f,sv,.pre r 1 (F.length - 1) F.length,.bool false]) ++ (lit ++ [a,b]).set 0 (.reg 39 14 ((x.s.wait.take (i + 1)).map QAU)):=fun a b=>by
        rw [hG,List.append_assoc,QEz _ (by rw [List.length_set]; exact Nat.le_refl _),List.length_set,Nat.sub_self,List.set_append,if_pos (by rw [List.length_set]; exact lx),List.set_set]
       have hwd:QLw H (.pre r 1 (F.length - 1) F.length) x.fp (x.s.wait.drop (i + 1)):=.inr ⟨r,F,hr,hF,.inr ⟨1,F.length - 1,by omega,rfl,by rw [← List.drop_drop,← hFe]⟩⟩
       refine QAG (S:=Nat × AV × List AObj) (i + 1,.pre r 1 (F.length - 1) F.length,_) ⟨hz,.inl (by show ((i + 1:Nat):Int) ≤ most; omega),hwd,⟨_,hnew _ _⟩,QBF (QBX (q2 _)) (.inl (Ne.symm hxR))⟩ (by show x.s.wait.length - (i + 1) < x.s.wait.length - i; omega) (Wk.jk ?_)
       simp +decide -dsimp -implicitDefEqProofs [go_sem,jkT]
     ·have hlen:jj = x.s.wait.length - i:=by have:=congrArg List.length hFe; rw [List.length_drop,List.length_drop] at this; omega
      have hLl:(F.map QAU).length = F.length:=List.length_map _
      by_cases hz:i < x.s.wait.length
      rotate_left
      ·have hj0:¬ 0 < jj:=by omega
       generalize F.map QAU = L at hrG hLl
       refine QAD ?_
       simp +decide -dsimp -implicitDefEqProofs [go_sem,hreg,q1',hKl,hm,hrG,hLl,hj0]
       refine QAj _ _ (Wk.frz (l:=K) 6 H.length hreg (by rw [hKl]; rfl)) ?_
       simp +decide -dsimp -implicitDefEqProofs [go_sem,QBG]
       exact hend (by unfold QCC; split <;> omega)
      ·have hj1:0 < jj:=by omega
       obtain ⟨w,hw0⟩:∃ w,w = x.s.wait[i]:=⟨_,rfl⟩
       have hrow:∀ (h:lo < (F.map QAU).length),(F.map QAU)[lo]'h = [.int .i64 w.seq,.int .i64 w.kind,.str w.rc.path,.int .i64 w.rc.index,.imm (w.rc.props.map QBK),.imm (w.rc.tags.map QAT),.imm (w.rc.links.map QAT),.imm (w.rc.run.map QAT),.imm (w.rc.load.map QAT),.str w.rc.name,.int .i64 w.rc.prio,.str w.rc.owner,.str w.rc.group,.int .i64 w.rc.mode]:=fun h=>by
        rw [← QB4,hw0,List.getElem_map]
        congr 1
        have h2:=List.getElem_drop (xs:=F) (i:=lo) (j:=0) (h:=by rw [List.length_drop]; omega)
        simp only [Nat.add_zero] at h2
        rw [← h2]
        simp only [hFe,List.getElem_drop,Nat.add_zero]
       have co:=QEd w.rc (QPN (hwx w (hw0 ▸ List.getElem_mem hz)))
       have hcl:=fun k=>QBr k w.rc
       rw [QAc] at co hcl
       have hwt:K ++ [[.int .i64 w.seq,.int .i64 w.kind,.str w.rc.path,.int .i64 w.rc.index,.imm (w.rc.props.map QBK),.imm (w.rc.tags.map QAT),.imm (w.rc.links.map QAT),.imm (w.rc.run.map QAT),.imm (w.rc.load.map QAT),.str w.rc.name,.int .i64 w.rc.prio,.str w.rc.owner,.str w.rc.group,.int .i64 w.rc.mode]] = (x.s.wait.take (i + 1)).map QAU:=by
        rw [← QB4,hK,List.take_succ_eq_append_getElem hz,List.map_append,hw0]; rfl
       have hLn:lo < (F.map QAU).length:=by rw [hLl]; omega
       have g0:∀ y,(G ++ [y])[G.length]? = some y:=fun y=>by simp
       have lG0:H.length < G.length:=(List.getElem?_eq_some_iff.1 hreg).1
       have q4:∀ l,(G ++ l)[r]? = some (.reg 39 14 (F.map QAU)):=fun l=>by rw [List.getElem?_append_left (List.getElem?_eq_some_iff.1 hrG).1]; exact hrG
       have hrw:=List.getElem?_eq_getElem hLn
       rw [hrow hLn] at hrw
       generalize F.map QAU = L at hrG hLl hrow hLn q4 hrw
       refine QAD ?_
       simp +decide -dsimp -implicitDefEqProofs [go_sem,hreg,q1',hKl,hm,hrG,hLl,hj1,hrw]
       have f1:∀ l y,((G ++ l).set H.length y)[x.o]? = some (.box 89 [QA5 x.s.f,sv,(.pre r lo jj F.length),.bool false]):=fun l y=>QBF (q1 l) (.inl hxR)
       have f2:∀ l y,((G ++ l).set H.length y)[r]? = some (.reg 39 14 L):=fun l y=>QBF (q4 l) (.inl hrR)
       refine QAA co (by rw [QAB,QAE,hcl 0]; rfl) (by rw [QAE,hcl 0]) ?_
       simp +decide -dsimp -implicitDefEqProofs [go_sem,q2,hKl,hLl,maxLen,f1,f2]
       have ord:QBB [0,0,0,4,14,0,32,96,224,480,30,2047,4095,8191] [([],[]),([],[]),([G.length],[]),([],[]),([H.length],[H.length]),([],[]),([],[]),([],[]),([x.o],[]),([r],[]),([],[]),([],[]),([],[]),([x.o],[x.o])] = true:=by
        simp +decide [QBB,QCz,hxR,hrR,Ne.symm hxR,Ne.symm hrR]
       refine ⟨⟨by omega,by omega⟩,by omega,ord,?_⟩
       rw [hwt]
       have hnew:∀ a b:AObj,((G ++ [a,b]).set H.length (.reg 39 14 ((x.s.wait.take (i + 1)).map QAU))).set x.o (.box 89 [QA5 x.s.f,sv,.pre r (lo + 1) (jj - 1) F.length,.bool false]) = H.set x.o (.box 89 [QA5 x.s.f,sv,.pre r (lo + 1) (jj - 1) F.length,.bool false]) ++ (lit ++ [a,b]).set 0 (.reg 39 14 ((x.s.wait.take (i + 1)).map QAU)):=fun a b=>by
        rw [hG,List.append_assoc,QEz _ (by rw [List.length_set]; exact Nat.le_refl _),List.length_set,Nat.sub_self,List.set_append,if_pos (by rw [List.length_set]; exact lx),List.set_set]
       have hwd:QLw H (.pre r (lo + 1) (jj - 1) F.length) x.fp (x.s.wait.drop (i + 1)):=.inr ⟨r,F,hr,hF,.inr ⟨lo + 1,jj - 1,by omega,rfl,by rw [← List.drop_drop,hFe,List.drop_drop]⟩⟩
       refine QAG (S:=Nat × AV × List AObj) (i + 1,.pre r (lo + 1) (jj - 1) F.length,_) ⟨hz,.inl (by show ((i + 1:Nat):Int) ≤ most; omega),hwd,⟨_,hnew _ _⟩,QBF (QBX (q2 _)) (.inl (Ne.symm hxR))⟩ (by show x.s.wait.length - (i + 1) < x.s.wait.length - i; omega) (Wk.jk ?_)
       simp +decide -dsimp -implicitDefEqProofs [go_sem,jkT]
end Go.Ab
namespace Go.Ab
open Go Go.Proofs
set_option maxRecDepth 20000
def QQw (ob ro so:Nat) (B:Bus) (i:Nat):Prop:=i = ob ∨ i = ro ∨ i = so ∨ B.foot i
structure Bx (H:List AObj) (ob ro so:Nat) (W:RBus) (n:Nat) (K:Nat → Prop) (B:Bus):Prop where
 at_:QB0 H ob ro so B
 cp:Cpl B.ready (QCP B.subs) W
 la:B.last = W.last
 q0:0 ≤ W.last
 q1:W.last ≤ n
 rl:B.ready.length ≤ n
 wl:W.ready.length ≤ n
 kp:∀ i,K i → i < H.length ∧ ¬ QQw ob ro so B i
def bxR (H:List AObj) (ob ro so:Nat) (W:RBus) (n:Nat) (K:Nat → Prop) (G:List AObj):Prop:=(∃ B,Bx G ob ro so W n K B) ∧ (∀ i,K i → G[i]? = H[i]?) ∧ H.length ≤ G.length
theorem Bx.keep {H G:List AObj} {ob ro so:Nat} {W:RBus} {n:Nat} {K:Nat → Prop} {B B':Bus} (h:Bx H ob ro so W n K B) (f:BusF H G ob ro so B B'):(∀ i,K i → G[i]? = H[i]?) ∧ ∀ i,K i → i < G.length ∧ ¬ QQw ob ro so B' i:=by
 have key:∀ i,K i → G[i]? = H[i]? ∧ ¬ B'.foot i:=fun i hi=>by
  obtain ⟨h1,h2⟩:=h.kp i hi
  exact f.keep i h1 (fun e=>h2 (.inl e)) (fun e=>h2 (.inr (.inl e))) (fun e=>h2 (.inr (.inr (.inl e)))) fun e=>h2 (.inr (.inr (.inr e)))
 refine ⟨fun i hi=>(key i hi).1,fun i hi=>?_⟩
 obtain ⟨h1,h2⟩:=h.kp i hi
 refine ⟨Nat.lt_of_lt_of_le h1 f.len,?_⟩
 rintro (e | e | e | e)
 ·exact h2 (.inl e)
 ·exact h2 (.inr (.inl e))
 ·exact h2 (.inr (.inr (.inl e)))
 ·exact (key i hi).2 e
theorem Bx.to {H G:List AObj} {ob ro so:Nat} {W W':RBus} {n n':Nat} {K:Nat → Prop} {B B':Bus} (h:Bx H ob ro so W n K B) (f:BusF H G ob ro so B B') (a:QB0 G ob ro so B') (c:Cpl B'.ready (QCP B'.subs) W') (la:B'.last = W'.last) (q0:0 ≤ W'.last) (q1:W'.last ≤ n') (rl:B'.ready.length ≤ n') (wl:W'.ready.length ≤ n'):
  bxR H ob ro so W' n' K G:=⟨⟨B',a,c,la,q0,q1,rl,wl,(h.keep f).2⟩,(h.keep f).1,f.len⟩
theorem Bx.app {H:List AObj} {ob ro so:Nat} {W:RBus} {n:Nat} {K:Nat → Prop} {B:Bus} (h:Bx H ob ro so W n K B) (l:List AObj):Bx (H ++ l) ob ro so W n K B:=
 ⟨(QB6 h.at_ l).1,h.cp,h.la,h.q0,h.q1,h.rl,h.wl,(h.keep (QB6 h.at_ l).2).2⟩
theorem Bx.same {H G:List AObj} {ob ro so:Nat} {W:RBus} {n:Nat} {K:Nat → Prop} {B:Bus} (h:Bx H ob ro so W n K B) (f:BusF H G ob ro so B B) (a:QB0 G ob ro so B):bxR H ob ro so W n K G:=h.to f a h.cp h.la h.q0 h.q1 h.rl h.wl
theorem Bx.bump {H:List AObj} {ob ro so:Nat} {W:RBus} {n n':Nat} {K:Nat → Prop} {B:Bus} (h:Bx H ob ro so W n K B) (hn:n ≤ n'):Bx H ob ro so W n' K B:=
 ⟨h.at_,h.cp,h.la,h.q0,by have:=h.q1; omega,Nat.le_trans h.rl hn,Nat.le_trans h.wl hn,h.kp⟩
theorem bxR.bump {H G:List AObj} {ob ro so:Nat} {W:RBus} {n n':Nat} {K:Nat → Prop} (h:bxR H ob ro so W n K G) (hn:n ≤ n'):bxR H ob ro so W n' K G:=
 let ⟨⟨B,hB⟩,h2⟩:=h
 ⟨⟨B,hB.bump hn⟩,h2⟩
theorem QMF {m:QAy SbL} (h:QBI (QCP m)):QBI m:=by
 induction m with
 | nil=>trivial
 | cons o m ih=>
  cases o with
  | none=>simp only [QCP,List.map_cons,Option.map,QBI] at h ⊢; exact ih h
  | some p=>
   simp only [QCP,List.map_cons,Option.map,QBI] at h ⊢
   refine ⟨?_,ih h.2⟩
   have h1:=h.1
   have h2:=QEZ p.1 m
   unfold QCP at h2
   rw [h2] at h1
   cases hg:QAo p.1 m with
   | none=>rfl
   | some x=>rw [hg] at h1; cases h1
theorem Bx.like {H:List AObj} {ob ro so:Nat} {W:RBus} {n:Nat} {K:Nat → Prop} {B:Bus} (h:Bx H ob ro so W n K B) {j:Nat} {p:Txt × SbL} (hp:B.subs[j]? = some (some p)):∃ t,QDX B.ready p.2.s t:=by
 have h1:=QFF (QMF h.cp.oD) hp
 have h2:=QEZ p.1 B.subs
 rw [h1] at h2
 obtain ⟨t,_,ht⟩:=h.cp.theSub h2
 exact ⟨t,ht⟩
theorem Bx.okF {H:List AObj} {ob ro so:Nat} {W:RBus} {n:Nat} {K:Nat → Prop} {B:Bus} (h:Bx H ob ro so W n K B):B.okF:=fun _ _ hp=>let ⟨_,ht⟩:=h.like hp; ht.fl
theorem Bx.all {H:List AObj} {ob ro so:Nat} {W:RBus} {n:Nat} {K:Nat → Prop} {B:Bus} (h:Bx H ob ro so W n K B) (hn:n ≤ 1000):AllOk B.ready W.ready:=h.cp.all (Nat.le_trans h.wl hn) (Nat.le_trans h.rl (by omega))
theorem Bx.subSome {H:List AObj} {ob ro so:Nat} {W:RBus} {n:Nat} {K:Nat → Prop} {B:Bus} (h:Bx H ob ro so W n K B) (name:Txt):(QAo name B.subs).isSome = (W.find name).isSome:=by
 have h2:=QEZ name B.subs
 have h3:=h.cp.sub name
 rw [h2] at h3
 cases h4:QAo name B.subs <;> cases h5:W.find name <;> rw [h4,h5] at h3
 ·rfl
 ·exact h3.elim
 ·exact h3.elim
 ·rfl
theorem QIG (H:List AObj) (K:Nat → Prop) (hK:∀ i,K i → i < H.length):ACallsR Tryz.prog 12 [] H (fun v G=>v = .ptr (H.length + 2) 0 ∧ bxR H (H.length + 2) H.length (H.length + 1) ⟨[],[],0⟩ 0 K G):=
 (Qae H).mono fun v G ⟨h1,h2,h3⟩=>by
  refine ⟨h1,⟨⟨⟨[],[],0⟩,h2,Cpl.nil,rfl,Int.le_refl _,Int.le_refl _,Nat.le_refl _,Nat.le_refl _,fun i hi=>?_⟩,fun i hi=>?_,h3.len⟩⟩
  ·have:=hK i hi
   refine ⟨Nat.lt_of_lt_of_le this h3.len,?_⟩
   rintro (e | e | e | ⟨j,p,e,_⟩)
   ·omega
   ·omega
   ·omega
   ·simp at e
  ·have:=hK i hi
   exact (h3.keep i this (by omega) (by omega) (by omega) fun ⟨j,p,e,_⟩=>by simp at e).1
section
variable {H:List AObj} {ob ro so:Nat} {W:RBus} {n:Nat} {K:Nat → Prop} {B:Bus}
theorem QK6 (h:Bx H ob ro so W n K B) (name:Txt) (f:Flt) (hf:f.sub.length ≤ 1000 ∧ f.tag.length ≤ 1000):ACallsR Tryz.prog 13 [.ptr ob 0,.str name,.agg (QBM f)] H (fun v G=>v = .int .i64 (W.subR name f).2 ∧ bxR H ob ro so (W.subR name f).1 n K G):=
 (QMo h.at_ name f (by omega) (by omega)).mono fun v G ⟨h1,h2⟩=>by
  have hs:=h.subSome name
  have hc:=h.cp.cnt
  rw [QRL] at hc
  have eE:QKi B name f = (W.subR name f).2:=by
   unfold QKi RBus.subR
   rw [hs,hc]
   split
   ·split
    ·rfl
    ·split
     ·rfl
     ·split <;> rfl
   ·rfl
  refine ⟨by rw [h1,eE],?_⟩
  by_cases e0:QKi B name f = 0
  ·rw [if_pos e0] at h2
   obtain ⟨o,k1,k2⟩:=h2
   have hv:QAe name = true:=by
    cases hv:QAe name with
    | true=>rfl
    | false=>unfold QKi at e0; rw [hv] at e0; simp at e0
   have hn:¬ (QCD f.sub ≠ 0 ∨ (f.tag ≠ [] ∧ QCD f.tag ≠ 0)):=fun hn=>by unfold QKi at e0; rw [if_pos hv,if_pos hn] at e0; cases e0
   have hg:¬ (QAo name B.subs).isSome = true:=fun hg=>by unfold QKi at e0; rw [if_pos hv,if_neg hn,if_pos hg] at e0; cases e0
   have hl:¬ 16 ≤ QEG B.subs:=fun hl=>by unfold QKi at e0; rw [if_pos hv,if_neg hn,if_neg hg,if_pos hl] at e0; cases e0
   have eW:(W.subR name f).1 = { W with subs:=W.subs ++ [⟨name,f,[],[],true⟩] }:=by
    unfold RBus.subR
    rw [if_pos hv,if_neg hn,if_neg (by rw [← hs]; exact hg),if_neg (by rw [← hc]; exact hl)]
   have hgn:QAo name (QCP B.subs) = none:=by
    rw [QEZ]
    cases hx:QAo name B.subs with
    | none=>rfl
    | some x=>rw [hx] at hg; simp at hg
   rw [eW]
   exact h.to k2 k1 (by show Cpl B.ready (QCP (QBT name _ B.subs)) _; rw [QGK]; exact h.cp.subscribe hgn f hf) h.la h.q0 h.q1 h.rl h.wl
  ·rw [if_neg e0] at h2
   have eW:(W.subR name f).1 = W:=by
    rw [eE] at e0
    unfold RBus.subR at e0 ⊢
    split at e0
    ·rename_i c1
     rw [if_pos c1]
     split at e0
     ·rename_i c2; rw [if_pos c2]
     ·rename_i c2
      rw [if_neg c2]
      split at e0
      ·rename_i c3; rw [if_pos c3]
      ·rename_i c3
       rw [if_neg c3]
       split at e0
       ·rename_i c4; rw [if_pos c4]
       ·exact (e0 rfl).elim
    ·rename_i c1; rw [if_neg c1]
   rw [eW]
   exact h.same h2.2 h2.1
theorem QWw (h:Bx H ob ro so W n K B) (name:Txt):ACallsR Tryz.prog 19 [.ptr ob 0,.str name] H (fun v G=>v = .int .i64 (W.unsR name).2 ∧ bxR H ob ro so (W.unsR name).1 n K G):=
 (QKj h.at_ name).mono fun v G h1=>by
  have hs:=h.subSome name
  unfold unsR at h1
  unfold RBus.unsR
  cases e:(W.find name).isSome with
  | true=>
   rw [hs,e,if_pos rfl] at h1
   rw [if_pos rfl]
   refine ⟨h1.1,h.to h1.2.2 h1.2.1 ?_ h.la h.q0 h.q1 h.rl h.wl⟩
   show Cpl B.ready (QCP (QDC name B.subs)) _
   rw [QJ3]
   exact h.cp.unsubscribe (by rw [QEZ,Option.isSome_map,hs,e])
  | false=>
   rw [hs,e] at h1
   simp only [Bool.false_eq_true,if_false] at h1 ⊢
   obtain ⟨rfl,rfl⟩:=h1
   have:=(QB6 h.at_ []).2
   rw [List.append_nil] at this
   exact ⟨rfl,h.same this h.at_⟩
theorem QJ6 {β:Type} (k:Txt) (v:β):∀ m:QAy β,(QBT k v m).length ≤ m.length + 1
 | []=>by simp [QBT]
 | none :: r=>by have:=QJ6 k v r; simp only [QBT,List.length_cons]; omega
 | some p :: r=>by
  have:=QJ6 k v r
  simp only [QBT]
  split
  ·simp
  ·simp only [List.length_cons]; omega
theorem QJ7 {β:Type} (k:Txt):∀ m:QAy β,(QDC k m).length = m.length
 | []=>rfl
 | none :: r=>by have:=QJ7 k r; simp only [QDC,List.length_cons]; omega
 | some p :: r=>by
  have:=QJ7 k r
  simp only [QDC]
  split
  ·simp
  ·simp only [List.length_cons]; omega
theorem QM4 (l:List Rcd) (r:Rcd):(QFu l r).length = l.length + 1:=by
 unfold QFu
 have:=QJ2 l r l.length
 simp; omega
theorem QGL (h:Bx H ob ro so W n K B) (hn:n ≤ 1000) (r:Rcd) (hf:Few r):ACallsR Tryz.prog 16 [.ptr ob 0,.agg (QAR r)] H (fun v G=>v = .int .i64 (W.readyR r).2 ∧ bxR H ob ro so (W.readyR r).1 (n + 1) K G):=
 (QUm h.at_ h.okF (by have:=h.la; have:=h.q0; have:=h.q1; omega) r hf).mono fun v G ⟨h1,h2⟩=>by
  have hat:=fun p=>QI9 h.cp p
  have hpar:QAk r = true → ((2 ≤ (QAZ r.path).length ∧ (QAo (QCR r.path) B.ready).isSome = false) ↔ (QBn r.path ≠ [] ∧ (W.at (QBn r.path)).isSome = false)):=fun hs=>by
   unfold QBn
   by_cases h2:2 ≤ (QAZ r.path).length
   ·rw [if_pos h2,hat]
    have hne:QCR r.path ≠ []:=fun e=>by
     obtain ⟨c1,_⟩:=QFv (QAm hs) h2
     have h3:QAZ ([]:Txt) = []:=by decide
     rw [e,h3] at c1
     have:=congrArg List.length c1
     rw [List.length_dropLast] at this
     simp at this; omega
    simp [h2,hne]
   ·rw [if_neg h2]; simp [h2]
  have eE:QNS B r = (W.readyR r).2:=by
   unfold QNS RBus.readyR
   cases hs:QAk r with
   | false=>simp
   | true=>
    rw [if_pos rfl,if_pos rfl]
    by_cases hp:2 ≤ (QAZ r.path).length ∧ (QAo (QCR r.path) B.ready).isSome = false
    ·rw [if_pos hp,if_pos ((hpar hs).1 hp)]
    ·rw [if_neg hp,if_neg (fun e=>hp ((hpar hs).2 e)),hat]
     cases QAo r.path B.ready with
     | none=>rfl
     | some x=>simp only; split <;> rfl
  refine ⟨by rw [h1,eE],?_⟩
  by_cases e0:QNS B r = 0
  ·rw [if_pos e0] at h2
   obtain ⟨S',k1,k2,k3⟩:=h2
   have hs:QAk r = true:=by
    cases hs:QAk r with
    | true=>rfl
    | false=>unfold QNS at e0; rw [hs] at e0; simp at e0
   have hp:¬ (2 ≤ (QAZ r.path).length ∧ (QAo (QCR r.path) B.ready).isSome = false):=fun hp=>by
    unfold QNS at e0; rw [if_pos hs,if_pos hp] at e0; cases e0
   have eW:(W.readyR r).1 = (({ W with ready:=QFu (QBk W.ready r.path) r }:RBus).tell r true):=by
    unfold QNS at e0
    rw [if_pos hs,if_neg hp] at e0
    unfold RBus.readyR
    rw [if_pos hs,if_neg (fun e=>hp ((hpar hs).2 e)),hat]
    cases hg:QAo r.path B.ready with
    | none=>rfl
    | some x=>
     rw [hg] at e0
     simp only at e0 ⊢
     split at e0
     ·rename_i c; rw [if_pos c]
     ·cases e0
   rw [eW]
   have hc:=h.cp.ready hs (fun h2=>by
    cases hx:(QAo (QCR r.path) B.ready).isSome with
    | true=>rfl
    | false=>exact (hp ⟨h2,hx⟩).elim)
   have hla:=h.la
   have hwl:=h.wl
   have hrl:=h.rl
   refine h.to k2 k1 ?_ ?_ ?_ ?_ ?_ ?_
   ·show Cpl (QBT r.path r B.ready) (QCP S') _
    rw [k3,hla]; exact hc
   ·show B.last + 1 = W.last + 1
    rw [hla]
   ·show 0 ≤ W.last + 1
    have:=h.q0; omega
   ·show W.last + 1 ≤ ((n + 1:Nat):Int)
    have:=h.q1; omega
   ·have:=QJ6 r.path r B.ready
    show (QBT r.path r B.ready).length ≤ n + 1
    omega
   ·show (QFu (QBk W.ready r.path) r).length ≤ n + 1
    rw [QM4]
    have:(QBk W.ready r.path).length ≤ W.ready.length:=List.length_filter_le _ _
    omega
  ·rw [if_neg e0] at h2
   have eW:(W.readyR r).1 = W:=by
    rw [eE] at e0
    unfold RBus.readyR at e0 ⊢
    split at e0
    ·rename_i c1
     rw [if_pos c1]
     split at e0
     ·rename_i c2; rw [if_pos c2]
     ·rename_i c2
      rw [if_neg c2]
      split at e0
      ·rename_i x hx
       split at e0
       ·exact (e0 rfl).elim
       ·rename_i c3
        simp only [if_neg c3]
      ·exact (e0 rfl).elim
    ·rename_i c1; rw [if_neg c1]
   rw [eW]
   exact (h.same h2.2 h2.1).bump (by omega)
theorem QPQ (h:Bx H ob ro so W n K B) (hn:n ≤ 1000) (p:Txt):ACallsR Tryz.prog 27 [.ptr ob 0,.str p] H (fun v G=>v = .int .i64 (W.goneR p).2 ∧ bxR H ob ro so (W.goneR p).1 (n + 1) K G):=
 (QX8 h.at_ (by have:=h.la; have:=h.q0; have:=h.q1; omega) p (fun j x hx=>by
  obtain ⟨h1,h2⟩:=h.cp.key x.1 x.2 (QFF h.cp.oR hx)
  rw [← h1]; exact QAm h2)).mono fun v G ⟨h1,h2⟩=>by
  have hat:=QI9 h.cp p
  have hbl:QHY B.ready p = W.ready.any (fun x=>QEv p x.path):=by
   unfold QHY
   rw [Bool.eq_iff_iff,List.any_eq_true,List.any_eq_true]
   constructor
   ·rintro ⟨o,ho,h3⟩
    cases o with
    | none=>simp at h3
    | some x=>
     obtain ⟨j,hj⟩:=List.mem_iff_getElem?.1 ho
     have hg:=QFF h.cp.oR hj
     obtain ⟨h4,_⟩:=h.cp.key x.1 x.2 hg
     exact ⟨x.2,(h.cp.mem x.2).2 (by rw [h4]; exact hg),by rw [h4]; exact h3⟩
   ·rintro ⟨r,hr,h3⟩
    obtain ⟨j,hj⟩:=QHf ((h.cp.mem r).1 hr)
    exact ⟨some (r.path,r),List.mem_of_getElem? hj,h3⟩
  have eE:QIa B p = (W.goneR p).2:=by
   unfold QIa RBus.goneR
   rw [hat,hbl]
   cases QAo p B.ready with
   | none=>rfl
   | some r=>
    simp only [Option.isSome_some,if_true]
    split <;> rfl
  refine ⟨by rw [h1,eE],?_⟩
  by_cases e0:QIa B p = 0
  ·rw [if_pos e0] at h2
   obtain ⟨r,S',hg,k1,k2,k3⟩:=h2
   have hb:QHY B.ready p = false:=by
    cases hb:QHY B.ready p with
    | false=>rfl
    | true=>unfold QIa at e0; rw [hg,hb] at e0; simp at e0
   rw [hbl] at hb
   have eW:(W.goneR p).1 = (({ W with ready:=QBk W.ready p }:RBus).tell r false):=by
    unfold RBus.goneR
    rw [hat,hg]
    simp only [hb,Bool.false_eq_true,if_false]
   rw [eW]
   have hc:=h.cp.gone hg hb
   have hla:=h.la
   have hwl:=h.wl
   have hrl:=h.rl
   refine h.to k2 k1 ?_ ?_ ?_ ?_ ?_ ?_
   ·show Cpl (QDC p B.ready) (QCP S') _
    rw [k3,hla]; exact hc
   ·show B.last + 1 = W.last + 1
    rw [hla]
   ·show 0 ≤ W.last + 1
    have:=h.q0; omega
   ·show W.last + 1 ≤ ((n + 1:Nat):Int)
    have:=h.q1; omega
   ·show (QDC p B.ready).length ≤ n + 1
    rw [QJ7]; omega
   ·show (QBk W.ready p).length ≤ n + 1
    have:(QBk W.ready p).length ≤ W.ready.length:=List.length_filter_le _ _
    omega
  ·rw [if_neg e0] at h2
   have eW:(W.goneR p).1 = W:=by
    rw [eE] at e0
    unfold RBus.goneR at e0 ⊢
    cases hx:W.at p with
    | none=>rfl
    | some r=>
     rw [hx] at e0
     simp only at e0 ⊢
     split at e0
     ·rename_i c; rw [if_pos c]
     ·exact (e0 rfl).elim
   rw [eW]
   exact (h.same h2.2 h2.1).bump (by omega)
theorem QE0 (h:Bx H ob ro so W n K B) (hn:n ≤ 1000) (name:Txt) (most:Int):ACallsR Tryz.prog 14 [.ptr ob 0,.str name,.int .i64 most] H (fun v G=>v = .tup [.imm ((W.readR name most).2.1.map QAU),.bool (W.readR name most).2.2.1,.int .i64 (W.readR name most).2.2.2] ∧ bxR H ob ro so (W.readR name most).1 n K G):=
 (QWv h.at_ (h.all hn) (QMF h.cp.oD) h.okF (fun j p hp=>let ⟨_,ht⟩:=h.like hp; ht.wr) name most).mono fun v G ⟨h1,h2⟩=>by
  have hd:=QEZ name B.subs
  cases hg:QAo name B.subs with
  | none=>
   rw [hg] at hd
   have hw:=h.cp.noSub hd
   have e1:W.readR name most = (W,[],false,300):=by unfold RBus.readR; rw [hw]
   have e2:QHn B W.ready name most = ([],false,300):=by unfold QHn; rw [hg]
   unfold QN7 at h2
   rw [hg] at h2
   rw [e2] at h1
   rw [e1]
   exact ⟨h1,h.same h2.2 h2.1⟩
  | some x=>
   rw [hg] at hd
   obtain ⟨c1,c2⟩:=h.cp.read hd most
   have e2:QHn B W.ready name most = (W.readR name most).2:=by
    rw [c2]; unfold QHn; rw [hg]
    simp only
    rw [h.la]; rfl
   unfold QN7 at h2
   rw [hg] at h2
   obtain ⟨B',k1,k2,k3,k4,k5⟩:=h2
   have eW:(W.readR name most).1.last = W.last ∧ (W.readR name most).1.ready = W.ready:=by
    unfold RBus.readR
    split
    ·exact ⟨rfl,rfl⟩
    ·split <;> exact ⟨rfl,rfl⟩
   refine ⟨by rw [h1,e2],h.to k2 k1 ?_ ?_ ?_ ?_ ?_ ?_⟩
   ·rw [k3,k5]; exact c1
   ·rw [k4,eW.1]; exact h.la
   ·rw [eW.1]; exact h.q0
   ·rw [eW.1]; exact h.q1
   ·rw [k3]; exact h.rl
   ·rw [eW.2]; exact h.wl
theorem QSs (h:Bx H ob ro so W n K B) (hn:n ≤ 1000):ACallsR Tryz.prog 22 [.ptr ob 0] H (fun v G=>v = .imm (W.ready.map QAR) ∧ bxR H ob ro so W n K G):=
 (QSq h.at_ (h.all hn)).mono fun v G ⟨h1,lit,h2⟩=>by
  subst h2
  exact ⟨h1,h.same (QB6 h.at_ lit).2 (QB6 h.at_ lit).1⟩
end
end Go.Ab
