/- maps.Keys, slices.Sorted, slices.Sort laid at this program. -/
import Derived.Shelf.SlIter.Nil
import Derived.Shelf.SortM.Plain
import Derived.Shelf.SortM.SortNone
import Derived.Test.YtpknaffdaemlbaaGreatDoorProg
import Derived.Test.YtpknaffdaemlbaaGreatDoorCX
import Derived.Test.YtpknaffdaemlbaaGreatDoorA5
import Derived.Sort.KeysCollected
import Derived.Test.YtpknaffdaemlbaaGreatDoorDB
import Derived.Test.YtpknaffdaemlbaaGreatDoorW9
set_option maxRecDepth 20000
namespace Go.Proofs
open Go.Shelf
def Tryz.keys52_ren:Go.Shelf.Ren:=⟨fun | 7=>52 | 10=>88 | n=>n,fun | 23=>80 | 26=>9 | 3=>9 | 28=>96 | 0=>0 | 27=>95 | 33=>121 | 4=>4 | n=>n,fun | n=>n⟩
theorem Tryz.keys52:Go.Proofs.SlLaysZ.n7 Tryz.prog Tryz.keys52_ren:={
 mixed:=by kernel_rfl
 f7:=⟨Tryz.f52.name,by decide,Tryz.func52.trans (congrArg some (by kernel_rfl))⟩
 f10:=⟨Tryz.f88.name,by decide,Tryz.func88.trans (congrArg some (by kernel_rfl))⟩
 t0:=Tryz.underlying0
 a0:=Tryz.isAgg0
 z0:=Tryz.sizeOf0
 v0:=Tryz.zeroValue0
 t4:=Tryz.underlying4
 a4:=Tryz.isAgg4
 z4:=Tryz.sizeOf4
 v4:=Tryz.zeroValue4
 t23:=Tryz.underlying80
 a23:=Tryz.isAgg80
 z23:=Tryz.sizeOf80
 v23:=Tryz.zeroValue80
 t26:=Tryz.underlying9
 a26:=Tryz.isAgg9
 z26:=Tryz.sizeOf9
 v26:=Tryz.zeroValue9
 t27:=Tryz.underlying95
 a27:=Tryz.isAgg95
 z27:=Tryz.sizeOf95
 v27:=Tryz.zeroValue95
 t28:=Tryz.underlying96
 a28:=Tryz.isAgg96
 z28:=Tryz.sizeOf96
 v28:=Tryz.zeroValue96
 t33:=Tryz.underlying121
 a33:=Tryz.isAgg121
 z33:=Tryz.sizeOf121
 v33:=Tryz.zeroValue121 }
def Tryz.sorted51_ren:Go.Shelf.Ren:=⟨fun | 6=>51 | 8=>86 | 9=>87 | 11=>125 | 13=>95 | 12=>126 | 23=>137 | 24=>138 | 14=>161 | 15=>162 | 16=>163 | 17=>164 | 18=>165 | 19=>166 | 20=>167 | 21=>168 | 22=>169 | 25=>196 | 26=>171 | 27=>172 | 28=>197 | 29=>198 | 30=>178 | 31=>225 | n=>n,fun | 26=>9 | 28=>96 | 24=>32 | 0=>0 | 3=>3 | 37=>98 | 48=>142 | 50=>145 | 4=>4 | 40=>183 | 39=>182 | 45=>187 | 5=>5 | 9=>9 | 51=>208 | 55=>212 | 57=>225 | 58=>226 | 33=>121 | n=>n,fun | n=>n⟩
theorem Tryz.sorted51:Go.Proofs.SlLaysZ.n6 Tryz.prog Tryz.sorted51_ren:={
 mixed:=by kernel_rfl
 f6:=⟨Tryz.f51.name,by decide,Tryz.func51.trans (congrArg some (by kernel_rfl))⟩
 f8:=⟨Tryz.f86.name,by decide,Tryz.func86.trans (congrArg some (by kernel_rfl))⟩
 f11:=⟨Tryz.f125.name,by decide,Tryz.func125.trans (congrArg some (by kernel_rfl))⟩
 t0:=Tryz.underlying0
 a0:=Tryz.isAgg0
 z0:=Tryz.sizeOf0
 v0:=Tryz.zeroValue0
 t24:=Tryz.underlying32
 a24:=Tryz.isAgg32
 z24:=Tryz.sizeOf32
 v24:=Tryz.zeroValue32
 t26:=Tryz.underlying9
 a26:=Tryz.isAgg9
 z26:=Tryz.sizeOf9
 v26:=Tryz.zeroValue9
 t28:=Tryz.underlying96
 a28:=Tryz.isAgg96
 z28:=Tryz.sizeOf96
 v28:=Tryz.zeroValue96
 i26:=by kernel_rfl }
def Tryz.sort87_ren:Go.Shelf.Ren:=⟨fun | 6=>87 | 8=>95 | 9=>126 | 19=>137 | 20=>138 | 21=>161 | 22=>162 | 23=>163 | 24=>164 | 25=>165 | 26=>166 | 27=>167 | 28=>168 | 29=>169 | 36=>196 | 31=>171 | 32=>172 | 37=>197 | 38=>198 | 39=>178 | 41=>225 | n=>n,fun | 27=>32 | 29=>9 | 3=>3 | 32=>98 | 26=>32 | 0=>0 | 44=>142 | 46=>145 | 4=>4 | 36=>183 | 35=>182 | 41=>187 | 5=>5 | 9=>9 | 53=>208 | 57=>212 | 63=>225 | 64=>226 | n=>n,fun | n=>n⟩
theorem Tryz.sort87:Go.Proofs.SlLaysM.n6 Tryz.prog Tryz.sort87_ren:={
 mixed:=by kernel_rfl
 f6:=⟨Tryz.f87.name,by decide,Tryz.func87.trans (congrArg some (by kernel_rfl))⟩
 f8:=Tryz.func95.trans (congrArg some (by kernel_rfl))
 f9:=⟨Tryz.f126.name,by decide,Tryz.func126.trans (congrArg some (by kernel_rfl))⟩
 f19:=Tryz.func137.trans (congrArg some (by kernel_rfl))
 f20:=Tryz.func138.trans (congrArg some (by kernel_rfl))
 f21:=⟨Tryz.f161.name,by decide,Tryz.func161.trans (congrArg some (by kernel_rfl))⟩
 f22:=⟨Tryz.f162.name,by decide,Tryz.func162.trans (congrArg some (by kernel_rfl))⟩
 f23:=⟨Tryz.f163.name,by decide,Tryz.func163.trans (congrArg some (by kernel_rfl))⟩
 f24:=⟨Tryz.f164.name,by decide,Tryz.func164.trans (congrArg some (by kernel_rfl))⟩
 f25:=⟨Tryz.f165.name,by decide,Tryz.func165.trans (congrArg some (by kernel_rfl))⟩
 f26:=⟨Tryz.f166.name,by decide,Tryz.func166.trans (congrArg some (by kernel_rfl))⟩
 f27:=⟨Tryz.f167.name,by decide,Tryz.func167.trans (congrArg some (by kernel_rfl))⟩
 f28:=⟨Tryz.f168.name,by decide,Tryz.func168.trans (congrArg some (by kernel_rfl))⟩
 f29:=⟨Tryz.f169.name,by decide,Tryz.func169.trans (congrArg some (by kernel_rfl))⟩
 f31:=Tryz.func171.trans (congrArg some (by kernel_rfl))
 f32:=Tryz.func172.trans (congrArg some (by kernel_rfl))
 f36:=⟨Tryz.f196.name,by decide,Tryz.func196.trans (congrArg some (by kernel_rfl))⟩
 f37:=⟨Tryz.f197.name,by decide,Tryz.func197.trans (congrArg some (by kernel_rfl))⟩
 f38:=⟨Tryz.f198.name,by decide,Tryz.func198.trans (congrArg some (by kernel_rfl))⟩
 f39:=⟨Tryz.f178.name,by decide,Tryz.func178.trans (congrArg some (by kernel_rfl))⟩
 f41:=⟨Tryz.f225.name,by decide,Tryz.func225.trans (congrArg some (by kernel_rfl))⟩
 t0:=Tryz.underlying0
 a0:=Tryz.isAgg0
 z0:=Tryz.sizeOf0
 v0:=Tryz.zeroValue0
 t3:=Tryz.underlying3
 a3:=Tryz.isAgg3
 z3:=Tryz.sizeOf3
 v3:=Tryz.zeroValue3
 t4:=Tryz.underlying4
 a4:=Tryz.isAgg4
 z4:=Tryz.sizeOf4
 v4:=Tryz.zeroValue4
 t5:=Tryz.underlying5
 a5:=Tryz.isAgg5
 z5:=Tryz.sizeOf5
 v5:=Tryz.zeroValue5
 t9:=Tryz.underlying9
 a9:=Tryz.isAgg9
 z9:=Tryz.sizeOf9
 v9:=Tryz.zeroValue9
 t26:=Tryz.underlying32
 a26:=Tryz.isAgg32
 z26:=Tryz.sizeOf32
 v26:=Tryz.zeroValue32
 t27:=Tryz.underlying32
 a27:=Tryz.isAgg32
 z27:=Tryz.sizeOf32
 v27:=Tryz.zeroValue32
 t29:=Tryz.underlying9
 a29:=Tryz.isAgg9
 z29:=Tryz.sizeOf9
 v29:=Tryz.zeroValue9
 t32:=Tryz.underlying98
 a32:=Tryz.isAgg98
 z32:=Tryz.sizeOf98
 v32:=Tryz.zeroValue98
 t35:=Tryz.underlying182
 a35:=Tryz.isAgg182
 z35:=Tryz.sizeOf182
 v35:=Tryz.zeroValue182
 t36:=Tryz.underlying183
 a36:=Tryz.isAgg183
 z36:=Tryz.sizeOf183
 v36:=Tryz.zeroValue183
 t41:=Tryz.underlying187
 a41:=Tryz.isAgg187
 z41:=Tryz.sizeOf187
 v41:=Tryz.zeroValue187
 t44:=Tryz.underlying142
 a44:=Tryz.isAgg142
 z44:=Tryz.sizeOf142
 v44:=Tryz.zeroValue142
 t46:=Tryz.underlying145
 a46:=Tryz.isAgg145
 z46:=Tryz.sizeOf145
 v46:=Tryz.zeroValue145
 t53:=Tryz.underlying208
 a53:=Tryz.isAgg208
 z53:=Tryz.sizeOf208
 v53:=Tryz.zeroValue208
 t57:=Tryz.underlying212
 a57:=Tryz.isAgg212
 z57:=Tryz.sizeOf212
 v57:=Tryz.zeroValue212
 t63:=Tryz.underlying225
 a63:=Tryz.isAgg225
 z63:=Tryz.sizeOf225
 v63:=Tryz.zeroValue225
 t64:=Tryz.underlying226
 a64:=Tryz.isAgg226
 z64:=Tryz.sizeOf226
 v64:=Tryz.zeroValue226 }
theorem Tryz.sorts51 (m:Nat):AnyZ.SortsIn Tryz.prog Tryz.sorted51_ren Fence.wide m:=
 ⟨fun blk off cap ss W hH hblk hsz=>callsIn_wide.2 (AnyM.slices_Sort_string Tryz.sort87 blk off cap ss W hH hblk hsz),
  fun p cap W=>callsIn_wide.2 (AnyM.slices_Sort_string_none Tryz.sort87 p cap W)⟩
end Go.Proofs
namespace Go.Ab
open Go Go.Proofs
def c23:AFn:=⟨(.seq (.ops [⟨(some 4),(.mov (bv false)),none⟩]) (.seq (.seq (.ops [⟨(some 6),(.mov (t 0)),none⟩,⟨(some 7),(.len .sl (t 6)),none⟩,⟨(some 8),(.mov (t 1)),none⟩,⟨(some 9),(.len .sl (t 8)),none⟩,⟨(some 10),(.bin .neq (t 7) (t 9)),none⟩]) (.cond (t 10) (.seq (.ops [⟨(some 4),(.mov (bv false)),none⟩]) .ret) .skip)) (.seq (.seq (.ops [⟨(some 5),(.mov (.v (.int .i64 0))),none⟩]) (.block 0 (.loop (.seq (.seq (.ops [⟨(some 11),(.mov (t 5)),none⟩,⟨(some 12),(.mov (t 0)),none⟩,⟨(some 13),(.len .sl (t 12)),none⟩,⟨(some 14),(.bin .lss (t 11) (t 13)),none⟩]) (.cond (t 14) .skip (.exit 0))) (.seq (.block 1 (.seq (.draw [⟨(some 17),(.mov (t 0)),none⟩,⟨(some 18),(.mov (t 5)),none⟩,⟨(some 19),(.iaddr none 2 (t 17) (t 18)),none⟩,⟨(some 20),(.load (some 2) (t 19)),none⟩,⟨(some 21),(.mov (t 1)),none⟩,⟨(some 22),(.mov (t 5)),none⟩,⟨(some 23),(.iaddr none 2 (t 21) (t 22)),none⟩,⟨(some 24),(.load (some 2) (t 23)),none⟩,⟨(some 25),(.eqs true [(some .str),(some .str)] (t 20) (t 24)),none⟩] [0,0,3,7,0,0,48,112,255]) (.cond (t 25) (.seq (.ops [⟨(some 4),(.mov (bv false)),none⟩]) .ret) .skip))) (.ops [⟨(some 15),(.mov (t 5)),none⟩,⟨(some 16),(.bin .add (t 15) (.v (.int .i64 1))),none⟩,⟨(some 5),(.mov (t 16)),none⟩])))))) (.seq (.ops [⟨(some 4),(.mov (bv true)),none⟩]) .ret)))),26,[(.tmp 4)]⟩
theorem c23_ok:QAE Tryz.prog [] 23 = some c23:=by kernel_rfl
def c24:AFn:=⟨(.seq (.ops [⟨(some 2),(.mov (.v .nils)),none⟩]) (.seq (.ops [⟨(some 3),(.mov (.v .nils)),none⟩]) (.seq (.seq (.ops [⟨(some 6),(.mov (t 0)),none⟩,⟨(some 7),(.nilchk (t 6)),none⟩,⟨(some 8),(.faddr 1 (t 7)),none⟩,⟨(some 9),(.load none (t 8)),none⟩,⟨(some 10),(.call (.v (.fn (.func 52) [] [])) [(t 9)]),none⟩,⟨(some 11),(.call (.v (.fn (.func 51) [] [])) [(t 10)]),none⟩,⟨(some 12),(.len .sl (t 11)),none⟩,⟨(some 13),(.mov (.v (.int .i64 0))),none⟩]) (.block 0 (.loop (.seq (.ops [⟨(some 14),(.bin .lss (t 13) (t 12)),none⟩]) (.seq (.cond (t 14) .skip (.exit 0)) (.seq (.block 1 (.seq (.ops [⟨(some 15),(.iaddr none 1 (t 11) (t 13)),none⟩,⟨(some 16),(.load none (t 15)),none⟩,⟨(some 5),(.mov (t 16)),none⟩]) (.ops [⟨(some 17),(.mov (t 3)),none⟩,⟨(some 18),(.mov (t 5)),none⟩,⟨(some 19),(.mov (t 0)),none⟩,⟨(some 20),(.nilchk (t 19)),none⟩,⟨(some 21),(.faddr 1 (t 20)),none⟩,⟨(some 22),(.load none (t 21)),none⟩,⟨(some 23),(.mov (t 5)),none⟩,⟨(some 24),(.lookup .str (.str []) false (t 22) (t 23)),none⟩,⟨(some 25),(.build [(.str []),(.str [])] [(0,(1,(t 18))),(1,(1,(t 24)))]),none⟩,⟨(some 26),(.bslice 53 2 false [(t 25)]),none⟩,⟨(some 27),(.append 53 2 32 (t 17) (t 26)),none⟩,⟨(some 3),(.mov (t 27)),none⟩]))) (.ops [⟨(some 28),(.bin .add (t 13) (.v (.int .i64 1))),none⟩,⟨(some 13),(.mov (t 28)),none⟩]))))))) (.seq (.ops [⟨(some 29),(.mov (t 3)),none⟩,⟨(some 2),(.mov (t 29)),none⟩]) .ret)))),30,[(.tmp 2)]⟩
theorem c24_ok:QAE Tryz.prog [] 24 = some c24:=by kernel_rfl
def c52:AFn:=⟨(.seq (.ops [⟨(some 1),(.box 80 (t 0)),none⟩,⟨(some 2),(.mov (.v .nilf)),none⟩]) (.seq (.ops [⟨(some 3),(.mkfn (.func 88) [] [(t 1)]),none⟩,⟨(some 2),(.mov (t 3)),none⟩]) .ret)),4,[(.tmp 2)]⟩
theorem c52_ok:QAE Tryz.prog [] 52 = some c52:=by kernel_rfl
end Go.Ab
namespace Go.Ab
open Go Go.RowKit Go.Maps Go.Sort Go.Proofs
variable {β:Type}
def ksS (m:QB1 β):List (List UInt8):=m.filterMap (fun o=>o.map (·.1))
def QFy (l:List (List UInt8)):List (List UInt8):=l.mergeSort leB
theorem QED {m:QB1 β} {k:List UInt8} (h:QAx m):k ∈ ksS m ↔ (QAv k m).isSome = true:=by
 induction m with
 | nil=>simp [ksS,QAv]
 | cons o r ih=>
  cases o with
  | none=>simpa [ksS,QAv] using ih (by simpa [QAx] using h)
  | some p=>
   have hr:=ih (by simp only [QAx] at h; exact h.2)
   simp only [ksS,QAv,List.filterMap_cons,Option.map_some,List.mem_cons] at hr ⊢
   by_cases e:p.1 = k
   ·rw [if_pos e]; exact ⟨fun _=>rfl,fun _=>.inl e.symm⟩
   ·rw [if_neg e,← hr]
    exact ⟨fun h=>h.resolve_left fun h=>e h.symm,.inr⟩
theorem QCu:∀ {m:QB1 β},QAx m → (ksS m).Nodup
 | [],_=>by simp [ksS]
 | none :: r,h=>by simpa [ksS] using QCu (m:=r) h
 | some p :: r,h=>by
  simp only [QAx] at h
  have hr:=QCu h.2
  simp only [ksS,List.filterMap_cons,Option.map_some,List.nodup_cons] at hr ⊢
  refine ⟨fun hm=>?_,hr⟩
  have:=(QED h.2).1 (by simpa [ksS] using hm)
  rw [h.1] at this; cases this
theorem QEj:∀ m:QB1 β,(ksS m).length = QGM m
 | []=>rfl
 | none :: r=>by simpa [ksS,QGM] using QEj r
 | some p :: r=>by have:=QEj r; simp only [ksS,List.filterMap_cons,Option.map_some,List.length_cons,QGM] at this ⊢; rw [this]
theorem QOx {l l':List (List UInt8)} (h:l.Perm l'):QFy l = QFy l':=mergeSort_of_perm h
theorem QC2 (l:List (List UInt8)):(QFy l).length = l.length:=by simp [QFy]
theorem QJW {l:List (List UInt8)} {k:List UInt8}:k ∈ QFy l ↔ k ∈ l:=by simp [QFy]
theorem QQI {m m':QB1 β} (h:QAx m) (h':QAx m') (he:∀ k,QAv k m = QAv k m'):QFy (ksS m) = QFy (ksS m'):=
 QOx ((List.perm_ext_iff_of_nodup (QCu h) (QCu h')).2 fun k=>by rw [QED h,QED h',he])
theorem QLd {c:Cx} {f:β → AV}:∀ {m:QB1 β} {n:Nat} {es:List MapEntry},Kvs c (smK f m) n es → es.map (·.key) = (ksS m).map encStr ∧ (∀ e ∈ es,n ≤ e.born ∧ e.born < n + m.length) ∧ (es.map (·.born)).Nodup
 | [],n,es,h=>by simp only [smK,List.map_nil,Kvs] at h; subst h; simp [ksS]
 | none :: r,n,es,h=>by
  simp only [smK,List.map_cons,QDn,Kvs,QCC,if_true] at h
  obtain ⟨h1,h2,h3⟩:=QLd (m:=r) h
  refine ⟨by simpa [ksS] using h1,fun e he=>?_,h3⟩
  have:=h2 e he
  simp only [List.length_cons]; omega
 | some p :: r,n,es,h=>by
  simp only [smK,List.map_cons,QDn,Kvs,QCC,Bool.false_eq_true,if_false] at h
  obtain ⟨e,es',rfl,hk,_,hb,hr⟩:=h
  obtain ⟨h1,h2,h3⟩:=QLd (m:=r) hr
  simp only [Val] at hk
  refine ⟨?_,fun x hx=>?_,?_⟩
  ·simp only [ksS,List.map_cons,List.filterMap_cons,Option.map_some] at h1 ⊢
   rw [h1,hk]
   try rfl
  ·simp only [List.mem_cons] at hx
   simp only [List.length_cons]
   rcases hx with rfl | hx
   ·omega
   ·have:=h2 x hx; omega
  ·simp only [List.map_cons,List.nodup_cons,h3,and_true,List.mem_map,not_exists,not_and]
   intro x hx hxb
   have:=h2 x hx; omega
def noR (_:Value):Option (DataW Unit × List MemPlace):=some (.nil,[])
theorem QLe {c:Cx} {f:β → AV} {m:QB1 β} {P:Program} {k r:Nat} {es:Array MapEntry} (hP:P.underlying k = some .string) (h1:QAx m) (hl:∀ x ∈ ksS m,x.length ≤ maxLen) (hn:m.length ≤ 1000000)
  (hh:c.w.heap[r]? = some (.map es m.length)) (hk:Kvs c (smK f m) 0 es.toList):
  ∃ D0:DataW Unit,c.w.ownsMap P k noR r m.length D0 ∧ (strKeys D0).Perm (ksS m) ∧ Maps.size D0 ≤ 1000000:=by
 obtain ⟨g1,g2,g3⟩:=QLd hk
 have hlen:es.size ≤ m.length:=by
  have:(es.toList.map (·.key)).length = (ksS m).length:=by rw [g1]; simp
  have h2:(ksS m).length ≤ m.length:=List.length_filterMap_le _ _
  simp only [List.length_map,Array.length_toList] at this; omega
 have hkey:∀ x ∈ es.toList,∃ s ∈ ksS m,x.key = encStr s:=fun x hx=>by
  have:x.key ∈ es.toList.map (·.key):=List.mem_map.2 ⟨x,hx,rfl⟩
  rw [g1] at this
  obtain ⟨s,hs,e⟩:=List.mem_map.1 this
  exact ⟨s,hs,e.symm⟩
 have hrd:∀ x ∈ es.toList,∀ s,x.key = encStr s → s ∈ ksS m → Go.WideElems.rd P k noR x = some (.string s,.nil):=fun x _ s e hs=>by
  have:=hl s hs
  simp [Go.WideElems.rd,e,keyOf,hP,mapKey,encStr,noR,ByteArray.size,this]
 refine ⟨_,⟨es,m.length,hh,⟨?_,⟨?_,g3,?_⟩,?_⟩,hlen,rfl⟩,?_,?_⟩
 ·exact Nat.le_trans (Nat.le_trans hlen hn) (by decide)
 ·intro x hx; have:=(g2 x hx).2; omega
 ·rw [g1]
  exact (List.pairwise_map.2 ((QCu h1).imp fun hne e=>hne (encStr_inj e)))
 ·intro x hx
  obtain ⟨s,hs,e⟩:=hkey x hx
  exact ⟨_,hrd x hx s e hs⟩
 ·show (((es.toList.map (Go.WideElems.rg P k noR)).foldr DataW.insert []).map fun p=>strOf p.1).Perm _
  refine ((Go.WideShapes.sorted_perm _).map _).trans (List.Perm.of_eq ?_)
  have hmap:∀ x ∈ es.toList,((fun p:Lit × DataW Unit=>encStr (strOf p.1)) ∘ Go.WideElems.rg P k noR) x = x.key:=fun x hx=>by
   obtain ⟨s,hs,e⟩:=hkey x hx
   simp [Go.WideElems.rg,hrd x hx s e hs,strOf,e]
  have he:(((es.toList.map (Go.WideElems.rg P k noR)).map fun p=>strOf p.1).map encStr) = (ksS m).map encStr:=by
   rw [List.map_map,List.map_map,← g1]
   exact List.map_congr_left hmap
  exact (List.map_inj_right fun a b=>encStr_inj).1 he
 ·show ((es.toList.map (Go.WideElems.rg P k noR)).foldr DataW.insert []).length ≤ _
  rw [length_sorted]; simp; omega
theorem QQJ {c:Cx} {w':World} {v:Value} {e n:Nat} {ss:List (List UInt8)} (h:w'.ownsRow c.w.heap.size e 1 v n (ss.map encStr)) (hn:ss.length = n):
  ∀ c':Cx,c'.w = w' → c'.μ[c.H.length]? = some v → QJq c' c.H.length (.reg e 1 (ss.map fun k=>[.str k])):=by
 intro c' hw hm
 subst hw
 refine ⟨v,hm,?_⟩
 rcases h.2 with ⟨rfl,h0⟩ | ⟨g,cap,cur,rfl,_,hg,h1,h2,h3,h4⟩
 ·refine .inl ⟨rfl,?_⟩
  have:ss = []:=List.eq_nil_of_length_eq_zero (by omega)
  subst this; rfl
 ·refine .inr ⟨g,cap,cur,by simp [hn],hg,by simp [hn,h1],h2,by omega,?_⟩
  have key:∀ (l:List (List UInt8)) (off:Nat),(∀ j s,l[j]? = some s → cur[off + j]? = some (encStr s)) → QAt c' (l.map fun k=>[AV.str k]) g off 1:=by
   intro l
   induction l with
   | nil=>intro off _; simp [QAt]
   | cons s r ih=>
    intro off hc
    simp only [List.map_cons,QAt]
    refine ⟨rfl,?_,ih (off + 1) fun j x hj=>?_⟩
    ·simp only [QA6,and_true]
     refine ⟨encStr s,?_,by simp [Value.oneCell'],by simp [Val,encStr]⟩
     have:=hc 0 s rfl
     simp only [Nat.add_zero] at this
     simp [World.cell?,hg,this]
    ·have:=hc (j + 1) x (by simpa using hj)
     rw [← this]; congr 1; omega
  refine key ss 0 fun j s hj=>?_
  have hj2:(cur.toList.take (n * 1))[j]? = some (encStr s):=by rw [h4,List.getElem?_map,hj]; rfl
  have hjl:j < n * 1:=by have:=(List.getElem?_eq_some_iff.1 hj).1; omega
  rw [List.getElem?_take_of_lt hjl] at hj2
  simpa using hj2
variable [Glob]
theorem QQK {c:Cx} (hr:Rel c) {x':AObj} {v':Value} {w':World} (hk:Below c.w.heap.size c.w w') (hb:∀ b,blk v' = some b → c.w.heap.size ≤ b)
  (hok:∀ c':Cx,c'.w = w' → c'.μ[c.H.length]? = some v' → QJq c' c.H.length x'):
  Rel ⟨c.F,c.μ ++ [v'],c.H ++ [x'],w'⟩ ∧ Ext c ⟨c.F,c.μ ++ [v'],c.H ++ [x'],w'⟩:=by
 obtain ⟨r1,e1⟩:=QDO hr
 have hs1:(c.H ++ [AObj.unborn]).set c.H.length x' = c.H ++ [x']:=by simp
 have hs2:(c.μ ++ [Value.pointer none]).set c.H.length v' = c.μ ++ [v']:=by rw [← hr.len]; simp
 have hU:=QCT (c:={ c with μ:=c.μ ++ [.pointer none],H:=c.H ++ [.unborn] }) r1 (o:=c.H.length) (x:=.unborn) (x':=x') (v':=v') (F':=c.F) (w':=w') (by simp) (by simp [OStep]) (fun _ h=>h) (fun _ h=>.inl h)
  (fun b h _=>hk.block b h) hk.size hk.os hk.tape hk.output (fun b _ h=>.inl (hb b h)) (fun _=>hok _ rfl (by rw [hs2,← hr.len]; simp))
 rw [hs1,hs2] at hU
 exact ⟨hU.1,e1.trans hU.2⟩
end Go.Ab
namespace Go.Ab
open Go Go.Proofs Go.RowKit Go.Maps Go.Sort Go.Shelf
variable {β:Type}
theorem QRW (f:β → AV) (m:QB1 β):ACallsR Tryz.prog 52 [.map 0] [.map (smK f m)] (fun v G=>v = .fn (.func 88) [] [.ptr 1 0] ∧ G = [.map (smK f m),.box 80 [.map 0]]):=by
 refine QFq _ c52_ok ?_
 unfold c52
 simp +decide -dsimp -implicitDefEqProofs [go_sem]
 refine QCJ _ _ (.refl _ _) ?_
 simp +decide -dsimp -implicitDefEqProofs [go_sem,QB7]
theorem QMV (f:β → AV) (m:QB1 β) (h1:QAx m) (hl:∀ x ∈ ksS m,x.length ≤ maxLen) (hn:m.length ≤ 1000000):
  ACallsR Tryz.prog 51 [.fn (.func 88) [] [.ptr 1 0]] [.map (smK f m),.box 80 [.map 0]] (fun v G=>v = .own 2 (QFy (ksS m)).length ∧ G = [.map (smK f m),.box 80 [.map 0],.reg 9 1 ((QFy (ksS m)).map fun k=>[.str k])]):=by
 refine ⟨by kernel_rfl,fun c vs hH hr hv=>?_⟩
 obtain ⟨v0,_,rfl,hv0,rfl⟩:=hv
 obtain ⟨vf,vc,rfl,hvf,hvc⟩:=hv0
 have hvf':vf = #[]:=by simpa [QAo] using hvf
 subst hvf'
 simp only [QAo] at hvc
 obtain ⟨vp,_,hvc,hp,rfl⟩:=hvc
 obtain ⟨e,cs,b,h1b,hmu1,rfl⟩:=hp
 have hvc':vc = #[.pointer (some ⟨b,0,none⟩)]:=by rw [← Array.toList_inj,hvc]
 subst hvc'
 have hH0:c.H[0]? = some (.map (smK f m)):=by rw [hH]; rfl
 have hH1:c.H[1]? = some (.box 80 [.map 0]):=by rw [hH]; rfl
 obtain ⟨b',arr,hm1,hb,has,hcells⟩:=hr.obj 1 _ hH1
 rw [hmu1] at hm1
 simp only [Option.some.injEq,Value.pointer.injEq,Addr.mk.injEq,and_true] at hm1
 subst hm1
 obtain ⟨⟨vm,hcell,_,hvm⟩,_⟩:=hcells
 obtain ⟨kvs,r,_,hmu0,rfl⟩:=hvm
 obtain ⟨r',es,hm0,hheap,hkvs⟩:=hr.obj 0 _ hH0
 rw [hmu0] at hm0
 simp only [Option.some.injEq,Value.map.injEq] at hm0
 subst hm0
 rw [QIe] at hheap
 obtain ⟨D0,hown,hperm,hsz⟩:=QLe (P:=Tryz.prog) (k:=9) Tryz.underlying9 h1 hl hn hheap hkvs
 have hblt:b < c.w.heap.size:=(Array.getElem?_eq_some_iff.1 hb).1
 have hseq:SeqGives Fence.wide 2 Tryz.prog 88 #[.pointer (some ⟨b,0,none⟩)] encStr (fun ss=>ss.Perm (strKeys D0)) (Maps.size D0) c.w:=
  AnyZ.keys_gives (ρ:=Tryz.keys52_ren) { Tryz.keys52 with } Fence.wide _ trivial rfl (by omega) b r m.length D0 _ hblt hcell hown
 have hk:=callsIn_wide.1 (AnyZ.sorted_in Tryz.sorted51 Fence.wide 5 trivial trivial trivial trivial rfl (by omega) (Tryz.sorts51 _) (enters_of Tryz.func87 (by kernel_rfl) rfl) 88 #[.pointer (some ⟨b,0,none⟩)] trivial (enters_of Tryz.func88 (by kernel_rfl) rfl) _ _ (Nat.le_trans hsz (by decide)) (by omega) _ hseq)
 refine hk.mono fun e w' hq=>?_
 obtain ⟨v,ss,rfl,hS,hrow,_,hbel⟩:=hq
 have hsrt:ss.mergeSort (fun x y=>decide (x ≤ y)) = QFy (ksS m):=QOx (hS.trans hperm)
 rw [hsrt] at hrow
 have hlen:(QFy (ksS m)).length = ss.length:=by rw [← hsrt]; exact List.length_mergeSort ..
 obtain ⟨r1,e1⟩:=QQK hr hbel (v':=v) (x':=.reg 9 1 ((QFy (ksS m)).map fun k=>[.str k])) (fun q hq=>by
  rcases hrow.2 with ⟨rfl,_⟩ | ⟨g,cap,cur,rfl,hg,_⟩
  ·cases hq
  ·cases hq; exact hg) (fun c' hw hm=>QQJ hrow hlen c' hw hm)
 refine ⟨v,_,.own 2 (QFy (ksS m)).length,rfl,rfl,⟨rfl,by rw [hH]; rfl⟩,r1,e1,?_⟩
 have hl2:c.H.length = 2:=by rw [hH]; rfl
 have hm2:c.μ.length = 2:=by rw [hr.len,hl2]
 simp only [Val]
 refine ⟨?_,.inl ⟨9,1,(QFy (ksS m)).map fun k=>[.str k],?_,Nat.le_of_eq (by rw [List.length_map]),fun _=>?_⟩⟩
 ·rcases hrow.2 with ⟨rfl,_⟩ | ⟨g,cap,cur,rfl,_⟩
  ·exact ⟨_,_,_,rfl⟩
  ·exact ⟨_,_,_,rfl⟩
 ·show (c.H ++ _)[2]? = _
  rw [← hl2]; simp
 ·show (c.μ ++ _)[2]? = _
  rw [← hm2]; simp
end Go.Ab
namespace Go.Ab
open Go Go.Proofs
def QAn (m:QAs):List (List UInt8 × List UInt8):=(QFy (ksS m)).map fun k=>(k,(QAv k m).getD [])
def QBM (p:List UInt8 × List UInt8):List AV:=[.str p.1,.str p.2]
theorem QAY (k:Nat) (l:List (List UInt8 × List UInt8)):QAV k (l.map QBM) = true:=QAa fun _ _=>rfl
theorem QHv {m m':QAs} (h:QAx m) (h':QAx m') (he:∀ k,QAv k m = QAv k m'):QAn m = QAn m':=by
 unfold QAn; rw [QQI h h' he]; simp only [he]
set_option maxHeartbeats 2000000 in
theorem QOy (dur seen:QAs) (pend:List Wr) (h1:QAx seen) (hl:∀ x ∈ ksS seen,x.length ≤ 1000000) (hn:seen.length ≤ 100000):
  ACalls Tryz.prog 24 [.ptr 0 0] (dbO dur seen pend) (.imm ((QAn seen).map QBM)) (dbO dur seen pend):=by
 have hcl:=QBI
 have hwr:=QAr
 have hsc:∀ (m:QAs) (k:Nat) (a b:AV),(a,b) ∈ smK .str m → QAM k a = true ∧ QAM k b = true:=fun m k=>QBU (k:=k) fun _=>rfl
 have hkl:(QFy (ksS seen)).length ≤ seen.length:=by rw [QC2]; exact List.length_filterMap_le _ _
 have hs:=QMV AV.str seen h1 (fun x hx=>Nat.le_trans (hl x hx) (by decide)) (by omega)
 unfold QAn
 generalize QFy (ksS seen) = ks at hs hkl
 refine QAF c24_ok rfl ?_
 unfold c24 dbO dbB mO
 simp +decide -dsimp -implicitDefEqProofs [go_sem]
 refine QBG [2] 1 (QRW AV.str seen) rfl (fun v G h=>by rw [h.2]; rfl) (by simp +decide) (by simp +decide -dsimp -implicitDefEqProofs [go_sem]) (by simp +decide -dsimp -implicitDefEqProofs [go_sem,QAp]) ?_
 rintro _ _ ⟨rfl,rfl⟩
 simp +decide -dsimp -implicitDefEqProofs [go_sem,QAp]
 refine QBG [2,4] 1 hs rfl (fun v G h=>by rw [h.2]; rfl) (by simp +decide) (by simp +decide -dsimp -implicitDefEqProofs [go_sem]) (by simp +decide -dsimp -implicitDefEqProofs [go_sem,QAp]) ?_
 rintro _ _ ⟨rfl,rfl⟩
 have hkr:∀ (is:List Nat) (l:List (List UInt8)),QA4 is (l.map fun k=>[AV.str k]) = l.map fun k=>[AV.str k]:=fun is l=>QBg is l
 simp +decide -dsimp -implicitDefEqProofs [go_sem,QAp,hkr]
 refine QAR (S:=Nat) (fun i=>⟨tmps 30 [(0,.ptr 0 0),(3,.own 6 i),(11,.own 5 ks.length),(12,.int .i64 ks.length),(13,.int .i64 i)],[dbB 1 2 3 pend.length,mO dur,mO seen,.reg 88 1 (pend.map QCG),.box 80 [.map 2],.reg 9 1 (ks.map fun k=>[.str k]),.reg 53 2 ((ks.take i).map fun k=>[.str k,.str ((QAv k seen).getD [])])]⟩) (fun i=>ks.length - i) (fun i=>i ≤ ks.length) 0 (by simp) ((Wk.nilT 3 53 2 rfl (by simp)).trans (QAD (by simp) ?_)) ?_
 ·simp +decide -dsimp -implicitDefEqProofs [go_sem,dbB,QAl,hcl]
  exact ⟨hsc _ _,hsc _ _⟩
 intro i hi
 by_cases h:i < ks.length
 ·have w:IntKind.i64.wrap ((i:Int) + 1) = i + 1:=w64 (by omega) (by omega)
  have hk:=QCY AV.str ks[i] seen
  have hf:=QCl AV.str ks[i] seen
  have hg:((QAv ks[i] seen).map AV.str).getD (.str []) = .str ((QAv ks[i] seen).getD []):=by cases QAv ks[i] seen <;> rfl
  have hmi:min i ks.length = i:=by omega
  have htk:(ks.take i).map (fun k=>[AV.str k,.str ((QAv k seen).getD [])]) ++ [[AV.str ks[i],.str ((QAv ks[i] seen).getD [])]] = (ks.take (i + 1)).map fun k=>[AV.str k,.str ((QAv k seen).getD [])]:=by
   rw [List.take_succ_eq_append_getElem h,List.map_append]; rfl
  simp +decide -dsimp -implicitDefEqProofs [go_sem,dbB,QAl,h,hk,hf,hg,maxLen,hmi,w,-List.map_take]
  refine ⟨⟨by omega,by omega⟩,?_⟩
  rw [htk]
  refine QAI (i + 1) (by show i + 1 ≤ ks.length; omega) (by show ks.length - (i + 1) < ks.length - i; omega) (QAD (by simp) ?_)
  simp +decide -dsimp -implicitDefEqProofs [go_sem,dbB,QAl,hcl,-List.map_take]
  exact ⟨hsc _ _,hsc _ _⟩
 ·have e:i = ks.length:=by omega
  subst e
  simp +decide -dsimp -implicitDefEqProofs [go_sem,dbB,QAl,hcl]
  exact ⟨⟨fun a _=>rfl,QAa fun _ _=>rfl⟩,hsc _ _,hsc _ _⟩
end Go.Ab
namespace Go.Ab
open Go Go.Proofs
def QOz (l:List (List UInt8 × List UInt8)):AV:=.imm (l.map QBM)
theorem QJX (l:List (List UInt8 × List UInt8)) (hn:l.length ≤ 100000):ACalls Tryz.prog 23 [QOz l,QOz l] [] (.bool true) []:=by
 refine QAF c23_ok rfl ?_
 unfold c23 QOz
 simp +decide -dsimp -implicitDefEqProofs [go_sem]
 refine QAR (S:=Nat) (fun i=>⟨tmps 26 [(0,.imm (l.map QBM)),(1,.imm (l.map QBM)),(5,.int .i64 i)],[]⟩) (fun i=>l.length - i) (fun i=>i ≤ l.length) 0 (by simp) (QAD (by simp) ?_) ?_
 ·simp +decide -dsimp -implicitDefEqProofs [go_sem]
  exact QAa fun _ _=>rfl
 intro i hi
 by_cases h:i < l.length
 ·have w:IntKind.i64.wrap ((i:Int) + 1) = i + 1:=w64 (by omega) (by omega)
  simp +decide -dsimp -implicitDefEqProofs [go_sem,h,w,QBM]
  refine QAI (i + 1) (by show i + 1 ≤ l.length; omega) (by show l.length - (i + 1) < l.length - i; omega) (QAD (by simp) ?_)
  simp +decide -dsimp -implicitDefEqProofs [go_sem]
  exact QAa fun _ _=>rfl
 ·have e:i = l.length:=by omega
  subst e
  simp +decide -dsimp -implicitDefEqProofs [go_sem]
end Go.Ab
namespace Go.Ab
open Go Go.Proofs
end Go.Ab
namespace Go.Ab
open Go Go.Proofs
variable {β:Type}
theorem QJY {k x:List UInt8} {v:β}:∀ {m:QB1 β},x ∈ ksS (QC4 k v m) → x = k ∨ x ∈ ksS m
 | [],h=>by simpa [QC4,ksS] using h
 | none :: r,h=>by
  have:=QJY (k:=k) (x:=x) (v:=v) (m:=r) (by simpa [QC4,ksS] using h)
  simpa [ksS] using this
 | some p :: r,h=>by
  simp only [QC4] at h
  by_cases e:p.1 = k
  ·rw [if_pos e] at h; exact .inr (by simpa [ksS] using h)
  ·rw [if_neg e] at h
   simp only [ksS,List.filterMap_cons,Option.map_some,List.mem_cons] at h ⊢
   rcases h with h | h
   ·exact .inr (.inl h)
   ·rcases QJY (k:=k) (x:=x) (v:=v) (m:=r) h with h | h
    ·exact .inl h
    ·exact .inr (.inr h)
theorem QJZ {k x:List UInt8}:∀ {m:QB1 β},x ∈ ksS (QDt k m) → x ∈ ksS m
 | [],h=>by simp [QDt,ksS] at h
 | none :: r,h=>by
  have:=QJZ (k:=k) (x:=x) (m:=r) (by simpa [QDt,ksS] using h)
  simpa [ksS] using this
 | some p :: r,h=>by
  simp only [QDt] at h
  by_cases e:p.1 = k
  ·rw [if_pos e] at h
   simp only [ksS,List.filterMap_cons,Option.map_none,Option.map_some,List.mem_cons] at h ⊢
   exact .inr h
  ·rw [if_neg e] at h
   simp only [ksS,List.filterMap_cons,Option.map_some,List.mem_cons] at h ⊢
   rcases h with h | h
   ·exact .inl h
   ·exact .inr (QJZ (k:=k) (x:=x) (m:=r) h)
theorem QHw (k:List UInt8) (v:β):∀ m:QB1 β,(QC4 k v m).length ≤ m.length + 1
 | []=>by simp [QC4]
 | none :: r=>by simp only [QC4,List.length_cons]; have:=QHw k v r; omega
 | some p :: r=>by
  simp only [QC4]
  split
  ·simp
  ·simp only [List.length_cons]; have:=QHw k v r; omega
theorem QJa (k:List UInt8):∀ m:QB1 β,(QDt k m).length = m.length
 | []=>rfl
 | none :: r=>by simp [QDt,QJa k r]
 | some p :: r=>by
  simp only [QDt]
  split
  ·simp
  ·simp [QJa k r]
theorem QKn:∀ m:QB1 β,QGM m ≤ m.length
 | []=>Nat.le_refl _
 | none :: r=>by have:=QKn r; simp only [QGM,List.length_cons]; omega
 | some p :: r=>by have:=QKn r; simp only [QGM,List.length_cons]; omega
structure Good (m:QB1 β) (n:Nat):Prop where
 o:QAx m
 k:∀ x ∈ ksS m,x.length ≤ 1000000
 n:m.length ≤ n
theorem Good.nil:Good ([]:QB1 β) 0:=⟨trivial,by simp [ksS],Nat.le_refl _⟩
theorem Good.set {m:QB1 β} {n:Nat} {k:List UInt8} (h:Good m n) (hk:k.length ≤ 1000000) (v:β):Good (QC4 k v m) (n + 1):=
 ⟨QD8 k v h.o,fun x hx=>(QJY hx).elim (fun e=>e ▸ hk) (h.k x),Nat.le_trans (QHw k v m) (Nat.succ_le_succ h.n)⟩
theorem Good.del {m:QB1 β} {n:Nat} (h:Good m n) (k:List UInt8):Good (QDt k m) n:=
 ⟨QD9 k h.o,fun x hx=>h.k x (QJZ hx),by rw [QJa]; exact h.n⟩
theorem Good.ents {dur seen:QAs} {pend:List Wr} {n:Nat} (h:Good seen n) (hn:n ≤ 100000):
  ACalls Tryz.prog 24 [.ptr 0 0] (dbO dur seen pend) (QOz (QAn seen)) (dbO dur seen pend):=
 QOy dur seen pend h.o h.k (Nat.le_trans h.n hn)
theorem Good.entsLen {m:QAs} {n:Nat} (h:Good m n):(QAn m).length ≤ n:=by
 unfold QAn; rw [List.length_map,QC2]; exact Nat.le_trans (List.length_filterMap_le _ _) h.n
end Go.Ab
