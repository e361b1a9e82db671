/- The bus: telling the subscribers, one after the other. -/
import Derived.Test.YtneghlianebffaaGreatDoorOX
import Derived.Test.YtneghlianebffaaGreatDoorB1
import Derived.Test.YtneghlianebffaaGreatDoorW2
import Derived.Test.YtneghlianebffaaGreatDoorG2
import Derived.Test.YtneghlianebffaaGreatDoorA6
import Derived.Test.YtneghlianebffaaGreatDoorC1
namespace Go.Ab
open Go Go.Proofs
set_option maxRecDepth 20000
theorem QNR:∀ (n:Nat) (l:List Nat),l.Nodup → (∀ x ∈ l,x < n) → l.length ≤ n
 | 0,l,_,h=>by
  cases l with
  | nil=>simp
  | cons x r=>have:=h x (by simp); omega
 | n + 1,l,hn,h=>by
  have h1:=QNR n (l.erase n) (hn.erase n) fun x hx=>by
   have h2:=(hn.mem_erase_iff).1 hx
   have:=h x h2.2
   omega
  have h3:l.length ≤ (l.erase n).length + 1:=by rw [List.length_erase]; split <;> omega
  omega
theorem QEu {n:Nat} {vis:List Nat} {j:Nat} (h1:vis.Nodup) (h2:∀ x ∈ vis,x < n) (hj:j < n) (hn:j ∉ vis):(vis ++ [j]).length ≤ n:=by
 refine QNR n _ ?_ fun x hx=>?_
 ·rw [List.nodup_append]
  refine ⟨h1,by simp,fun a ha b hb=>?_⟩
  simp at hb; subst hb
  exact fun e=>hn (e ▸ ha)
 ·rcases List.mem_append.1 hx with hx | hx
  ·exact h2 x hx
  ·simp at hx; omega
def QEA (q:Int) (r:Rcd) (s:Sb):Sb:=if QA4 s.f r then s.send ⟨q,1,r⟩ else if (QAo r.path s.seen).getD false then s.send ⟨q,2,r⟩ else s
theorem QLU {q:Int} {r:Rcd} {s:Sb} (h:s.behind = true):QEA q r s = s:=by
 unfold QEA Sb.send
 simp [h]
theorem QTL (n:Ntc) (s:Sb):(s.send n).f = s.f:=by unfold Sb.send; split <;> rfl
theorem QUk (q:Int) (r:Rcd) (s:Sb):(QEA q r s).f = s.f:=by
 unfold QEA
 split
 ·exact QTL _ _
 ·split
  ·exact QTL _ _
  ·rfl
def QFf (q:Int) (r:Rcd) (p:List UInt8) (s:Sb):Sb:=if (QAo p s.seen).getD false then s.send ⟨q,2,r⟩ else s
def QCP (m:QAy SbL):QAy Sb:=m.map (Option.map fun p=>(p.1,p.2.s))
theorem QF1 {f:Nat} {ys xs:List AV} {av:AV} {H:List AObj} {is:List Nat} {H':List AObj} {K:SK} {u:QCh K} (h:OverAt f ys av H is H') (hx:xs = QBt is ys)
  (hK:∀ pre wr,pre.map (·.1) = is → wr.map (·.1) = is → QGC H wr = H' → K pre wr (ren is av)):QJP Tryz.prog f xs H K u:=by
 obtain ⟨He,Ge,h1,h2,h3,h4,h5,h6⟩:=h
 refine QAu is h1 h2 h3 h4 hx h5 (hK _ _ ?_ ?_ ?_)
 ·rw [List.map_fst_zip (by simp [h2])]
 ·rw [List.map_fst_zip (by simp [h3])]
 ·rw [h6,QFU _ _ _ (by simp [h3])]
theorem OverAt.len {f:Nat} {ys:List AV} {av:AV} {H:List AObj} {is:List Nat} {H':List AObj} (h:OverAt f ys av H is H'):H'.length = H.length:=by
 obtain ⟨He,Ge,h1,h2,h3,h4,h5,h6⟩:=h
 rw [h6,QFU _ _ _ (by simp [h3]),QIM]
theorem OverAt.old {f:Nat} {ys:List AV} {av:AV} {H:List AObj} {is:List Nat} {H':List AObj} (h:OverAt f ys av H is H') (i:Nat) (hi:i ∉ is):H'[i]? = H[i]?:=by
 obtain ⟨He,Ge,h1,h2,h3,h4,h5,h6⟩:=h
 rw [h6,QB8 _ _ _ _ hi]
theorem QUl {H:List AObj} {ob ro so:Nat} {B:Bus} (h:QB0 H ob ro so B) {i:Nat} (y:AObj) (hf:¬ B.foot i) (n1:i ≠ ob) (n2:i ≠ ro) (n3:i ≠ so):QB0 (H.set i y) ob ro so B:=by
 have old:∀ j,j ≠ i → (H.set i y)[j]? = H[j]?:=fun j hj=>List.getElem?_set_ne (Ne.symm hj)
 refine ⟨(old _ (Ne.symm n1)).trans h.box,(old _ (Ne.symm n2)).trans h.rdy,(old _ (Ne.symm n3)).trans h.sbs,h.rso,fun j p hj=>(h.sub j p hj).keep (fun _ h=>h) fun k hk=>old k fun e=>hf (e ▸ ⟨j,p,hj,hk⟩),fun k hk=>?_,h.dis⟩
 rw [List.length_set]; exact h.out k hk
theorem QP2 {H:List AObj} {ob ro so:Nat} {B:Bus} (h:QB0 H ob ro so B) (m:QAy Rcd) (q:Int):QB0 ((H.set ro (.map (rdM m))).set ob (.box 82 [.map ro,.map so,.int .i64 q])) ob ro so ⟨m,B.subs,q⟩ ∧ BusF H ((H.set ro (.map (rdM m))).set ob (.box 82 [.map ro,.map so,.int .i64 q])) ob ro so B ⟨m,B.subs,q⟩:=by
 have n1:ob ≠ ro:=QDJ h.box h.rdy (by simp)
 have n2:ob ≠ so:=QDJ h.box h.sbs (by simp)
 have old:∀ j,j ≠ ob → j ≠ ro → ((H.set ro (.map (rdM m))).set ob (.box 82 [.map ro,.map so,.int .i64 q]))[j]? = H[j]?:=fun j h1 h2=>by
  rw [List.getElem?_set_ne (Ne.symm h1),List.getElem?_set_ne (Ne.symm h2)]
 have ft:∀ i,(⟨m,B.subs,q⟩:Bus).foot i ↔ B.foot i:=fun i=>Iff.rfl
 refine ⟨⟨QBX (QBF h.box (.inl n1)),QBF (QBX h.rdy) (.inl (Ne.symm n1)),(old _ (Ne.symm n2) (Ne.symm h.rso)).trans h.sbs,h.rso,fun j p hj=>(h.sub j p hj).keep (fun _ h=>h) fun k hk=>old k ?_ ?_,fun k hk=>?_,h.dis⟩,⟨by simp,fun i hi a1 a2 a3 a4=>⟨old i a1 a2,a4⟩⟩⟩
 ·exact (h.out k ⟨j,p,hj,hk⟩).2.1
 ·exact (h.out k ⟨j,p,hj,hk⟩).2.2.1
 ·simp only [List.length_set]; exact h.out k hk
theorem QKK {m:QAy SbL} {j:Nat} {p:List UInt8 × SbL} (h:m[j]? = some (some p)):(QCP m)[j]? = some (some (p.1,p.2.s)):=by simp [QCP,h]
theorem QRn (m:QAy SbL) (j:Nat) (k:List UInt8) (x:SbL) (i:Nat) (hj:j < m.length):(QCP (m.set j (some (k,x))))[i]? = if i = j then some (some (k,x.s)) else (QCP m)[i]?:=by
 unfold QCP
 rw [List.getElem?_map,List.getElem?_map,List.getElem?_set]
 by_cases e:j = i
 ·subst e; simp [hj]
 ·rw [if_neg e,if_neg (Ne.symm e)]
structure TellI (H:List AObj) (ob ro so n iI:Nat) (cell:AObj) (B B1:Bus) (g:Sb → Sb) (G:List AObj) (B':Bus) (vis:List Nat):Prop where
 at_:QB0 G ob ro so B'
 fr:BusF H G ob ro so B B'
 nn:G[n]? = some cell
 nf:¬ B'.foot n
 il:H.length ≤ iI
 it:G[iI]? = some (.iter so B'.subs.length vis)
 tf:¬ B'.foot iI
 rd:B'.ready = B1.ready
 la:B'.last = B1.last
 len:B'.subs.length = B1.subs.length
 sb:∀ j,(QCP B'.subs)[j]? = if j ∈ vis then ((QCP B1.subs)[j]?).map (Option.map fun p=>(p.1,g p.2)) else (QCP B1.subs)[j]?
 nd:vis.Nodup
 lt:∀ j ∈ vis,j < B1.subs.length
theorem TellI.fin {H:List AObj} {ob ro so n iI:Nat} {cell:AObj} {B B1:Bus} {g:Sb → Sb} {G:List AObj} {B':Bus} {vis:List Nat} (h:TellI H ob ro so n iI cell B B1 g G B' vis)
  (hA:∀ (j:Nat) (p:List UInt8 × SbL),B'.subs[j]? = some (some p) → j ∈ vis):QCP B'.subs = (QCP B1.subs).map (Option.map fun p=>(p.1,g p.2)):=by
 apply List.ext_getElem?
 intro j
 rw [List.getElem?_map]
 by_cases hj:j ∈ vis
 ·rw [h.sb j,if_pos hj]
 ·rw [h.sb j,if_neg hj]
  cases hb:B'.subs[j]? with
  | none=>
   have h1:=h.sb j
   rw [if_neg hj] at h1
   have h2:(QCP B'.subs)[j]? = none:=by simp [QCP,hb]
   rw [← h1,h2]; rfl
  | some o=>
   cases o with
   | some p=>exact (hj (hA j p hb)).elim
   | none=>
    have h1:=h.sb j
    rw [if_neg hj] at h1
    have h2:(QCP B'.subs)[j]? = some none:=by simp [QCP,hb]
    rw [← h1,h2]; rfl
structure QX2 (ob ro so n iI u:Nat) (cell:AObj) (G2:List AObj) (B':Bus) (vis:List Nat):Prop where
 at_:QB0 G2 ob ro so B'
 nn:G2[n]? = some cell
 it:G2[iI]? = some (.iter so B'.subs.length vis)
 ub:G2[u]? = some .unborn
 uf:¬ B'.foot u
theorem TellI.start {H:List AObj} {ob ro so n iI:Nat} {cell:AObj} {B B1:Bus} {g:Sb → Sb} {G:List AObj} {B':Bus} {vis:List Nat} (h:TellI H ob ro so n iI cell B B1 g G B' vis) (hc:∀ m s l,cell ≠ .iter m s l) (j:Nat):
  QX2 ob ro so n iI G.length cell ((G ++ [AObj.unborn]).set iI (.iter so B'.subs.length (vis ++ [j]))) B' (vis ++ [j]):=by
 have b:=(QB6 h.at_ [.unborn]).1
 have l3:=(List.getElem?_eq_some_iff.1 h.it).1
 have i1:(G ++ [AObj.unborn])[iI]? = some (.iter so B'.subs.length vis):=by rw [List.getElem?_append_left l3]; exact h.it
 have n1:=QDJ i1 b.box (by simp)
 have n2:=QDJ i1 b.rdy (by simp)
 have n3:=QDJ i1 b.sbs (by simp)
 refine ⟨QUl b _ h.tf n1 n2 n3,?_,QBX i1,?_,fun e=>?_⟩
 ·have i2:(G ++ [AObj.unborn])[n]? = some cell:=by rw [List.getElem?_append_left (List.getElem?_eq_some_iff.1 h.nn).1]; exact h.nn
  exact QBF i2 (.inl (QDJ i2 i1 (hc _ _ _)))
 ·have i2:(G ++ [AObj.unborn])[G.length]? = some .unborn:=by simp
  exact QBF i2 (.inl (QDJ i2 i1 (by simp)))
 ·exact absurd (h.at_.out _ e).1 (by omega)
def Bus.okF (B:Bus):Prop:=∀ (j:Nat) (p:List UInt8 × SbL),B.subs[j]? = some (some p) → p.2.s.f.sub.length ≤ 1000 ∧ p.2.s.f.tag.length ≤ 1000
theorem TellI.flt {H:List AObj} {ob ro so n iI:Nat} {cell:AObj} {B B1:Bus} {g:Sb → Sb} {G:List AObj} {B':Bus} {vis:List Nat} (h:TellI H ob ro so n iI cell B B1 g G B' vis) (hg:∀ s,(g s).f = s.f) (hf:B1.okF) {j:Nat} {p:List UInt8 × SbL} (hp:B'.subs[j]? = some (some p)):p.2.s.f.sub.length ≤ 1000 ∧ p.2.s.f.tag.length ≤ 1000:=by
 have h1:=h.sb j
 rw [QKK hp] at h1
 have key:∀ s:Sb,(∃ q:List UInt8 × SbL,B1.subs[j]? = some (some q) ∧ q.2.s.f = s.f) → s.f.sub.length ≤ 1000 ∧ s.f.tag.length ≤ 1000:=fun s ⟨q,h2,h3⟩=>by rw [← h3]; exact hf j q h2
 refine key _ ?_
 have h3:∀ q:List UInt8 × Sb,(QCP B1.subs)[j]? = some (some q) → ∃ q':List UInt8 × SbL,B1.subs[j]? = some (some q') ∧ q'.2.s = q.2:=fun q hq=>by
  unfold QCP at hq
  rw [List.getElem?_map,Option.map_eq_some_iff] at hq
  obtain ⟨o,h4,h5⟩:=hq
  cases o with
  | none=>cases h5
  | some q'=>simp only [Option.map_some,Option.some.injEq] at h5; exact ⟨q',h4,by rw [← h5]⟩
 split at h1
 ·cases hd:(QCP B1.subs)[j]? with
  | none=>rw [hd] at h1; cases h1
  | some o=>
   rw [hd] at h1
   cases o with
   | none=>cases h1
   | some q=>
    obtain ⟨q',h4,h5⟩:=h3 q hd
    simp only [Option.map_some,Option.some.injEq,Prod.mk.injEq] at h1
    exact ⟨q',h4,by rw [h1.2,hg,h5]⟩
 ·obtain ⟨q',h4,h5⟩:=h3 _ h1.symm
  exact ⟨q',h4,by rw [h5]⟩
theorem TellI.sb_step {H:List AObj} {ob ro so n iI:Nat} {cell:AObj} {B B1:Bus} {g:Sb → Sb} {G:List AObj} {B':Bus} {vis:List Nat} (h:TellI H ob ro so n iI cell B B1 g G B' vis) {j:Nat} (hj:j ∉ vis) {p:List UInt8 × SbL} (hp:B'.subs[j]? = some (some p)) {D:QAy Sb} (hD:∀ i,D[i]? = if i = j then some (some (p.1,g p.2.s)) else (QCP B'.subs)[i]?):
  (∀ i,D[i]? = if i ∈ vis ++ [j] then ((QCP B1.subs)[i]?).map (Option.map fun p=>(p.1,g p.2)) else (QCP B1.subs)[i]?) ∧ (vis ++ [j]).Nodup ∧ ∀ i ∈ vis ++ [j],i < B1.subs.length:=by
 have hl:j < B'.subs.length:=(List.getElem?_eq_some_iff.1 hp).1
 refine ⟨fun i=>?_,?_,fun i hi=>?_⟩
 ·rw [hD i,h.sb i]
  by_cases e:i = j
  ·subst e
   rw [if_pos rfl,if_pos (by simp)]
   have h1:=h.sb i
   rw [if_neg hj,QKK hp] at h1
   rw [← h1]; rfl
  ·rw [if_neg e]
   by_cases e2:i ∈ vis
   ·rw [if_pos e2,if_pos (by simp [e2])]
   ·rw [if_neg e2,if_neg (by simp [e2,e])]
 ·rw [List.nodup_append]
  refine ⟨h.nd,by simp,fun a ha b hb=>?_⟩
  simp at hb; subst hb
  exact fun e=>hj (e ▸ ha)
 ·rcases List.mem_append.1 hi with hi | hi
  ·exact h.lt i hi
  ·simp at hi; subst hi; rw [← h.len]; exact hl
theorem TellI.skip {H:List AObj} {ob ro so n iI:Nat} {cell:AObj} {B B1:Bus} {g:Sb → Sb} {G:List AObj} {B':Bus} {vis:List Nat} (h:TellI H ob ro so n iI cell B B1 g G B' vis) (hc:∀ m s l,cell ≠ .iter m s l) {j:Nat} (hj:j ∉ vis) {p:List UInt8 × SbL} (hp:B'.subs[j]? = some (some p)) (hg:g p.2.s = p.2.s):
  TellI H ob ro so n iI cell B B1 g ((G ++ [AObj.unborn]).set iI (.iter so B'.subs.length (vis ++ [j]))) B' (vis ++ [j]):=by
 have r:=h.start hc j
 obtain ⟨s1,s2,s3⟩:=h.sb_step hj hp (D:=QCP B'.subs) fun i=>by
  split
  ·rename_i e; subst e; rw [QKK hp,hg]
  ·rfl
 refine ⟨r.at_,⟨by rw [List.length_set,List.length_append]; exact Nat.le_trans h.fr.len (by simp),fun i h1 h2 h3 h4 h5=>?_⟩,r.nn,h.nf,h.il,r.it,h.tf,h.rd,h.la,h.len,s1,s2,s3⟩
 obtain ⟨k1,k2⟩:=h.fr.keep i h1 h2 h3 h4 h5
 have:=h.il
 exact ⟨by rw [List.getElem?_set_ne (by omega),List.getElem?_append_left (Nat.lt_of_lt_of_le h1 h.fr.len)]; exact k1,k2⟩
theorem TellI.sent {H:List AObj} {ob ro so n iI:Nat} {cell:AObj} {B B1:Bus} {g:Sb → Sb} {G:List AObj} {B':Bus} {vis:List Nat} (h:TellI H ob ro so n iI cell B B1 g G B' vis) (hc:∀ m s l,cell ≠ .iter m s l) (hu:cell ≠ .unborn) {j:Nat} (hj:j ∉ vis) {p:List UInt8 × SbL} (hp:B'.subs[j]? = some (some p))
  {f:Nat} {ys:List AV} {av:AV} {is:List Nat} {G3:List AObj} (ho:OverAt f ys av ((G ++ [AObj.unborn]).set iI (.iter so B'.subs.length (vis ++ [j]))) is G3) (his:∀ i ∈ is,i ∈ p.2.fp ∨ i = G.length) (hs:SubAt G3 p.2.o (G.length :: p.2.fp) (g p.2.s)):
  TellI H ob ro so n iI cell B B1 g G3 (B'.put j p.1 ⟨p.2.o,G.length :: p.2.fp,g p.2.s⟩) (vis ++ [j]):=by
 have r:=h.start hc j
 have hl:j < B'.subs.length:=(List.getElem?_eq_some_iff.1 hp).1
 obtain ⟨s1,s2,s3⟩:=h.sb_step hj hp (D:=QCP (B'.put j p.1 ⟨p.2.o,G.length :: p.2.fp,g p.2.s⟩).subs) fun i=>QRn _ _ _ _ _ hl
 have iu:iI ≠ G.length:=QDJ r.it r.ub (by simp)
 have nu:n ≠ G.length:=QDJ r.nn r.ub hu
 obtain ⟨u1,u2⟩:=QVm r.at_ (x:=p.2) (k:=p.1) hp r.ub r.uf ho.len (fun i h1 h2=>ho.old i fun e=>(his i e).elim h1 h2) hs
 have e0:(B'.put j p.1 ⟨p.2.o,G.length :: p.2.fp,g p.2.s⟩).subs.length = B'.subs.length:=by simp [Bus.put]
 refine ⟨u1,⟨?_,fun i h1 h2 h3 h4 h5=>?_⟩,(u2 n nu h.nf).1.trans r.nn,(u2 n nu h.nf).2,h.il,?_,(u2 iI iu h.tf).2,h.rd,h.la,e0.trans h.len,s1,s2,s3⟩
 ·rw [ho.len,List.length_set,List.length_append]; exact Nat.le_trans h.fr.len (by simp)
 ·obtain ⟨k1,k2⟩:=h.fr.keep i h1 h2 h3 h4 h5
  have:=h.il
  have hlt:=Nat.lt_of_lt_of_le h1 h.fr.len
  obtain ⟨v1,v2⟩:=u2 i (by omega) k2
  exact ⟨by rw [v1,List.getElem?_set_ne (by omega),List.getElem?_append_left hlt]; exact k1,v2⟩
 ·rw [(u2 iI iu h.tf).1,e0]; exact r.it
end Go.Ab
namespace Go.Ab
open Go Go.Proofs
set_option maxRecDepth 20000
theorem QAc (r:Rcd):QAR r = [.str r.path,.int .i64 r.index,.imm (r.props.map QBK),.imm (r.tags.map QAT),.imm (r.links.map QAT),.imm (r.run.map QAT),.imm (r.load.map QAT),.str r.name,.int .i64 r.prio,.str r.owner,.str r.group,.int .i64 r.mode]:=rfl
def QX3 (H:List AObj) (B:Bus) (r:Rcd) (G:List AObj):Prop:=(2 ≤ (QAZ r.path).length → (QAo (QCR r.path) B.ready).isSome = true) ∧ ∃ l,G = H ++ .box 36 (QAR r) :: l
def QRo (ob:Nat) (n:Nat) (G:List AObj):St:=⟨tmps 108 [(0,.ptr ob 0),(3,.ptr n 0),(4,.int .i64 0)],G⟩
def QNS (B:Bus) (r:Rcd):Int:=if QAk r then (if 2 ≤ (QAZ r.path).length ∧ (QAo (QCR r.path) B.ready).isSome = false then 305 else (match QAo r.path B.ready with | some r0=>(if r0.index = r.index then 0 else 306) | none=>0)) else 304
def QX4 (H:List AObj) (B:Bus) (r:Rcd) (G:List AObj):Prop:=QNS B r = 0 ∧ ∃ l,G = H ++ .box 36 (QAR r) :: l
def QZT (H:List AObj) (ob ro so:Nat) (B:Bus) (r:Rcd) (v:AV) (G:List AObj):Prop:=v = .int .i64 (QNS B r) ∧
 (if QNS B r = 0 then ∃ S',QB0 G ob ro so ⟨QBT r.path r B.ready,S',B.last + 1⟩ ∧ BusF H G ob ro so B ⟨QBT r.path r B.ready,S',B.last + 1⟩ ∧ QCP S' = (QCP B.subs).map (Option.map fun p=>(p.1,QEA (B.last + 1) r p.2)) else QB0 G ob ro so B ∧ BusF H G ob ro so B B)
def QX5 (H:List AObj) (ob ro so:Nat) (B:Bus) (r:Rcd) (G:List AObj):Prop:=∃ S',QB0 G ob ro so ⟨QBT r.path r B.ready,S',B.last + 1⟩ ∧ BusF H G ob ro so B ⟨QBT r.path r B.ready,S',B.last + 1⟩ ∧ QCP S' = (QCP B.subs).map (Option.map fun p=>(p.1,QEA (B.last + 1) r p.2))
def QX6 (G:List AObj):St:=⟨tmps 108 [],G⟩
def QX7 (ob n iI:Nat) (s:List AObj × Bus × List Nat):St:=⟨tmps 108 [(0,.ptr ob 0),(3,.ptr n 0),(72,.it iI)],s.1⟩
def QaF (H:List AObj) (ob ro so iI:Nat) (B:Bus) (r:Rcd) (s:List AObj × Bus × List Nat):Prop:=TellI H ob ro so H.length iI (.box 36 (QAR r)) B ⟨QBT r.path r B.ready,B.subs,B.last + 1⟩ (QEA (B.last + 1) r) s.1 s.2.1 s.2.2
theorem QaG (_o ob n:Nat) (is:List Nat):QBB [0,0,2,6,14,0,62,127] [([],[]),([],[]),([],[]),([],[]),([ob],[]),([n],[]),([],[]),(is,is)] = true:=by
 simp +decide [QBB,QCz]
theorem QUm {H:List AObj} {ob ro so:Nat} {B:Bus} (h:QB0 H ob ro so B) (hfl:B.okF) (hq:0 ≤ B.last ∧ B.last ≤ 1000000000) (r:Rcd) (hf:Few r):
  ACallsR Tryz.prog 16 [.ptr ob 0,.agg (QAR r)] H (QZT H ob ro so B r):=by
 have cc:=QVl r hf
 have hcl:=fun k=>QBr k r
 have b1:=h.box
 have b2:=h.rdy
 have b3:=h.sbs
 have ap:∀ {i:Nat} {x:AObj} (l:List AObj),H[i]? = some x → (H ++ l)[i]? = some x:=fun l hx=>by
  rw [List.getElem?_append_left (List.getElem?_eq_some_iff.1 hx).1]; exact hx
 have a1:=fun l=>ap l b1
 have a2:=fun l=>ap l b2
 have a3:=fun l=>ap l b3
 have bad:∀ (n:Int) (l:List AObj),QNS B r = n → n ≠ 0 → QZT H ob ro so B r (.int .i64 n) (H ++ l):=fun n l e hn=>by
  unfold QZT; rw [e,if_neg hn]; exact ⟨rfl,QB6 h l⟩
 refine QCn _ cqq ?_
 unfold QAR at cc hcl ⊢
 refine gS ?_
 refine gS ?_
 refine QAA cc (by rw [QAB,QAE,hcl 0]; rfl) rfl ?_
 cases hs:QAk r with
 | false=>
  refine gs ?_
  refine QAj _ _ (Wk.refl _ _) ?_
  simp +decide -dsimp -implicitDefEqProofs [go_sem,QBG]
  exact bad 304 _ (by simp [QNS,hs]) (by decide)
 | true=>
  refine gs ?_
  have hp:QAf r.path = true:=by
   unfold QAk at hs
   simp only [Bool.and_eq_true] at hs
   exact hs.1.1.1.1.1.1.1.1.1.1.1
  have hsm:=QEr hs
  have hc:Cpy r:=by
   have:=hsm.props; have:=hsm.tags; have:=hsm.links; have:=hsm.runs; have:=hsm.loads
   exact ⟨by omega,by omega,by omega,by omega,by omega⟩
  have ha:Ask r:=by
   have:=hsm.props; have:=hsm.tags
   exact ⟨by omega,fun p hp=>by have:=(hsm.attr p hp).2; omega,by omega,fun x hx=>by have:=hsm.tag x hx; omega⟩
  have c47:=QT2 r.path hp
  have hk:=fun p=>QBy (fun r:Rcd=>AV.agg (QAR r)) p B.ready
  have hf2:=fun p=>QCd (fun r:Rcd=>AV.agg (QAR r)) p B.ready
  unfold goE
  refine QA6 (QRo ob H.length) (QX3 H B r) ?_ ?_
  ·refine QAD ?_
   refine gs ?_
   refine QAA c47 rfl rfl ?_
   by_cases h2:2 ≤ (QAZ r.path).length
   ·have h2':¬ (QAZ r.path).length < 2:=by omega
    cases hg:QAo (QCR r.path) B.ready with
    | none=>
     have hf3:=hf2 (QCR r.path)
     rw [hg] at hf3
     simp +decide -dsimp -implicitDefEqProofs [go_sem,h2,h2',a1,a2,hk,hf3]
     refine QAj _ _ (Wk.refl _ _) ?_
     simp +decide -dsimp -implicitDefEqProofs [go_sem,QBG]
     exact bad 305 _ (by simp [QNS,hs,h2,hg]) (by decide)
    | some r0=>
     have hf3:=hf2 (QCR r.path)
     rw [hg] at hf3
     have e0:=QAc r0
     simp +decide -dsimp -implicitDefEqProofs [go_sem,h2,h2',a1,a2,hk,hf3,e0]
     refine QAs (S:=List AObj) (H ++ [.box 36 (QAR r),.box 36 (QAR r0)]) ⟨fun _=>by rw [hg]; rfl,_,rfl⟩ (Wk.jk ?_)
     simp +decide -dsimp -implicitDefEqProofs [go_sem,jkT]
   ·simp +decide -dsimp -implicitDefEqProofs [go_sem,h2]
    refine QAs (S:=List AObj) (H ++ [.box 36 (QAR r)]) ⟨fun h=>(h2 h).elim,_,rfl⟩ (Wk.jk ?_)
    simp +decide -dsimp -implicitDefEqProofs [go_sem,jkT]
  ·intro G ⟨hab,l,hl⟩
   have gp:∀ {i:Nat} {x:AObj} (l':List AObj),H[i]? = some x → (G ++ l')[i]? = some x:=fun l' hx=>by
    rw [hl,List.append_assoc,List.getElem?_append_left (List.getElem?_eq_some_iff.1 hx).1]; exact hx
   have g1:=fun l'=>gp l' b1
   have g2:=fun l'=>gp l' b2
   have g3:=fun l'=>gp l' b3
   have g4:∀ l',(G ++ l')[H.length]? = some (.box 36 (QAR r)):=fun l'=>by rw [hl]; simp
   have g4':G[H.length]? = some (.box 36 (QAR r)):=by rw [hl]; simp
   rw [QAc r] at g4 g4'
   have hE:QNS B r = (match QAo r.path B.ready with | some r0=>(if r0.index = r.index then 0 else 306) | none=>0):=by
    unfold QNS
    rw [hs,if_pos rfl,if_neg (by rintro ⟨h1,h2⟩; rw [hab h1] at h2; cases h2)]
   have lg:H.length < G.length:=(List.getElem?_eq_some_iff.1 g4').1
   have l1:=(List.getElem?_eq_some_iff.1 b1).1
   have l2:=(List.getElem?_eq_some_iff.1 b2).1
   have n1:H.length ≠ G.length:=by omega
   have n2:ob ≠ G.length:=by omega
   have n3:ro ≠ G.length:=by omega
   have ord:QBB [0,1,3,7,0,16,63,127,255,255,0,1535,4095] [([],[]),([],[]),([],[]),([ob],[]),([],[]),([H.length],[]),([ro],[]),([],[]),([],[]),([],[]),([G.length],[G.length]),([G.length],[G.length]),([],[])] = true:=by
    simp +decide [QBB,QCz,n1,n2,n3,Ne.symm n1,Ne.symm n2,Ne.symm n3]
   unfold QRo
   refine QA6 (QRo ob H.length) (QX4 H B r) ?_ ?_
   ·refine QAD ?_
    have hf3:=hf2 r.path
    cases hg:QAo r.path B.ready with
    | none=>
     rw [hg] at hf3 hE
     simp +decide -dsimp -implicitDefEqProofs [go_sem,g1,g2,g4,hk,hf3]
     refine ⟨ord,?_⟩
     refine QAs (S:=List AObj) (G ++ [AObj.box 36 [AV.str [],AV.int IntKind.i64 0,AV.nils,AV.nils,AV.nils,AV.nils,AV.nils,AV.str [],AV.int IntKind.i64 0,AV.str [],AV.str [],AV.int IntKind.i64 0]]) ⟨hE,_,by rw [hl,List.append_assoc]; rfl⟩ (Wk.jk ?_)
     simp +decide -dsimp -implicitDefEqProofs [go_sem,jkT]
    | some r0=>
     rw [hg] at hf3 hE
     have e0:=QAc r0
     simp +decide -dsimp -implicitDefEqProofs [go_sem,g1,g2,g4,hk,hf3,e0]
     refine ⟨ord,?_⟩
     by_cases hi:r0.index = r.index
     ·rw [if_pos hi]
      refine QAs (S:=List AObj) (G ++ [AObj.box 36 (QAR r0)]) ⟨by rw [hE]; exact if_pos hi,_,by rw [hl,List.append_assoc]; rfl⟩ (Wk.jk ?_)
      simp +decide -dsimp -implicitDefEqProofs [go_sem,jkT]
     ·rw [if_neg hi]
      refine QAj _ _ (Wk.refl _ _) ?_
      simp +decide -dsimp -implicitDefEqProofs [go_sem,QBG]
      rw [hl,List.append_assoc]
      exact bad 306 _ (by rw [hE]; exact if_neg hi) (by decide)
   ·intro G ⟨hE0,l,hl⟩
    have gp:∀ {i:Nat} {x:AObj} (l':List AObj),H[i]? = some x → (G ++ l')[i]? = some x:=fun l' hx=>by
     rw [hl,List.append_assoc,List.getElem?_append_left (List.getElem?_eq_some_iff.1 hx).1]; exact hx
    have gq:∀ {i:Nat} {x:AObj},H[i]? = some x → G[i]? = some x:=fun hx=>by have:=gp [] hx; rwa [List.append_nil] at this
    have q1:=gq b1
    have q2:=gq b2
    have q3:=gq b3
    have g4':G[H.length]? = some (.box 36 (QAR r)):=by rw [hl]; simp
    have co:=QEd r hc
    rw [QAc r] at g4' co
    unfold QRo
    refine QBU ?_
    simp +decide -dsimp -implicitDefEqProofs [go_sem,g4']
    refine QAA co (by rw [QAB,QAE,hcl 0]; rfl) (by rw [QAE,hcl 0]) ?_
    simp +decide -dsimp -implicitDefEqProofs [go_sem,g4']
    rw [if_pos (List.getElem?_eq_some_iff.1 g4').1,QCe g4']
    have hset:QCt (.str r.path) (.agg [.str r.path,.int .i64 r.index,.imm (r.props.map QBK),.imm (r.tags.map QAT),.imm (r.links.map QAT),.imm (r.run.map QAT),.imm (r.load.map QAT),.str r.name,.int .i64 r.prio,.str r.owner,.str r.group,.int .i64 r.mode]) (smK (fun r=>.agg (QAR r)) B.ready) = smK (fun r=>.agg (QAR r)) (QBT r.path r B.ready):=QDv (fun r=>.agg (QAR r)) r.path r B.ready
    have n1:ob ≠ ro:=QDJ b1 b2 (by simp)
    refine QBU ?_
    simp +decide -dsimp -implicitDefEqProofs [go_sem,q1,q2,g4',hk,hset]
    have n5:H.length ≠ ro:=by omega
    have ord2:QBB [0,1,3,7,0,16,0,127] [([],[]),([],[]),([],[]),([ob],[]),([],[]),([H.length],[]),([H.length],[]),([ro],[ro])] = true:=by
     simp +decide [QBB,QCz,n1,n5,Ne.symm n1,Ne.symm n5]
    refine ⟨ord2,?_⟩
    -- the bus with the new record
    have bG:QB0 G ob ro so B ∧ BusF H G ob ro so B B:=by rw [hl]; exact QB6 h _
    obtain ⟨bA,bF⟩:=QP2 bG.1 (QBT r.path r B.ready) (B.last + 1)
    have n6:H.length ≠ ob:=by omega
    have c4:((G.set ro (.map (rdM (QBT r.path r B.ready)))).set ob (.box 82 [.map ro,.map so,.int .i64 (B.last + 1)]))[H.length]? = some (.box 36 (QAR r)):=by
     rw [List.getElem?_set_ne (Ne.symm n6),List.getElem?_set_ne (Ne.symm n5)]; exact g4'
    have w1:IntKind.i64.wrap (B.last + 1) = B.last + 1:=w64 (by omega) (by omega)
    have m1:(G.set ro (.map (rdM (QBT r.path r B.ready))))[ob]? = some (.box 82 [.map ro,.map so,.int .i64 B.last]):=QBF q1 (.inl n1)
    have lo1:=(List.getElem?_eq_some_iff.1 m1).1
    have hfo:¬ B.foot H.length:=fun e=>absurd (h.out _ e).1 (by omega)
    generalize hG1:G.set ro (.map (rdM (QBT r.path r B.ready))) = G1 at *
    refine QBU ?_
    simp +decide -dsimp -implicitDefEqProofs [go_sem,m1,w1]
    rw [if_pos lo1]
    generalize hG2:G1.set ob (.box 82 [.map ro,.map so,.int .i64 (B.last + 1)]) = G2 at *
    have e1:=bA.box
    have e3:=bA.sbs
    unfold goE
    refine QA6 QX6 (QX5 H ob ro so B r) ?_ ?_
    ·refine QAD ?_
     simp +decide -dsimp -implicitDefEqProofs [go_sem,e1,e3]
     have hl2:H.length ≤ G2.length:=Nat.le_trans bG.2.len bF.len
     have hT0:QaF H ob ro so G2.length B r (G2 ++ [.iter so B.subs.length []],⟨QBT r.path r B.ready,B.subs,B.last + 1⟩,[]):=by
      obtain ⟨k1,k2⟩:=QB6 bA [.iter so B.subs.length []]
      refine ⟨k1,(bG.2.trans bF).trans k2,?_,hfo,hl2,by simp,fun e=>Nat.lt_irrefl _ (bA.out _ e).1,rfl,rfl,rfl,fun j=>by simp,by simp,by simp⟩
      rw [List.getElem?_append_left (List.getElem?_eq_some_iff.1 c4).1]; exact c4
     refine QBH (S:=List AObj × Bus × List Nat) (QX7 ob H.length G2.length) (fun s=>B.subs.length - s.2.2.length) (QaF H ob ro so G2.length B r) _ hT0 (Wk.jk ?_) ?_
     ·simp +decide -dsimp -implicitDefEqProofs [go_sem,jkT]
     rintro ⟨G3,B',vis⟩ hI
     unfold QaF at hI
     simp only at hI
     have hni:∀ m s l,AObj.box 36 (QAR r) ≠ .iter m s l:=fun _ _ _=>by simp
     have hnu:AObj.box 36 (QAR r) ≠ .unborn:=by simp
     unfold QX7
     refine QFj (Wk.pushN 1) ?_
     simp only [List.replicate]
     have i1:(G3 ++ [AObj.unborn])[G2.length]? = some (.iter so B'.subs.length vis):=by rw [List.getElem?_append_left (List.getElem?_eq_some_iff.1 hI.it).1]; exact hI.it
     have i2:(G3 ++ [AObj.unborn])[so]? = some (.map (sbM B'.subs)):=(QB6 hI.at_ [.unborn]).1.sbs
     refine QAD ?_
     refine gs ?_
     refine QGc (i:=G2.length) (m:=so) (kvs:=sbM B'.subs) i1 i2 (QDh _ _).symm (fun hA=>?_) (fun j kk x hj hg hnj=>?_)
     ·simp +decide -dsimp -implicitDefEqProofs [go_sem]
      have hfin:=hI.fin fun j p hj=>hA j _ (QIh hj).1 rfl
      have eB:B' = ⟨QBT r.path r B.ready,B'.subs,B.last + 1⟩:=by
       have e1:=hI.rd; have e2:=hI.la
       simp only at e1 e2
       rw [← e1,← e2]
      obtain ⟨k1,k2⟩:=QB6 hI.at_ [.unborn]
      have k3:=hI.fr.trans k2
      rw [eB] at k1 k3
      refine QAs (S:=List AObj) _ ⟨B'.subs,k1,k3,hfin⟩ (Wk.jk ?_)
      simp +decide -dsimp -implicitDefEqProofs [go_sem,jkT]
     ·obtain ⟨p,hjp,rfl,rfl⟩:=QLg hj hg
      have hR:=hI.start hni j
      have hlast:B'.last = B.last + 1:=hI.la
      have hfl':=hI.flt (QUk _ _) hfl hjp
      obtain ⟨sv,wv,s1,s2,s3,s4,s5,s6⟩:=hR.at_.sub j p hjp
      have r1:=hR.at_.box
      have r2:=hR.at_.sbs
      have r3:=hR.nn
      have r4:=hR.it
      have hj':(sbM B'.subs)[j]? = some (.str p.1,.ptr p.2.o 0):=hj
      have cw:=QNC p.2.s.f r (by omega) (by omega) ha
      unfold QA5 at s2
      rw [QAc r] at r3
      rw [hlast] at r1
      have hSub:=hR.at_.sub j p hjp
      have hsk:=hI.skip hni hnj hjp
      have hst:=fun {ys:List AV} {av:AV} {is:List Nat} {G4:List AObj}=>hI.sent hni hnu hnj hjp (f:=48) (ys:=ys) (av:=av) (is:=is) (G3:=G4)
      have hu:=hR.ub
      have huf:=hR.uf
      generalize hG4:(G3 ++ [AObj.unborn]).set G2.length (.iter so B'.subs.length (vis ++ [j])) = G4 at *
      unfold QBM at cw s2
      rw [QAc r] at cw
      simp +decide -dsimp -implicitDefEqProofs [go_sem,r2,r3,r4,s2,hj',QB7]
      refine QAK cw (by simp [QAB,QAE,QAW,QAF]) rfl ?_
      have o1:∀ o:Nat,QBB [0,1,3,7,0,31,63] [([],[]),([],[]),([],[]),([o],[]),([H.length],[]),([],[]),([],[])] = true:=fun o=>by simp +decide [QBB,QCz]
      have o2:∀ o:Nat,QBB [0,1,3,7,0,16,63,127] [([],[]),([],[]),([],[]),([o],[]),([],[]),([H.length],[]),([],[]),([],[])] = true:=fun o=>by simp +decide [QBB,QCz]
      have o3:∀ o q:Nat,QBB [0,1,3,7,0,16,63,127] [([],[]),([],[]),([],[]),([o],[]),([],[]),([H.length],[]),([q],[]),([],[])] = true:=fun o q=>by simp +decide [QBB,QCz]
      cases hw:QA4 p.2.s.f r with
      | true=>
       have e9:QEA (B.last + 1) r p.2.s = p.2.s.send ⟨B.last + 1,1,r⟩:=by simp [QEA,hw]
       simp +decide -dsimp -implicitDefEqProofs [go_sem,r1,r3,o1]
       obtain ⟨is,G5,ho,h0,his,hsu⟩:=QQm ⟨B.last + 1,1,r⟩ hSub hu (fun e=>huf ⟨j,p,hjp,e⟩)
       have hxs:[AV.ptr p.2.o 0,.agg [.int .i64 (B.last + 1),.int .i64 1,.str r.path,.int .i64 r.index,.imm (r.props.map QBK),.imm (r.tags.map QAT),.imm (r.links.map QAT),.imm (r.run.map QAT),.imm (r.load.map QAT),.str r.name,.int .i64 r.prio,.str r.owner,.str r.group,.int .i64 r.mode]] = QBt is [.ptr 0 0,.agg (QAU ⟨B.last + 1,1,r⟩)]:=by
        simp only [QBt,ren,h0,QD1]
        rfl
       refine QF1 ho hxs fun pre wr hp hwr hup=>?_
       simp +decide -dsimp -implicitDefEqProofs [go_sem,hp,hwr,hup]
       refine ⟨QaG 0 ob H.length is,?_⟩
       have hTell:=hst ho his (by rw [e9]; exact hsu)
       refine QAG (S:=List AObj × Bus × List Nat) (G5,B'.put j p.1 ⟨p.2.o,G3.length :: p.2.fp,QEA (B.last + 1) r p.2.s⟩,vis ++ [j]) hTell ?_ (Wk.jk ?_)
       ·have:=hTell.nd
        have h1:=QEu hI.nd hI.lt (j:=j) (by rw [← hI.len]; exact (List.getElem?_eq_some_iff.1 hjp).1) hnj
        rw [List.length_append] at h1
        simp only [List.length_cons,List.length_nil] at h1
        show B.subs.length - (vis ++ [j]).length < B.subs.length - vis.length
        rw [List.length_append,List.length_cons,List.length_nil]; omega
       ·simp +decide -dsimp -implicitDefEqProofs [go_sem,jkT]
      | false=>
       simp +decide -dsimp -implicitDefEqProofs [go_sem,r3,s2,o1]
       have hk:=fun m=>QBy AV.bool r.path m
       have hfm:=fun m=>QCd AV.bool r.path m
       rcases s3 with ⟨hb,rfl⟩ | ⟨q,hq,rfl,h7⟩
       ·have e9:QEA (B.last + 1) r p.2.s = p.2.s:=QLU hb
        refine gs ?_
        refine ⟨o2 _,?_⟩
        refine QAG (S:=List AObj × Bus × List Nat) (G4,B',vis ++ [j]) (hsk e9) ?_ (Wk.jk ?_)
        ·have h1:=QEu hI.nd hI.lt (j:=j) (by rw [← hI.len]; exact (List.getElem?_eq_some_iff.1 hjp).1) hnj
         rw [List.length_append] at h1
         simp only [List.length_cons,List.length_nil] at h1
         show B.subs.length - (vis ++ [j]).length < B.subs.length - vis.length
         rw [List.length_append,List.length_cons,List.length_nil]; omega
        ·simp +decide -dsimp -implicitDefEqProofs [go_sem,jkT]
       ·cases hgs:QAo r.path p.2.s.seen with
        | none=>
         have e9:QEA (B.last + 1) r p.2.s = p.2.s:=by simp [QEA,hw,hgs]
         have hfm':=hfm p.2.s.seen
         rw [hgs] at hfm'
         simp +decide -dsimp -implicitDefEqProofs [go_sem,r1,r3,h7,hk,hfm']
         refine ⟨o3 _ _,?_⟩
         refine QAG (S:=List AObj × Bus × List Nat) (G4,B',vis ++ [j]) (hsk e9) ?_ (Wk.jk ?_)
         ·have h1:=QEu hI.nd hI.lt (j:=j) (by rw [← hI.len]; exact (List.getElem?_eq_some_iff.1 hjp).1) hnj
          rw [List.length_append] at h1
          simp only [List.length_cons,List.length_nil] at h1
          show B.subs.length - (vis ++ [j]).length < B.subs.length - vis.length
          rw [List.length_append,List.length_cons,List.length_nil]; omega
         ·simp +decide -dsimp -implicitDefEqProofs [go_sem,jkT]
        | some b=>
         have hfm':=hfm p.2.s.seen
         rw [hgs] at hfm'
         cases b with
         | false=>
          have e9:QEA (B.last + 1) r p.2.s = p.2.s:=by simp [QEA,hw,hgs]
          simp +decide -dsimp -implicitDefEqProofs [go_sem,r1,r3,h7,hk,hfm']
          refine ⟨o3 _ _,?_⟩
          refine QAG (S:=List AObj × Bus × List Nat) (G4,B',vis ++ [j]) (hsk e9) ?_ (Wk.jk ?_)
          ·have h1:=QEu hI.nd hI.lt (j:=j) (by rw [← hI.len]; exact (List.getElem?_eq_some_iff.1 hjp).1) hnj
           rw [List.length_append] at h1
           simp only [List.length_cons,List.length_nil] at h1
           show B.subs.length - (vis ++ [j]).length < B.subs.length - vis.length
           rw [List.length_append,List.length_cons,List.length_nil]; omega
          ·simp +decide -dsimp -implicitDefEqProofs [go_sem,jkT]
         | true=>
          have e9:QEA (B.last + 1) r p.2.s = p.2.s.send ⟨B.last + 1,2,r⟩:=by simp [QEA,hw,hgs]
          simp +decide -dsimp -implicitDefEqProofs [go_sem,r1,r3,h7,hk,hfm']
          refine ⟨o3 _ _,?_⟩
          obtain ⟨is,G5,ho,h0,his,hsu⟩:=QQm ⟨B.last + 1,2,r⟩ hSub hu (fun e=>huf ⟨j,p,hjp,e⟩)
          have hxs:[AV.ptr p.2.o 0,.agg [.int .i64 (B.last + 1),.int .i64 2,.str r.path,.int .i64 r.index,.imm (r.props.map QBK),.imm (r.tags.map QAT),.imm (r.links.map QAT),.imm (r.run.map QAT),.imm (r.load.map QAT),.str r.name,.int .i64 r.prio,.str r.owner,.str r.group,.int .i64 r.mode]] = QBt is [.ptr 0 0,.agg (QAU ⟨B.last + 1,2,r⟩)]:=by
           simp only [QBt,ren,h0,QD1]
           rfl
          refine QF1 ho hxs fun pre wr hp hwr hup=>?_
          simp +decide -dsimp -implicitDefEqProofs [go_sem,hp,hwr,hup]
          refine ⟨QaG 0 ob H.length is,?_⟩
          have hTell:=hst ho his (by rw [e9]; exact hsu)
          refine QAG (S:=List AObj × Bus × List Nat) (G5,B'.put j p.1 ⟨p.2.o,G3.length :: p.2.fp,QEA (B.last + 1) r p.2.s⟩,vis ++ [j]) hTell ?_ (Wk.jk ?_)
          ·have:=hTell.nd
           have h1:=QEu hI.nd hI.lt (j:=j) (by rw [← hI.len]; exact (List.getElem?_eq_some_iff.1 hjp).1) hnj
           rw [List.length_append] at h1
           simp only [List.length_cons,List.length_nil] at h1
           show B.subs.length - (vis ++ [j]).length < B.subs.length - vis.length
           rw [List.length_append,List.length_cons,List.length_nil]; omega
          ·simp +decide -dsimp -implicitDefEqProofs [go_sem,jkT]
    ·intro G3 ⟨S',k1,k2,k3⟩
     refine QAD ?_
     unfold QX6
     refine gs ?_
     refine QAj _ _ (Wk.refl _ _) ?_
     simp +decide -dsimp -implicitDefEqProofs [go_sem,QBG]
     unfold QZT
     rw [hE0,if_pos rfl]
     exact ⟨rfl,S',k1,k2,k3⟩
end Go.Ab
namespace Go.Ab
open Go Go.Proofs
set_option maxRecDepth 20000
theorem QLV {q:Int} {r:Rcd} {p:List UInt8} {s:Sb} (h:s.behind = true):QFf q r p s = s:=by
 unfold QFf Sb.send
 simp [h]
def QHY (m:QAy Rcd) (p:List UInt8):Bool:=m.any fun o=>match o with
 | some x=>QEv p x.1
 | none=>false
def QIa (B:Bus) (p:List UInt8):Int:=if (QAo p B.ready).isSome then (if QHY B.ready p then 308 else 0) else 307
def goneR (H:List AObj) (ob ro so:Nat) (B:Bus) (p:List UInt8) (v:AV) (G:List AObj):Prop:=v = .int .i64 (QIa B p) ∧
 (if QIa B p = 0 then ∃ r S',QAo p B.ready = some r ∧ QB0 G ob ro so ⟨QDC p B.ready,S',B.last + 1⟩ ∧ BusF H G ob ro so B ⟨QDC p B.ready,S',B.last + 1⟩ ∧ QCP S' = (QCP B.subs).map (Option.map fun x=>(x.1,QFf (B.last + 1) r p x.2)) else QB0 G ob ro so B ∧ BusF H G ob ro so B B)
def QUn (H:List AObj) (B:Bus) (p:List UInt8) (r:Rcd) (G:List AObj):Prop:=QHY B.ready p = false ∧ ∃ l,G = H ++ .box 36 (QAR r) :: l
def QTM (ob n:Nat) (p:List UInt8) (G:List AObj):St:=⟨tmps 68 [(0,.ptr ob 0),(1,.str p),(5,.ptr n 0)],G⟩
def QUo (H:List AObj) (ob ro so:Nat) (B:Bus) (p:List UInt8) (r:Rcd) (G:List AObj):Prop:=∃ S',QB0 G ob ro so ⟨QDC p B.ready,S',B.last + 1⟩ ∧ BusF H G ob ro so B ⟨QDC p B.ready,S',B.last + 1⟩ ∧ QCP S' = (QCP B.subs).map (Option.map fun x=>(x.1,QFf (B.last + 1) r p x.2))
def QTN (G:List AObj):St:=⟨tmps 68 [],G⟩
def QTO (ob:Nat) (p:List UInt8) (n iI:Nat) (s:List AObj × Bus × List Nat):St:=⟨tmps 68 [(0,.ptr ob 0),(1,.str p),(5,.ptr n 0),(49,.it iI)],s.1⟩
def QUp (H:List AObj) (ob ro so iI:Nat) (B:Bus) (p:List UInt8) (r:Rcd) (s:List AObj × Bus × List Nat):Prop:=TellI H ob ro so H.length iI (.box 36 (QAR r)) B ⟨QDC p B.ready,B.subs,B.last + 1⟩ (QFf (B.last + 1) r p) s.1 s.2.1 s.2.2
def QTP (H:List AObj) (ob ro:Nat) (p:List UInt8) (r:Rcd) (n:Nat) (vis:List Nat):St:=⟨tmps 68 [(0,.ptr ob 0),(1,.str p),(5,.ptr H.length 0),(25,.it (H.length + 1))],H ++ [.box 36 (QAR r),.iter ro n vis]⟩
def QaH (m:QAy Rcd) (p:List UInt8) (vis:List Nat):Prop:=vis.Nodup ∧ (∀ j ∈ vis,j < m.length) ∧ ∀ j ∈ vis,∀ x,m[j]? = some (some x) → QEv p x.1 = false
theorem QX8 {H:List AObj} {ob ro so:Nat} {B:Bus} (h:QB0 H ob ro so B) (hq:0 ≤ B.last ∧ B.last ≤ 1000000000) (p0:List UInt8) (hpl:∀ (j:Nat) (x:List UInt8 × Rcd),B.ready[j]? = some (some x) → QAf x.1 = true):
  ACallsR Tryz.prog 27 [.ptr ob 0,.str p0] H (goneR H ob ro so B p0):=by
 have b1:=h.box
 have b2:=h.rdy
 have b3:=h.sbs
 have ap:∀ {i:Nat} {x:AObj} (l:List AObj),H[i]? = some x → (H ++ l)[i]? = some x:=fun l hx=>by
  rw [List.getElem?_append_left (List.getElem?_eq_some_iff.1 hx).1]; exact hx
 have a1:=fun l=>ap l b1
 have a2:=fun l=>ap l b2
 have a3:=fun l=>ap l b3
 have hk:=QBy (fun r:Rcd=>AV.agg (QAR r)) p0 B.ready
 have hf:=QCd (fun r:Rcd=>AV.agg (QAR r)) p0 B.ready
 have bad:∀ (n:Int) (l:List AObj),QIa B p0 = n → n ≠ 0 → goneR H ob ro so B p0 (.int .i64 n) (H ++ l):=fun n l e hn=>by
  unfold goneR; rw [e,if_neg hn]; exact ⟨rfl,QB6 h l⟩
 refine QCn _ cqq ?_
 refine gS ?_
 unfold goE
 cases hg:QAo p0 B.ready with
 | none=>
  rw [hg] at hf
  refine QAD ?_
  simp +decide -dsimp -implicitDefEqProofs [go_sem,b1,b2,hk,hf]
  refine QAj _ _ (Wk.refl _ _) ?_
  simp +decide -dsimp -implicitDefEqProofs [go_sem,QBG]
  exact bad 307 _ (by simp [QIa,hg]) (by decide)
 | some r=>
  rw [hg] at hf
  have hs:QAf p0 = true:=by
   obtain ⟨j,hj⟩:=QHf hg
   exact hpl j _ hj
  have e0:=QAc r
  refine QBU ?_
  simp +decide -dsimp -implicitDefEqProofs [go_sem,b1,b2,hk,hf,e0]
  refine gS ?_
  unfold goE
  refine QA6 (QTM ob H.length p0) (QUn H B p0 r) ?_ ?_
  ·refine QAD ?_
   have c0:∀ l,(H ++ .box 36 (QAR r) :: l)[H.length + 1]? = l[0]?:=fun l=>by
    rw [List.getElem?_append_right (by omega)]; simp
   rw [QAc r] at c0
   simp +decide -dsimp -implicitDefEqProofs [go_sem,a1,a2]
   refine QBH (S:=List Nat) (QTP H ob ro p0 r B.ready.length) (fun s=>B.ready.length - s.length) (QaH B.ready p0) [] ⟨by simp,by simp,by simp⟩ (Wk.jk ?_) ?_
   ·simp +decide -dsimp -implicitDefEqProofs [go_sem,jkT]
   intro vis ⟨v1,v2,v3⟩
   unfold QTP
   have i1:(H ++ [AObj.box 36 (QAR r),.iter ro B.ready.length vis])[H.length + 1]? = some (.iter ro B.ready.length vis):=by
    rw [List.getElem?_append_right (by omega)]; simp
   refine QAD ?_
   refine gs ?_
   refine QGc (i:=H.length + 1) (m:=ro) (kvs:=rdM B.ready) i1 (a2 _) (QDh _ _).symm (fun hA=>?_) (fun j kk x hj hgg hnj=>?_)
   ·simp +decide -dsimp -implicitDefEqProofs [go_sem]
    refine QAs (S:=List AObj) _ ⟨?_,_,rfl⟩ (Wk.jk ?_)
    ·unfold QHY
     rw [List.any_eq_false]
     intro o ho
     obtain ⟨j,hj⟩:=List.mem_iff_getElem?.1 ho
     cases o with
     | none=>simp
     | some x=>
      have:=v3 j (hA j _ (QIh hj).1 rfl) x hj
      simp [this]
    ·simp +decide -dsimp -implicitDefEqProofs [go_sem,jkT]
   ·obtain ⟨x,hjx,rfl,rfl⟩:=QLg hj hgg
    have hj':(rdM B.ready)[j]? = some (.str x.1,.agg (QAR x.2)):=hj
    have e1:=QAc x.2
    rw [e1] at hj'
    have hset:(H ++ [AObj.box 36 (QAR r),.iter ro B.ready.length vis]).set (H.length + 1) (.iter ro B.ready.length (vis ++ [j])) = H ++ [.box 36 (QAR r),.iter ro B.ready.length (vis ++ [j])]:=by
     rw [List.set_append,if_neg (by omega)]
     simp
    have i2:(H ++ [AObj.box 36 (QAR r),.iter ro B.ready.length (vis ++ [j])])[H.length + 1]? = some (.iter ro B.ready.length (vis ++ [j])):=by
     rw [List.getElem?_append_right (by omega)]; simp
    have ca:=QOM p0 x.1 hs (hpl j x hjx)
    rw [hset]
    simp +decide -dsimp -implicitDefEqProofs [go_sem,a2,hj',QB7]
    refine QAA ca rfl rfl ?_
    cases han:QEv p0 x.1 with
    | true=>
     refine gs ?_
     refine QAj _ _ (Wk.refl _ _) ?_
     simp +decide -dsimp -implicitDefEqProofs [go_sem,QBG]
     refine bad 308 _ ?_ (by decide)
     have:QHY B.ready p0 = true:=List.any_eq_true.2 ⟨_,List.mem_of_getElem? hjx,by simpa using han⟩
     simp [QIa,hg,this]
    | false=>
     refine gs ?_
     refine QAG (S:=List Nat) (vis ++ [j]) ⟨?_,?_,?_⟩ ?_ (Wk.jk ?_)
     ·rw [List.nodup_append]
      refine ⟨v1,by simp,fun a ha b hb=>?_⟩
      simp at hb; subst hb
      exact fun e=>hnj (e ▸ ha)
     ·intro i hi
      rcases List.mem_append.1 hi with hi | hi
      ·exact v2 i hi
      ·simp at hi; subst hi; exact (List.getElem?_eq_some_iff.1 hjx).1
     ·intro i hi y hy
      rcases List.mem_append.1 hi with hi | hi
      ·exact v3 i hi y hy
      ·simp at hi; subst hi; rw [hjx] at hy; cases hy; exact han
     ·have h1:=QEu v1 v2 (j:=j) (List.getElem?_eq_some_iff.1 hjx).1 hnj
      rw [List.length_append] at h1
      simp only [List.length_cons,List.length_nil] at h1
      show B.ready.length - (vis ++ [j]).length < B.ready.length - vis.length
      rw [List.length_append,List.length_cons,List.length_nil]; omega
     ·simp +decide -dsimp -implicitDefEqProofs [go_sem,jkT]
  ·intro G ⟨hbl,l,hl⟩
   have hE0:QIa B p0 = 0:=by simp [QIa,hg,hbl]
   have gq:∀ {i:Nat} {x:AObj},H[i]? = some x → G[i]? = some x:=fun hx=>by rw [hl]; exact ap _ hx
   have q1:=gq b1
   have q2:=gq b2
   have q3:=gq b3
   have g4':G[H.length]? = some (.box 36 (QAR r)):=by rw [hl]; simp
   have l1:=(List.getElem?_eq_some_iff.1 b1).1
   have l2:=(List.getElem?_eq_some_iff.1 b2).1
   have n1:ob ≠ ro:=QDJ b1 b2 (by simp)
   have n5:H.length ≠ ro:=by omega
   have n6:H.length ≠ ob:=by omega
   have hdel:QDx (.str p0) (smK (fun r:Rcd=>AV.agg (QAR r)) B.ready) = smK (fun r:Rcd=>AV.agg (QAR r)) (QDC p0 B.ready):=QKa _ _ _
   unfold QTM
   refine QBU ?_
   simp +decide -dsimp -implicitDefEqProofs [go_sem,q1,q2,hk,hdel]
   rw [if_pos (List.getElem?_eq_some_iff.1 q2).1]
   have bG:QB0 G ob ro so B ∧ BusF H G ob ro so B B:=by rw [hl]; exact QB6 h _
   obtain ⟨bA,bF⟩:=QP2 bG.1 (QDC p0 B.ready) (B.last + 1)
   have c4:((G.set ro (.map (rdM (QDC p0 B.ready)))).set ob (.box 82 [.map ro,.map so,.int .i64 (B.last + 1)]))[H.length]? = some (.box 36 (QAR r)):=by
    rw [List.getElem?_set_ne (Ne.symm n6),List.getElem?_set_ne (Ne.symm n5)]; exact g4'
   have w1:IntKind.i64.wrap (B.last + 1) = B.last + 1:=w64 (by omega) (by omega)
   have m1:(G.set ro (.map (rdM (QDC p0 B.ready))))[ob]? = some (.box 82 [.map ro,.map so,.int .i64 B.last]):=QBF q1 (.inl n1)
   have lo1:=(List.getElem?_eq_some_iff.1 m1).1
   have hfo:¬ B.foot H.length:=fun e=>absurd (h.out _ e).1 (by omega)
   generalize hG1:G.set ro (.map (rdM (QDC p0 B.ready))) = G1 at *
   refine QBU ?_
   simp +decide -dsimp -implicitDefEqProofs [go_sem,m1,w1]
   rw [if_pos lo1]
   generalize hG2:G1.set ob (.box 82 [.map ro,.map so,.int .i64 (B.last + 1)]) = G2 at *
   have e1:=bA.box
   have e3:=bA.sbs
   unfold goE
   refine QA6 QTN (QUo H ob ro so B p0 r) ?_ ?_
   ·refine QAD ?_
    simp +decide -dsimp -implicitDefEqProofs [go_sem,e1,e3]
    have hl2:H.length ≤ G2.length:=Nat.le_trans bG.2.len bF.len
    have hT0:QUp H ob ro so G2.length B p0 r (G2 ++ [.iter so B.subs.length []],⟨QDC p0 B.ready,B.subs,B.last + 1⟩,[]):=by
     obtain ⟨k1,k2⟩:=QB6 bA [.iter so B.subs.length []]
     refine ⟨k1,(bG.2.trans bF).trans k2,?_,hfo,hl2,by simp,fun e=>Nat.lt_irrefl _ (bA.out _ e).1,rfl,rfl,rfl,fun j=>by simp,by simp,by simp⟩
     rw [List.getElem?_append_left (List.getElem?_eq_some_iff.1 c4).1]; exact c4
    refine QBH (S:=List AObj × Bus × List Nat) (QTO ob p0 H.length G2.length) (fun s=>B.subs.length - s.2.2.length) (QUp H ob ro so G2.length B p0 r) _ hT0 (Wk.jk ?_) ?_
    ·simp +decide -dsimp -implicitDefEqProofs [go_sem,jkT]
    rintro ⟨G3,B',vis⟩ hI
    unfold QUp at hI
    simp only at hI
    have hni:∀ m s l,AObj.box 36 (QAR r) ≠ .iter m s l:=fun _ _ _=>by simp
    have hnu:AObj.box 36 (QAR r) ≠ .unborn:=by simp
    unfold QTO
    refine QFj (Wk.pushN 1) ?_
    simp only [List.replicate]
    have i1:(G3 ++ [AObj.unborn])[G2.length]? = some (.iter so B'.subs.length vis):=by rw [List.getElem?_append_left (List.getElem?_eq_some_iff.1 hI.it).1]; exact hI.it
    have i2:(G3 ++ [AObj.unborn])[so]? = some (.map (sbM B'.subs)):=(QB6 hI.at_ [.unborn]).1.sbs
    refine QAD ?_
    refine gs ?_
    refine QGc (i:=G2.length) (m:=so) (kvs:=sbM B'.subs) i1 i2 (QDh _ _).symm (fun hA=>?_) (fun j kk x hj hg hnj=>?_)
    ·simp +decide -dsimp -implicitDefEqProofs [go_sem]
     have hfin:=hI.fin fun j p hj=>hA j _ (QIh hj).1 rfl
     have eB:B' = ⟨QDC p0 B.ready,B'.subs,B.last + 1⟩:=by
      have e1:=hI.rd; have e2:=hI.la
      simp only at e1 e2
      rw [← e1,← e2]
     obtain ⟨k1,k2⟩:=QB6 hI.at_ [.unborn]
     have k3:=hI.fr.trans k2
     rw [eB] at k1 k3
     refine QAs (S:=List AObj) _ ⟨B'.subs,k1,k3,hfin⟩ (Wk.jk ?_)
     simp +decide -dsimp -implicitDefEqProofs [go_sem,jkT]
    ·obtain ⟨p,hjp,rfl,rfl⟩:=QLg hj hg
     have hR:=hI.start hni j
     have hlast:B'.last = B.last + 1:=hI.la
     obtain ⟨sv,wv,s1,s2,s3,s4,s5,s6⟩:=hR.at_.sub j p hjp
     have r1:=hR.at_.box
     have r2:=hR.at_.sbs
     have r3:=hR.nn
     have r4:=hR.it
     have hj':(sbM B'.subs)[j]? = some (.str p.1,.ptr p.2.o 0):=hj
     rw [QAc r] at r3
     rw [hlast] at r1
     have hSub:=hR.at_.sub j p hjp
     have hsk:=hI.skip hni hnj hjp
     have hst:=fun {ys:List AV} {av:AV} {is:List Nat} {G4:List AObj}=>hI.sent hni hnu hnj hjp (f:=48) (ys:=ys) (av:=av) (is:=is) (G3:=G4)
     have hu:=hR.ub
     have huf:=hR.uf
     generalize hG4:(G3 ++ [AObj.unborn]).set G2.length (.iter so B'.subs.length (vis ++ [j])) = G4 at *
     simp +decide -dsimp -implicitDefEqProofs [go_sem,r2,r4,s2,hj',QB7]
     have hk:=fun m=>QBy AV.bool p0 m
     have hfm:=fun m=>QCd AV.bool p0 m
     rcases s3 with ⟨hb,rfl⟩ | ⟨q,hq,rfl,h7⟩
     ·have e9:QFf (B.last + 1) r p0 p.2.s = p.2.s:=QLV hb
      refine gs ?_
      refine QAG (S:=List AObj × Bus × List Nat) (G4,B',vis ++ [j]) (hsk e9) ?_ (Wk.jk ?_)
      ·have h1:=QEu hI.nd hI.lt (j:=j) (by rw [← hI.len]; exact (List.getElem?_eq_some_iff.1 hjp).1) hnj
       rw [List.length_append] at h1
       simp only [List.length_cons,List.length_nil] at h1
       show B.subs.length - (vis ++ [j]).length < B.subs.length - vis.length
       rw [List.length_append,List.length_cons,List.length_nil]; omega
      ·simp +decide -dsimp -implicitDefEqProofs [go_sem,jkT]
     ·cases hgs:QAo p0 p.2.s.seen with
      | none=>
       have e9:QFf (B.last + 1) r p0 p.2.s = p.2.s:=by simp [QFf,hgs]
       have hfm':=hfm p.2.s.seen
       rw [hgs] at hfm'
       simp +decide -dsimp -implicitDefEqProofs [go_sem,r1,r3,h7,hk,hfm']
       refine QAG (S:=List AObj × Bus × List Nat) (G4,B',vis ++ [j]) (hsk e9) ?_ (Wk.jk ?_)
       ·have h1:=QEu hI.nd hI.lt (j:=j) (by rw [← hI.len]; exact (List.getElem?_eq_some_iff.1 hjp).1) hnj
        rw [List.length_append] at h1
        simp only [List.length_cons,List.length_nil] at h1
        show B.subs.length - (vis ++ [j]).length < B.subs.length - vis.length
        rw [List.length_append,List.length_cons,List.length_nil]; omega
       ·simp +decide -dsimp -implicitDefEqProofs [go_sem,jkT]
      | some b=>
       have hfm':=hfm p.2.s.seen
       rw [hgs] at hfm'
       cases b with
       | false=>
        have e9:QFf (B.last + 1) r p0 p.2.s = p.2.s:=by simp [QFf,hgs]
        simp +decide -dsimp -implicitDefEqProofs [go_sem,r1,r3,h7,hk,hfm']
        refine QAG (S:=List AObj × Bus × List Nat) (G4,B',vis ++ [j]) (hsk e9) ?_ (Wk.jk ?_)
        ·have h1:=QEu hI.nd hI.lt (j:=j) (by rw [← hI.len]; exact (List.getElem?_eq_some_iff.1 hjp).1) hnj
         rw [List.length_append] at h1
         simp only [List.length_cons,List.length_nil] at h1
         show B.subs.length - (vis ++ [j]).length < B.subs.length - vis.length
         rw [List.length_append,List.length_cons,List.length_nil]; omega
        ·simp +decide -dsimp -implicitDefEqProofs [go_sem,jkT]
       | true=>
        have e9:QFf (B.last + 1) r p0 p.2.s = p.2.s.send ⟨B.last + 1,2,r⟩:=by simp [QFf,hgs]
        simp +decide -dsimp -implicitDefEqProofs [go_sem,r1,r3,h7,hk,hfm']
        obtain ⟨is,G5,ho,h0,his,hsu⟩:=QQm ⟨B.last + 1,2,r⟩ hSub hu (fun e=>huf ⟨j,p,hjp,e⟩)
        have hxs:[AV.ptr p.2.o 0,.agg [.int .i64 (B.last + 1),.int .i64 2,.str r.path,.int .i64 r.index,.imm (r.props.map QBK),.imm (r.tags.map QAT),.imm (r.links.map QAT),.imm (r.run.map QAT),.imm (r.load.map QAT),.str r.name,.int .i64 r.prio,.str r.owner,.str r.group,.int .i64 r.mode]] = QBt is [.ptr 0 0,.agg (QAU ⟨B.last + 1,2,r⟩)]:=by
         simp only [QBt,ren,h0,QD1]
         rfl
        refine QF1 ho hxs fun pre wr hp hwr hup=>?_
        simp +decide -dsimp -implicitDefEqProofs [go_sem,hp,hwr,hup]
        refine ⟨QaG 0 ob H.length is,?_⟩
        have hTell:=hst ho his (by rw [e9]; exact hsu)
        refine QAG (S:=List AObj × Bus × List Nat) (G5,B'.put j p.1 ⟨p.2.o,G3.length :: p.2.fp,QFf (B.last + 1) r p0 p.2.s⟩,vis ++ [j]) hTell ?_ (Wk.jk ?_)
        ·have:=hTell.nd
         have h1:=QEu hI.nd hI.lt (j:=j) (by rw [← hI.len]; exact (List.getElem?_eq_some_iff.1 hjp).1) hnj
         rw [List.length_append] at h1
         simp only [List.length_cons,List.length_nil] at h1
         show B.subs.length - (vis ++ [j]).length < B.subs.length - vis.length
         rw [List.length_append,List.length_cons,List.length_nil]; omega
        ·simp +decide -dsimp -implicitDefEqProofs [go_sem,jkT]
   ·intro G3 ⟨S',k1,k2,k3⟩
    refine QAD ?_
    unfold QTN
    refine gs ?_
    refine QAj _ _ (Wk.refl _ _) ?_
    simp +decide -dsimp -implicitDefEqProofs [go_sem,QBG]
    unfold goneR
    rw [hE0,if_pos rfl]
    exact ⟨rfl,r,S',hg,k1,k2,k3⟩
end Go.Ab
namespace Go.Ab
open Go Go.Proofs Go.Sort
theorem QZU {n:Int} (h0:0 ≤ n) (h1:n < 18446744073709551616):IntKind.u64.wrap n = n:=by rw [IntKind.wrap_u64]; omega
theorem QRp (is:List Nat) (s:Txt):QBt is (QAT s) = QAT s:=by simp [QAT,QBt,ren]
def rows (d:Array Txt):List (List AV):=d.toList.map QAT
def okP (d:Array Txt):Prop:=∀ x ∈ d.toList,QAf x = true
theorem QBf {d:Array Txt} (h:okP d) {j:Nat} (hj:j < d.size):QAf d[j]! = true:=by
 rw [getElem!_pos d j hj]; exact h _ (by simp)
theorem QUq {d:Array Txt} {j:Nat} (hj:j < d.size):(rows d)[j]? = some (QAT d[j]!):=by
 rw [getElem!_pos d j hj]; simp [rows,hj]
theorem QBl (d:Array Txt):(rows d).length = d.size:=by simp [rows]
theorem QBS (d:Array Txt) (i j:Nat):(swp d i j).size = d.size:=by simp [swp]
theorem QRq (d:Array Txt) (i j:Nat):((rows d).set i (QAT d[j]!)).set j (QAT d[i]!) = rows (swp d i j):=by simp [rows,swp]
theorem QCL {d:Array Txt} (h:okP d) {i j:Nat} (hi:i < d.size) (hj:j < d.size):okP (swp d i j):=by
 intro x hx
 simp only [swp,Array.toList_setIfInBounds] at hx
 rcases List.mem_or_eq_of_mem_set hx with hx | rfl
 ·rcases List.mem_or_eq_of_mem_set hx with hx | rfl
  ·exact h x hx
  ·exact QBf h hj
 ·exact QBf h hi
def rgO (d:Array Txt):AObj:=.reg 9 1 (rows d)
theorem QAJ (k:Nat) (d:Array Txt):QAb k (rows d) = true:=QAn fun _x _=>rfl
theorem QD8 (is:List Nat) (d:Array Txt):QBL is (rows d) = rows d:=by
 unfold rows
 induction d.toList with
 | nil=>rfl
 | cons x r ih=>rw [List.map_cons,QBL,ih,QRp]
theorem QX9 (n:Nat) (h:n ≤ 1000000):ACalls Tryz.prog 109 [.int .u64 n] [] (.int .i64 (Go.Lib.bitLen n:Nat)) []:=by
 refine .of_below (by kernel_rfl) fun c vs hv hg=>?_
 simp only [QA3,Val] at hv
 obtain ⟨v,vs',rfl,rfl,rfl⟩:=hv
 refine (Tryz.bits_Len n c.w (by omega) (by omega)).mono fun e w' h=>?_
 obtain ⟨rfl,rfl⟩:=h
 exact ⟨_,rfl,Go.RowKit.Below.refl _ _,fun c'=>by simp only [Val]; rw [Int.toNat_natCast]⟩
end Go.Ab
