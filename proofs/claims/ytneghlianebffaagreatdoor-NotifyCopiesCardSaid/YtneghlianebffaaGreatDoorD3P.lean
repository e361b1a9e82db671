/- A layer of abstract values over the model, and what is proved with it: part D3P. -/
import Derived.Test.YtneghlianebffaaGreatDoorB1
import Derived.Test.YtneghlianebffaaGreatDoorA5
import Derived.Test.YtneghlianebffaaGreatDoorS2
import Derived.Shelf.SlMaps.Clone
set_option maxRecDepth 100000
set_option maxHeartbeats 2000000
namespace Go.Ab
open Go Go.Proofs
def QWj:AFn:=⟨(.seq (.ops [⟨(some 2),(.mov (.v .nils)),none⟩]) (.seq (.seq (.ops [⟨(some 3),(.mov (.t 0)),none⟩,⟨(some 4),(.eqnil false (.t 3)),none⟩]) (.cond (.t 4) (.seq (.ops [⟨(some 2),(.mov (.v .nils)),none⟩]) .ret) .skip)) (.seq (.ops [⟨(some 5),(.bslice 39 14 true []),none⟩,⟨(some 6),(.mov (.t 0)),none⟩,⟨(some 7),(.append 39 14 224 (.t 5) (.t 6)),none⟩,⟨(some 2),(.mov (.t 7)),none⟩]) .ret))),8,[(.tmp 2)]⟩
theorem QJq:QAg Tryz.prog [5] 69 = some QWj:=by kernel_rfl
end Go.Ab
namespace Go.Ab
open Go Go.Proofs
set_option maxRecDepth 20000
theorem ACalls.empO {P:Program} {f:Nat} {post:List AV} {av:AV} {H H':List AObj} {o e sz:Nat} (hb:QEH P f = true) (hH:H[o]? = some (.reg e sz [])) (h:∀ (a:Option Addr) (cp:Nat),ACalls P f (.raw (.slice a 0 cp) :: post) H av H'):ACalls P f (.own o 0 :: post) H av H':=by
 refine ⟨hb,fun c vs hc hr hv=>?_⟩
 simp only [QA3] at hv
 obtain ⟨v,vs',rfl,hv,hvs⟩:=hv
 have:∃ a cp,v = .slice a 0 cp:=by
  simp only [Val] at hv
  obtain ⟨_,⟨e',sz',l,h1,h2,h3⟩ | h1⟩:=hv
  ·rw [hc,hH] at h1
   simp at h1
   obtain ⟨_,_,rfl⟩:=h1
   have h4:=h3 rfl
   obtain ⟨v',h5,h6⟩:=hr.obj o (.reg e sz []) (by rw [hc]; exact hH)
   rw [h4] at h5
   have e5:=Option.some.inj h5
   rcases h6 with ⟨h6,_⟩ | ⟨g,o0,cap,cur,h6,_⟩
   ·exact ⟨none,0,e5.trans h6⟩
   ·exact ⟨_,_,e5.trans h6⟩
  ·rw [hc,hH] at h1; simp at h1
 obtain ⟨a,cp,rfl⟩:=this
 exact (h a cp).2 c _ hc hr (by simp only [QA3]; exact ⟨_,_,rfl,by simp only [Val],hvs⟩)
theorem ACalls.empP {P:Program} {f:Nat} {post:List AV} {av:AV} {H H':List AObj} {o e sz lo m:Nat} {l:List (List AV)} (hb:QEH P f = true) (hH:H[o]? = some (.reg e sz l)) (hm:m = l.length) (h:∀ (a:Option Addr) (cp:Nat),ACalls P f (.raw (.slice a 0 cp) :: post) H av H'):ACalls P f (.pre o lo 0 m :: post) H av H':=by
 refine ⟨hb,fun c vs hc hr hv=>?_⟩
 simp only [QA3] at hv
 obtain ⟨v,vs',rfl,hv,hvs⟩:=hv
 have:∃ a cp,v = .slice a 0 cp:=by
  simp only [Val] at hv
  obtain ⟨_,⟨e',sz',l',h1,h2,h3⟩ | h1⟩:=hv
  ·rw [hc,hH] at h1
   simp at h1
   obtain ⟨_,_,rfl⟩:=h1
   obtain ⟨_,h4⟩:=h3 hm
   rcases h4 with ⟨g,len,cap,o0,cp,h5,h6,_⟩ | ⟨_,h6 | ⟨g,len,cap,o0,d,_,h6,_⟩⟩
   ·exact ⟨_,_,h6⟩
   ·exact ⟨_,_,h6⟩
   ·exact ⟨_,_,h6⟩
  ·rw [hc,hH] at h1; simp at h1
 obtain ⟨a,cp,rfl⟩:=this
 exact (h a cp).2 c _ hc hr (by simp only [QA3]; exact ⟨_,_,rfl,by simp only [Val],hvs⟩)
theorem QO7:ACalls Tryz.prog 69 [.nils] [] .nils []:=by
 refine QAH QJq rfl ?_
 unfold QWj
 simp +decide -dsimp -implicitDefEqProofs [go_sem]
theorem QO8 (x:AObj) (a:Option Addr) (cp:Nat):ACalls Tryz.prog 69 [.raw (.slice a 0 cp)] [x] (.own 1 0) [x,.reg 39 14 []]:=by
 refine QER QJq ?_
 unfold QWj
 cases a with
 | none=>
  refine gs ?_
  refine QAj _ _ (Wk.nilT 2 39 14 rfl (by simp)) ?_
  simp +decide -dsimp -implicitDefEqProofs [go_sem,QBG]
 | some a=>
  simp +decide -dsimp -implicitDefEqProofs [go_sem]
  refine QAj _ _ (Wk.refl _ _) ?_
  simp +decide -dsimp -implicitDefEqProofs [go_sem,QBG]
theorem QTk (F:List Ntc) (hl:F.length ≤ 100000):ACalls Tryz.prog 69 [.own 0 F.length] [.reg 39 14 (F.map QAU)] (.own 1 F.length) [.reg 39 14 (F.map QAU),.reg 39 14 (F.map QAU)]:=by
 by_cases hF:F = []
 ·subst hF
  exact ACalls.empO (by kernel_rfl) rfl fun a cp=>QO8 _ a cp
 refine QER QJq ?_
 unfold QWj
 simp +decide -dsimp -implicitDefEqProofs [go_sem,maxLen]
 refine ⟨hF,fun _ _=>rfl,⟨by omega,by omega⟩,?_⟩
 refine QAj _ _ (Wk.refl _ _) ?_
 simp +decide -dsimp -implicitDefEqProofs [go_sem,QBG]
theorem QTl (F:List Ntc) (lo j:Nat) (hl:j ≤ 100000) (e:lo + j = F.length):ACalls Tryz.prog 69 [.pre 0 lo j F.length] [.reg 39 14 (F.map QAU)] (.own 1 j) [.reg 39 14 (F.map QAU),.reg 39 14 ((F.drop lo).map QAU)]:=by
 by_cases hj:j = 0
 ·subst hj
  have:F.drop lo = []:=List.drop_eq_nil_of_le (by omega)
  rw [this]
  exact ACalls.empP (by kernel_rfl) rfl (by simp) fun a cp=>QO8 _ a cp
 refine QER QJq ?_
 unfold QWj
 simp +decide -dsimp -implicitDefEqProofs [go_sem,maxLen]
 have e1:min j (F.length - lo) = j:=by omega
 have e2:List.take j (List.drop lo (F.map QAU)) = List.drop lo (F.map QAU):=List.take_of_length_le (by simp; omega)
 rw [e1,e2]
 refine ⟨hj,fun r hr=>?_,⟨by omega,by omega⟩,?_⟩
 ·obtain ⟨n,_,rfl⟩:=List.mem_map.1 (List.mem_of_mem_drop hr)
  rfl
 refine QAj _ _ (Wk.refl _ _) ?_
 simp +decide -dsimp -implicitDefEqProofs [go_sem,QBG]
end Go.Ab
namespace Go.Ab
open Go Go.Proofs
theorem QN1 (b:Nat) (es:Array MapEntry) (clock:Nat) (w:World) (hb:w.heap[b]? = some (.map es clock)):
  Calls Tryz.prog 67 #[.map (some b)] w fun e w'=>e = .returned (.map (some w.heap.size)) ∧ w' = w.alloc (.map es clock):=by
 have hq:=fun w=>run_eql_map_nil_sl (P:=Tryz.prog) w 79 _ _ (some b) Tryz.underlying79
 go_enter Tryz.func67,Tryz.ntmps67
 go_wp2
 rw [run_callFunc_extern Tryz.func107 (by kernel_rfl) (by kernel_rfl) (by kernel_rfl) (e:=Extern.MapsClone.clone) (by kernel_rfl),run_maps_clone_sl w 79 hb]
 simp only [Result.andThen]
 rw [Oper.upon_value]
 go_wp2
 rw [run_typeAssert_map_sl _ 79 20 _ _ _ Tryz.underlying79]
 simp only [Result.andThen]
 rw [Oper.upon_value]
 go_wp2
 go_ret
 exact ⟨rfl,rfl⟩
theorem QQ9:QEH Tryz.prog 67 = true:=by kernel_rfl
theorem QRA (kvs:List (AV × AV)):ACallsR Tryz.prog 67 [.map 0] [.map kvs] (fun v G=>v = .map 1 ∧ G = [.map kvs,.map kvs]):=by
 refine ⟨QQ9,fun c vs hH hr hv=>?_⟩
 simp only [QA3,Val] at hv
 obtain ⟨v,vs',rfl,⟨kvs',r,h1,h2,rfl⟩,rfl⟩:=hv
 obtain ⟨r',es,h3,h4,h5⟩:=hr.obj 0 (.map kvs) (by rw [hH]; rfl)
 rw [h2] at h3; simp at h3; subst h3
 refine (QN1 r es kvs.length c.w h4).mono fun e w' hq=>?_
 obtain ⟨rfl,rfl⟩:=hq
 obtain ⟨hr1,hE1⟩:=QDa hr
 have hμl:c.μ.length = 1:=by rw [hr.len,hH]; rfl
 have hN:=QFx (c:={ c with μ:=c.μ ++ [.pointer none],H:=c.H ++ [.unborn] }) hr1 (nid:=1) (x':=.map kvs) (v':=.map (some c.w.heap.size)) (.map es kvs.length) (by show (c.H ++ [AObj.unborn])[1]? = _; rw [hH]; rfl) (fun b hb=>by simpa [blk] using hb.symm) (fun F hE hm=>
  ⟨c.w.heap.size,es,hm,QCT c.w _,QEe hE _ _ _ (QEe (hE1.vext hr) _ _ _ h5)⟩)
 refine ⟨_,_,.map 1,rfl,rfl,⟨rfl,?_⟩,hN.1,hE1.trans hN.2,?_⟩
 ·show (c.H ++ [AObj.unborn]).set 1 _ = _
  rw [hH]; rfl
 ·simp only [Val]
  refine ⟨kvs,c.w.heap.size,?_,?_,rfl⟩
  ·show ((c.H ++ [AObj.unborn]).set 1 _)[1]? = _
   rw [hH]; rfl
  ·show ((c.μ ++ [Value.pointer none]).set 1 _)[1]? = _
   have:1 < (c.μ ++ [Value.pointer none]).length:=by simp [hμl]
   rw [List.getElem?_set_self this]
theorem QN2 (b:Nat) (es:Array MapEntry) (clock:Nat) (w:World) (hb:w.heap[b]? = some (.map es clock)):
  Calls Tryz.prog 68 #[.map (some b)] w fun e w'=>e = .returned (.map (some w.heap.size)) ∧ w' = w.alloc (.map es clock):=by
 have hq:=fun w=>run_eql_map_nil_sl (P:=Tryz.prog) w 77 _ _ (some b) Tryz.underlying77
 go_enter Tryz.func68,Tryz.ntmps68
 go_wp2
 rw [run_callFunc_extern Tryz.func107 (by kernel_rfl) (by kernel_rfl) (by kernel_rfl) (e:=Extern.MapsClone.clone) (by kernel_rfl),run_maps_clone_sl w 77 hb]
 simp only [Result.andThen]
 rw [Oper.upon_value]
 go_wp2
 rw [run_typeAssert_map_sl _ 77 20 _ _ _ Tryz.underlying77]
 simp only [Result.andThen]
 rw [Oper.upon_value]
 go_wp2
 go_ret
 exact ⟨rfl,rfl⟩
theorem QMz:QEH Tryz.prog 68 = true:=by kernel_rfl
theorem QRB (kvs:List (AV × AV)):ACallsR Tryz.prog 68 [.map 0] [.map kvs] (fun v G=>v = .map 1 ∧ G = [.map kvs,.map kvs]):=by
 refine ⟨QMz,fun c vs hH hr hv=>?_⟩
 simp only [QA3,Val] at hv
 obtain ⟨v,vs',rfl,⟨kvs',r,h1,h2,rfl⟩,rfl⟩:=hv
 obtain ⟨r',es,h3,h4,h5⟩:=hr.obj 0 (.map kvs) (by rw [hH]; rfl)
 rw [h2] at h3; simp at h3; subst h3
 refine (QN2 r es kvs.length c.w h4).mono fun e w' hq=>?_
 obtain ⟨rfl,rfl⟩:=hq
 obtain ⟨hr1,hE1⟩:=QDa hr
 have hμl:c.μ.length = 1:=by rw [hr.len,hH]; rfl
 have hN:=QFx (c:={ c with μ:=c.μ ++ [.pointer none],H:=c.H ++ [.unborn] }) hr1 (nid:=1) (x':=.map kvs) (v':=.map (some c.w.heap.size)) (.map es kvs.length) (by show (c.H ++ [AObj.unborn])[1]? = _; rw [hH]; rfl) (fun b hb=>by simpa [blk] using hb.symm) (fun F hE hm=>
  ⟨c.w.heap.size,es,hm,QCT c.w _,QEe hE _ _ _ (QEe (hE1.vext hr) _ _ _ h5)⟩)
 refine ⟨_,_,.map 1,rfl,rfl,⟨rfl,?_⟩,hN.1,hE1.trans hN.2,?_⟩
 ·show (c.H ++ [AObj.unborn]).set 1 _ = _
  rw [hH]; rfl
 ·simp only [Val]
  refine ⟨kvs,c.w.heap.size,?_,?_,rfl⟩
  ·show ((c.H ++ [AObj.unborn]).set 1 _)[1]? = _
   rw [hH]; rfl
  ·show ((c.μ ++ [Value.pointer none]).set 1 _)[1]? = _
   have:1 < (c.μ ++ [Value.pointer none]).length:=by simp [hμl]
   rw [List.getElem?_set_self this]
theorem QN3 (w:World):Calls Tryz.prog 68 #[.map none] w fun e w'=>e = .returned (.map none) ∧ w' = w:=by
 have hq:=fun w=>run_eql_map_nil_sl (P:=Tryz.prog) w 77 _ _ none Tryz.underlying77
 go_enter Tryz.func68,Tryz.ntmps68
 go_wp2
 go_ret
 exact ⟨rfl,rfl⟩
theorem QKs:ACalls Tryz.prog 68 [.nilm] [] .nilm []:=by
 refine ⟨QMz,fun c vs hH hr hv=>?_⟩
 simp only [QA3,Val] at hv
 obtain ⟨v,vs',rfl,rfl,rfl⟩:=hv
 refine (QN3 c.w).mono fun e w' hq=>?_
 obtain ⟨rfl,rfl⟩:=hq
 exact ⟨_,c,rfl,rfl,hH,hr,Ext.refl c,by simp only [Val]⟩
end Go.Ab
namespace Go.Ab
open Go Go.Proofs
set_option maxRecDepth 20000
theorem QRC (kvs:List (AV × AV)):ACalls Tryz.prog 67 [.map 0] [.map kvs,.unborn] (.map 1) [.map kvs,.map kvs]:=
 ((QRA kvs).unbornG 1 fun _ _ h=>by rw [h.2]; simp).one
theorem QRD (kvs:List (AV × AV)):ACalls Tryz.prog 68 [.map 0] [.map kvs,.unborn] (.map 1) [.map kvs,.map kvs]:=
 ((QRB kvs).unbornG 1 fun _ _ h=>by rw [h.2]; simp).one
theorem QTm (F:List Ntc) (hl:F.length ≤ 100000):ACalls Tryz.prog 69 [.own 0 F.length] [.reg 39 14 (F.map QAU),.unborn] (.own 1 F.length) [.reg 39 14 (F.map QAU),.reg 39 14 (F.map QAU)]:=
 ((QTk F hl).toR.unbornG 1 fun _ _ h=>by rw [h.2]; simp).one
theorem QTn (F:List Ntc) (lo j:Nat) (hl:j ≤ 100000) (e:lo + j = F.length):ACalls Tryz.prog 69 [.pre 0 lo j F.length] [.reg 39 14 (F.map QAU),.unborn] (.own 1 j) [.reg 39 14 (F.map QAU),.reg 39 14 ((F.drop lo).map QAU)]:=
 ((QTl F lo j hl e).toR.unbornG 1 fun _ _ h=>by rw [h.2]; simp).one
structure CpyI (H:List AObj) (so N iI:Nat) (B:Bus) (G:List AObj) (S:QAy SbL) (vis:List Nat):Prop where
 at_:QB0 G (N + 2) N (N + 1) ⟨B.ready,S,B.last⟩
 keep:∀ i,i < H.length → G[i]? = H[i]?
 ft:∀ i,(⟨B.ready,S,B.last⟩:Bus).foot i → H.length ≤ i ∧ i ≠ iI
 il:H.length ≤ iI ∧ iI ≠ N ∧ iI ≠ N + 1 ∧ iI ≠ N + 2
 it:G[iI]? = some (.iter so B.subs.length vis)
 one:QBI S
 get:∀ k x,QAo k (QCP S) = some x ↔ ∃ j ∈ vis,(QCP B.subs)[j]? = some (some (k,x))
 nd:vis.Nodup
 lt:∀ j ∈ vis,j < B.subs.length
def QWk (H:List AObj) (B:Bus) (v:AV) (G:List AObj):Prop:=∃ S,v = .ptr (H.length + 2) 0 ∧ QB0 G (H.length + 2) H.length (H.length + 1) ⟨B.ready,S,B.last⟩ ∧ (∀ i,i < H.length → G[i]? = H[i]?) ∧ (∀ i,(⟨B.ready,S,B.last⟩:Bus).foot i → H.length ≤ i) ∧ QBI S ∧ ∀ k,QAo k (QCP S) = QAo k (QCP B.subs)
theorem CpyI.fin {H:List AObj} {so iI:Nat} {B:Bus} {G:List AObj} {S:QAy SbL} {vis:List Nat} (h:CpyI H so H.length iI B G S vis) (h1:QBI B.subs) (hA:∀ (j:Nat) (p:List UInt8 × SbL),B.subs[j]? = some (some p) → j ∈ vis) (l:List AObj):QWk H B (.ptr (H.length + 2) 0) (G ++ l):=by
 have hl:H.length ≤ G.length:=by
  have:=(List.getElem?_eq_some_iff.1 h.it).1
  have:=h.il.1
  omega
 refine ⟨S,rfl,(QB6 h.at_ l).1,fun i hi=>?_,fun i hi=>(h.ft i hi).1,h.one,fun k=>?_⟩
 ·rw [List.getElem?_append_left (by omega)]; exact h.keep i hi
 ·have key:∀ x,QAo k (QCP S) = some x ↔ QAo k (QCP B.subs) = some x:=fun x=>by
   rw [h.get k x]
   constructor
   ·rintro ⟨j,_,hj⟩
    have hoD:QBI (QCP B.subs):=QFR _ h1
    exact QFF hoD hj
   ·intro hg
    obtain ⟨j,hj⟩:=QHf hg
    refine ⟨j,?_,hj⟩
    cases hb:B.subs[j]? with
    | none=>simp [QCP,hb] at hj
    | some o=>
     cases o with
     | none=>simp [QCP,hb] at hj
     | some p=>exact hA j p hb
  cases hx:QAo k (QCP S) with
  | some x=>exact ((key x).1 hx).symm
  | none=>
   cases hy:QAo k (QCP B.subs) with
   | none=>rfl
   | some y=>rw [(key y).2 hy] at hx; cases hx
theorem CpyI.step {H:List AObj} {so N iI:Nat} {B:Bus} {G:List AObj} {S:QAy SbL} {vis:List Nat} (h:CpyI H so N iI B G S vis) (h1:QBI B.subs) {j:Nat} {p:List UInt8 × SbL} (hj:B.subs[j]? = some (some p)) (hnj:j ∉ vis) (hN:H.length ≤ N)
  {G':List AObj} {o:Nat} {fp:List Nat} (hlen:G.length ≤ G'.length) (hold:∀ i,i < G.length → i ≠ iI → i ≠ N + 1 → G'[i]? = G[i]?) (hit:G'[iI]? = some (.iter so B.subs.length (vis ++ [j])))
  (hns:G'[N + 1]? = some (.map (sbM (QBT p.1 ⟨o,fp,p.2.s⟩ S)))) (hfp:∀ i ∈ fp,G.length ≤ i ∧ i < G'.length) (hsub:SubAt G' o fp p.2.s):CpyI H so N iI B G' (QBT p.1 ⟨o,fp,p.2.s⟩ S) (vis ++ [j]):=by
 obtain ⟨l1,l2,l3,l4⟩:=h.il
 have liI:=(List.getElem?_eq_some_iff.1 h.it).1
 have lN:=(List.getElem?_eq_some_iff.1 h.at_.rdy).1
 have lN1:=(List.getElem?_eq_some_iff.1 h.at_.sbs).1
 have lN2:=(List.getElem?_eq_some_iff.1 h.at_.box).1
 have hft:∀ i,(⟨B.ready,QBT p.1 ⟨o,fp,p.2.s⟩ S,B.last⟩:Bus).foot i → (i ∈ fp) ∨ (⟨B.ready,S,B.last⟩:Bus).foot i:=by
  rintro i ⟨j',q,hq,hi⟩
  obtain ⟨j0,hp0⟩:=QDj p.1 (⟨o,fp,p.2.s⟩:SbL) S
  rcases hp0 j' q hq with ⟨_,rfl⟩ | ⟨_,h2⟩
  ·exact .inl hi
  ·exact .inr ⟨j',q,h2,hi⟩
 have hG:∀ i,(⟨B.ready,S,B.last⟩:Bus).foot i → i < G.length ∧ i ≠ iI ∧ i ≠ N + 1 ∧ i ≠ N + 2 ∧ i ≠ N:=fun i hi=>by
  obtain ⟨a1,a2,a3,a4⟩:=h.at_.out i hi
  exact ⟨a1,(h.ft i hi).2,a4,a2,a3⟩
 refine ⟨⟨?_,?_,hns,h.at_.rso,?_,?_,?_⟩,?_,?_,h.il,hit,QDw _ _ h.one,?_,?_,?_⟩
 ·rw [hold _ lN2 (Ne.symm l4) (by omega)]; exact h.at_.box
 ·rw [hold _ lN (Ne.symm l2) (by omega)]; exact h.at_.rdy
 ·intro j' q hq
  obtain ⟨j0,hp0⟩:=QDj p.1 (⟨o,fp,p.2.s⟩:SbL) S
  rcases hp0 j' q hq with ⟨_,rfl⟩ | ⟨_,h2⟩
  ·exact hsub
  ·refine (h.at_.sub j' q h2).keep (fun _ hi=>hi) fun i hi=>?_
   obtain ⟨a1,a2,a3,_⟩:=hG i ⟨j',q,h2,hi⟩
   exact hold i a1 a2 a3
 ·intro i hi
  rcases hft i hi with hi | hi
  ·have:=hfp i hi
   exact ⟨this.2,by omega,by omega,by omega⟩
  ·obtain ⟨a1,a2,a3,a4,a5⟩:=hG i hi
   exact ⟨by omega,a4,a5,a3⟩
 ·intro i k q r hik hq hr x hx hx2
  obtain ⟨j0,hp0⟩:=QDj p.1 (⟨o,fp,p.2.s⟩:SbL) S
  rcases hp0 i q hq with ⟨e1,rfl⟩ | ⟨e1,h2⟩ <;> rcases hp0 k r hr with ⟨e2,rfl⟩ | ⟨e2,h3⟩
  ·omega
  ·have:=(hG x ⟨k,r,h3,hx2⟩).1
   have:=(hfp x hx).1
   omega
  ·have:=(hG x ⟨i,q,h2,hx⟩).1
   have:=(hfp x hx2).1
   omega
  ·exact h.at_.dis i k q r hik h2 h3 x hx hx2
 ·intro i hi
  rw [hold i (by omega) (by omega) (by omega)]
  exact h.keep i hi
 ·intro i hi
  rcases hft i hi with hi | hi
  ·have:=hfp i hi
   exact ⟨by omega,by omega⟩
  ·exact h.ft i hi
 ·intro k x
  rw [QGK,QCM]
  have hjd:(QCP B.subs)[j]? = some (some (p.1,p.2.s)):=QKK hj
  have hoD:QBI (QCP B.subs):=QFR _ h1
  by_cases hk:p.1 = k
  ·rw [if_pos hk]
   subst hk
   constructor
   ·intro e
    have e:=Option.some.inj e
    subst e
    exact ⟨j,by simp,hjd⟩
   ·rintro ⟨j',_,h2⟩
    have e1:=QFF hoD hjd
    have e2:=QFF hoD h2
    exact e1.symm.trans e2
  ·rw [if_neg hk,h.get k x]
   constructor
   ·rintro ⟨j',h2,h3⟩
    exact ⟨j',by simp [h2],h3⟩
   ·rintro ⟨j',h2,h3⟩
    rcases List.mem_append.1 h2 with h2 | h2
    ·exact ⟨j',h2,h3⟩
    ·simp at h2; subst h2
     rw [hjd] at h3
     simp at h3
     exact absurd h3.1 hk
 ·rw [List.nodup_append]
  refine ⟨h.nd,by simp,fun a ha b hb=>?_⟩
  simp at hb; subst hb
  exact fun e=>hnj (e ▸ ha)
 ·intro x hx
  rcases List.mem_append.1 hx with hx | hx
  ·exact h.lt x hx
  ·simp at hx; subst hx
   exact (List.getElem?_eq_some_iff.1 hj).1
def cpyS (N:Nat) (s:List AObj × QAy SbL × List Nat):St:=⟨tmps 54 [(3,.ptr (N + 2) 0),(22,.it (N + 3))],s.1⟩
def QTo (N:Nat) (G:List AObj):St:=⟨tmps 54 [(3,.ptr (N + 2) 0)],G⟩
theorem QWl {H:List AObj} {ob ro so:Nat} {B:Bus} (h:QB0 H ob ro so B) (h1:QBI B.subs):
  ACallsR Tryz.prog 34 [.ptr ob 0] H (QWk H B):=by
 have b1:=h.box
 have b2:=h.rdy
 have b3:=h.sbs
 have lob:=(List.getElem?_eq_some_iff.1 b1).1
 have lro:=(List.getElem?_eq_some_iff.1 b2).1
 have lso:=(List.getElem?_eq_some_iff.1 b3).1
 have ap:∀ {i:Nat} {x:AObj} (l:List AObj),H[i]? = some x → (H ++ l)[i]? = some x:=fun l hx=>by
  rw [List.getElem?_append_left (List.getElem?_eq_some_iff.1 hx).1]; exact hx
 have a1:=fun l=>ap l b1
 have a2:=fun l=>ap l b2
 have a3:=fun l=>ap l b3
 have cr:=QRC (rdM B.ready)
 have hrk:∀ is,QEw is (rdM B.ready) = rdM B.ready:=fun is=>QMA is _ (fun r=>by rw [ren]; exact congrArg AV.agg (QD9 is r)) _
 refine QCn _ cqq ?_
 refine QFj (Wk.pushN 1) ?_
 simp only [List.replicate]
 refine gS ?_
 refine QBU ?_
 simp +decide -dsimp -implicitDefEqProofs [go_sem,a1]
 refine QAu [ro,H.length] cr rfl rfl (by simp; omega) (by simp [QBt,ren]) ?_ ?_
 ·intro p hp
  simp [QBP,hrk] at hp
  rcases hp with rfl | rfl
  ·exact a2 _
  ·simp
 have hU:∀ x y z,(H ++ [x,y,z]).set ro (.map (rdM B.ready)) = H ++ [x,y,z]:=fun x y z=>QCe (a2 _)
 have na:∀ (x y z:AObj) h,(H ++ [x,y,z])[H.length + 1]'h = y:=fun x y z h=>by rw [List.getElem_append_right (by omega)]; simp
 have nb:∀ (x y z:AObj) h,(H ++ [x,y,z])[H.length + 1 + 1]'h = z:=fun x y z h=>by rw [List.getElem_append_right (by omega)]; simp [Nat.add_assoc]
 have s0:∀ x y z w:AObj,(H ++ [x,y,z]).set H.length w = H ++ [w,y,z]:=fun x y z w=>by rw [List.set_append,if_neg (by omega)]; simp
 have sa:∀ x y z w:AObj,(H ++ [x,y,z]).set (H.length + 1) w = H ++ [x,w,z]:=fun x y z w=>by rw [List.set_append,if_neg (by omega)]; simp
 have sb:∀ x y z w:AObj,(H ++ [x,y,z]).set (H.length + 1 + 1) w = H ++ [x,y,w]:=fun x y z w=>by rw [List.set_append,if_neg (by omega)]; simp [Nat.add_assoc]
 have ord:QBB [0,1,3,7,15,0,0,64,192,448,1023,2047,4095] [([],[]),([],[]),([],[]),([ob],[]),([ro,H.length],[ro,H.length]),([H.length + 1],[H.length + 1]),([],[]),([],[]),([],[]),([ob],[]),([],[]),([H.length + 1 + 1],[H.length + 1 + 1]),([],[])] = true:=by
  have n1:ob ≠ ro:=by rintro rfl; rw [b1] at b2; cases b2
  have n2:ob ≠ H.length:=by omega
  have n3:ob ≠ H.length + 1:=by omega
  have n4:ob ≠ H.length + 1 + 1:=by omega
  have n5:ro ≠ H.length + 1:=by omega
  have n6:ro ≠ H.length + 1 + 1:=by omega
  simp +decide [QBB,QCz,n1,n2,n3,n4,n5,n6,Ne.symm n1,Ne.symm n2,Ne.symm n3,Ne.symm n4,Ne.symm n5,Ne.symm n6]
 simp +decide -dsimp -implicitDefEqProofs [go_sem,QBP,ren,hrk,hU,a1,na,nb,s0,sa,sb]
 refine ⟨ord,?_⟩
 unfold goE
 refine QA6 (QTo H.length) (QWk H B (.ptr (H.length + 2) 0)) ?_ ?_
 ·refine QAD ?_
  simp +decide -dsimp -implicitDefEqProofs [go_sem,a1,a3]
  refine QBH (S:=List AObj × QAy SbL × List Nat) (cpyS H.length) (fun s=>B.subs.length - s.2.2.length) (fun s=>CpyI H so H.length (H.length + 3) B s.1 s.2.1 s.2.2) (H ++ [.map (rdM B.ready),.map [],.box 82 [.map H.length,.map (H.length + 1),.int .i64 B.last],.iter so B.subs.length []],[],[]) ?_ (Wk.jk ?_) ?_
  ·have e3:∀ (x y z w:AObj),(H ++ [x,y,z,w])[H.length + 3]? = some w:=fun x y z w=>by rw [List.getElem?_append_right (by omega)]; simp
   have e2:∀ (x y z w:AObj),(H ++ [x,y,z,w])[H.length + 2]? = some z:=fun x y z w=>by rw [List.getElem?_append_right (by omega)]; simp
   have e1:∀ (x y z w:AObj),(H ++ [x,y,z,w])[H.length + 1]? = some y:=fun x y z w=>by rw [List.getElem?_append_right (by omega)]; simp
   have e0:∀ (x y z w:AObj),(H ++ [x,y,z,w])[H.length]? = some x:=fun x y z w=>by rw [List.getElem?_append_right (by omega)]; simp
   have nf:∀ i,¬ (⟨B.ready,[],B.last⟩:Bus).foot i:=fun i ⟨j,p,h,_⟩=>by simp at h
   exact ⟨⟨e2 _ _ _ _,e0 _ _ _ _,e1 _ _ _ _,by omega,fun j p h=>by simp at h,fun i h=>(nf i h).elim,fun i j p q _ h=>by simp at h⟩,fun i hi=>List.getElem?_append_left hi,fun i h=>(nf i h).elim,⟨by omega,by omega,by omega,by omega⟩,e3 _ _ _ _,trivial,fun k x=>by simp [QCP,QAo],by simp,by simp⟩
  ·simp +decide -dsimp -implicitDefEqProofs [go_sem,jkT]
  rintro ⟨G,S,vis⟩ hI
  simp only at hI
  unfold cpyS
  have liI:=(List.getElem?_eq_some_iff.1 hI.it).1
  have i1:(G ++ [AObj.unborn,AObj.unborn])[H.length + 3]? = some (.iter so B.subs.length vis):=by rw [List.getElem?_append_left liI]; exact hI.it
  have i2:(G ++ [AObj.unborn,AObj.unborn])[so]? = some (.map (sbM B.subs)):=by rw [List.getElem?_append_left (by omega),hI.keep so lso]; exact b3
  refine QFj (Wk.pushN 2) ?_
  simp only [List.replicate]
  refine QAD ?_
  refine gs ?_
  refine QGc (i:=H.length + 3) (m:=so) (kvs:=sbM B.subs) i1 i2 (QDh _ _).symm (fun hA=>?_) (fun j kk x hj hg hnj=>?_)
  ·simp +decide -dsimp -implicitDefEqProofs [go_sem]
   refine QAs (S:=List AObj) _ (hI.fin h1 (fun j p hj=>hA j _ (QIh hj).1 rfl) [.unborn,.unborn]) (Wk.jk ?_)
   simp +decide -dsimp -implicitDefEqProofs [go_sem,jkT]
  ·obtain ⟨p,hjp,rfl,rfl⟩:=QLg hj hg
   obtain ⟨sv,wv,s1,s2,s3,s4,s5,s6⟩:=h.sub j p hjp
   have hfp:∀ i ∈ p.2.fp,i < H.length:=fun i hi=>(h.out i ⟨j,p,hjp,hi⟩).1
   have hstep:=fun {G':List AObj} {o:Nat} {fp:List Nat}=>hI.step (G':=G') (o:=o) (fp:=fp) h1 hjp hnj (Nat.le_refl _)
   have hM:(G.set (H.length + 3) (.iter so B.subs.length (vis ++ [j]))).length = G.length:=List.length_set ..
   have hG4:(G ++ [AObj.unborn,AObj.unborn]).set (H.length + 3) (.iter so B.subs.length (vis ++ [j])) = (G.set (H.length + 3) (.iter so B.subs.length (vis ++ [j]))) ++ [.unborn,.unborn]:=by
    rw [List.set_append_left _ _ liI]
   have g0:∀ i,i < H.length → (G.set (H.length + 3) (.iter so B.subs.length (vis ++ [j])))[i]? = H[i]?:=fun i hi=>by
    rw [List.getElem?_set_ne (by omega)]; exact hI.keep i hi
   have g1:∀ i,i ≠ H.length + 3 → (G.set (H.length + 3) (.iter so B.subs.length (vis ++ [j])))[i]? = G[i]?:=fun i hn=>by
    rw [List.getElem?_set_ne (Ne.symm hn)]
   have g2:(G.set (H.length + 3) (.iter so B.subs.length (vis ++ [j])))[H.length + 3]? = some (.iter so B.subs.length (vis ++ [j])):=List.getElem?_set_self liI
   rw [hG4]
   have lo:=hfp _ s1
   have lN2:=(List.getElem?_eq_some_iff.1 hI.at_.box).1
   have lN1:=(List.getElem?_eq_some_iff.1 hI.at_.sbs).1
   generalize hGG:(G.set (H.length + 3) (.iter so B.subs.length (vis ++ [j]))) = G' at *
   have apG:∀ {i:Nat} {x:AObj},G'[i]? = some x → ∀ l,(G' ++ l)[i]? = some x:=fun hx l=>by
    rw [List.getElem?_append_left (List.getElem?_eq_some_iff.1 hx).1]; exact hx
   have m2:=apG ((g0 _ lo).trans s2)
   have mso:=apG ((g0 _ lso).trans b3)
   have m2':=m2
   unfold QA5 at m2
   have m3:=apG ((g1 _ (by omega)).trans hI.at_.box)
   have m4:=apG ((g1 _ (by omega)).trans hI.at_.sbs)
   have m5:=apG g2
   have hj':(sbM B.subs)[j]? = some (.str p.1,.ptr p.2.o 0):=hj
   have lM:H.length + 3 < G'.length:=by omega
   have na:∀ (x y z:AObj) h,(G' ++ [x,y,z])[G'.length + 1]'h = y:=fun x y z h=>by rw [List.getElem_append_right (by omega)]; simp
   have nb:∀ (x y z:AObj) h,(G' ++ [x,y,z])[G'.length + 2]'h = z:=fun x y z h=>by rw [List.getElem_append_right (by omega)]; simp
   have pa:∀ (x y z:AObj),(G' ++ [x,y,z])[G'.length + 1]? = some y:=fun x y z=>by rw [List.getElem?_append_right (by omega)]; simp
   have pb:∀ (x y z:AObj),(G' ++ [x,y,z])[G'.length + 2]? = some z:=fun x y z=>by rw [List.getElem?_append_right (by omega)]; simp
   have p0:∀ (x y z:AObj),(G' ++ [x,y,z])[G'.length]? = some x:=fun x y z=>by rw [List.getElem?_append_right (by omega)]; simp
   have t0:∀ x y z w:AObj,(G' ++ [x,y,z]).set G'.length w = G' ++ [w,y,z]:=fun x y z w=>by rw [List.set_append,if_neg (by omega)]; simp
   have ta:∀ x y z w:AObj,(G' ++ [x,y,z]).set (G'.length + 1) w = G' ++ [x,w,z]:=fun x y z w=>by rw [List.set_append,if_neg (by omega)]; simp
   have tb:∀ x y z w:AObj,(G' ++ [x,y,z]).set (G'.length + 2) w = G' ++ [x,y,w]:=fun x y z w=>by rw [List.set_append,if_neg (by omega)]; simp
   have hset:∀ o:Nat,QCt (.str p.1) (.ptr o 0) (sbM S) = sbM (QBT p.1 ⟨o,[G'.length,G'.length + 1,G'.length + 2],p.2.s⟩ S):=fun o=>QDv (fun x:SbL=>AV.ptr x.o 0) p.1 ⟨o,[G'.length,G'.length + 1,G'.length + 2],p.2.s⟩ S
   have hks:=QBy (fun x:SbL=>AV.ptr x.o 0) p.1 S
   have hbr:∀ is,QEw is (smK AV.bool p.2.s.seen) = smK AV.bool p.2.s.seen:=fun is=>QBz is _
   have fin:∀ (X Y Z:AObj),SubAt (G' ++ [X,Y,Z]) (G'.length + 2) [G'.length,G'.length + 1,G'.length + 2] p.2.s → CpyI H so H.length (H.length + 3) B ((G' ++ [X,Y,Z]).set (H.length + 1) (.map (sbM (QBT p.1 ⟨G'.length + 2,[G'.length,G'.length + 1,G'.length + 2],p.2.s⟩ S)))) (QBT p.1 ⟨G'.length + 2,[G'.length,G'.length + 1,G'.length + 2],p.2.s⟩ S) (vis ++ [j]):=fun X Y Z hs=>by
    refine hstep (by simp; omega) (fun i h2 h3 h4=>?_) ?_ ?_ (fun i hi=>?_) (hs.keep (fun _ h=>h) fun i hi=>?_)
    ·rw [List.getElem?_set_ne (Ne.symm h4),List.getElem?_append_left (by omega)]; exact g1 i h3
    ·rw [List.getElem?_set_ne (by omega)]; exact m5 _
    ·rw [List.getElem?_set_self (by simp; omega)]
    ·simp at hi ⊢; omega
    ·rw [List.getElem?_set_ne (by simp at hi; omega)]
   have dec:B.subs.length - (vis ++ [j]).length < B.subs.length - vis.length:=by
    have h3:=QEu hI.nd hI.lt (j:=j) (List.getElem?_eq_some_iff.1 hjp).1 hnj
    rw [List.length_append] at h3 ⊢
    simp only [List.length_cons,List.length_nil] at h3 ⊢; omega
   simp +decide -dsimp -implicitDefEqProofs [go_sem,mso,m2,m3,m5,hj',QB7]
   rcases s3 with ⟨hb,rfl⟩ | ⟨q,hq,rfl,h7⟩
   ·refine QAK QKs rfl rfl ?_
    simp +decide -dsimp -implicitDefEqProofs [go_sem,m2]
    rcases s4 with ⟨rfl,hw⟩ | ⟨r,F,hr,h8,⟨rfl,hF⟩ | ⟨lw,jw,ew,rfl,hF⟩⟩
    ·refine QAK QO7 rfl rfl ?_
     simp +decide -dsimp -implicitDefEqProofs [go_sem,m2,m4,nb,tb,hks,hset]
     refine ⟨?_,?_⟩
     ·clear fin hset
      have n1:p.2.o ≠ G'.length + 2:=by omega
      have n2:H.length + 2 ≠ G'.length + 2:=by omega
      have n3:p.2.o ≠ H.length + 1:=by omega
      have n4:H.length + 1 ≠ G'.length + 2:=by omega
      have n5:p.2.o ≠ H.length + 2:=by omega
      have nZ:¬ H.length = G'.length:=by omega
      simp +decide [QBB,QCz,nZ,Ne.symm nZ,n1,n3,Ne.symm n1,Ne.symm n3,Ne.symm n4]
     have hsub:SubAt (G' ++ [.unborn,.unborn,.box 89 [QA5 p.2.s.f,.nilm,.nils,.bool p.2.s.behind]]) (G'.length + 2) [G'.length,G'.length + 1,G'.length + 2] p.2.s:=⟨.nilm,.nils,by simp,pb _ _ _,.inl ⟨hb,rfl⟩,.inl ⟨rfl,hw⟩,fun _=>rfl,s6⟩
     refine QAG (S:=List AObj × QAy SbL × List Nat) (_,_,vis ++ [j]) (fin _ _ _ hsub) dec (Wk.jk ?_)
     simp +decide -dsimp -implicitDefEqProofs [go_sem,jkT]
    ·exact absurd (s5 hb) (by simp)
    ·exact absurd (s5 hb) (by simp)
   ·have mq:=apG ((g0 _ (hfp q hq)).trans h7)
    have hUq:∀ x y z,(G' ++ [x,y,z]).set q (.map (smK AV.bool p.2.s.seen)) = G' ++ [x,y,z]:=fun x y z=>QCe (mq _)
    have lq:=hfp q hq
    refine QAu [q,G'.length] (QRD (smK AV.bool p.2.s.seen)) rfl rfl (by simp; omega) (by simp [QBt,ren]) ?_ ?_
    ·intro x hx
     simp [QBP,hbr] at hx
     rcases hx with rfl | rfl
     ·exact mq _
     ·exact p0 _ _ _
    simp +decide -dsimp -implicitDefEqProofs [go_sem,QBP,ren,hbr,hUq,m2,t0]
    rcases s4 with ⟨rfl,hw⟩ | ⟨r,F,hr,h8,⟨rfl,hF⟩ | ⟨lw,jw,ew,rfl,hF⟩⟩
    ·refine QAK QO7 rfl rfl ?_
     simp +decide -dsimp -implicitDefEqProofs [go_sem,m2,m4,nb,tb,hks,hset]
     refine ⟨?_,?_⟩
     ·clear fin hset
      have n1:p.2.o ≠ G'.length + 2:=by omega
      have n2:H.length + 2 ≠ G'.length + 2:=by omega
      have n3:p.2.o ≠ H.length + 1:=by omega
      have n4:H.length + 1 ≠ G'.length + 2:=by omega
      have n5:p.2.o ≠ H.length + 2:=by omega
      have n6:p.2.o ≠ q:=by rintro e; rw [e,h7] at s2; cases s2
      have n7:H.length + 2 ≠ q:=by omega
      have n8:H.length + 2 ≠ G'.length:=by omega
      have n9:p.2.o ≠ G'.length:=by omega
      have nA:H.length + 1 ≠ q:=by omega
      have nB:H.length + 1 ≠ G'.length:=by omega
      have nC:q ≠ G'.length + 2:=by omega
      have nZ:¬ H.length = G'.length:=by omega
      simp +decide [QBB,QCz,nZ,Ne.symm nZ,n1,n3,n6,n7,n8,n9,nA,nB,nC,Ne.symm n1,Ne.symm n3,Ne.symm n4,Ne.symm n6,Ne.symm n7,Ne.symm n8,Ne.symm n9,Ne.symm nA,Ne.symm nB,Ne.symm nC]
     have hsub:SubAt (G' ++ [.map (smK AV.bool p.2.s.seen),.unborn,.box 89 [QA5 p.2.s.f,.map G'.length,.nils,.bool p.2.s.behind]]) (G'.length + 2) [G'.length,G'.length + 1,G'.length + 2] p.2.s:=⟨.map G'.length,.nils,by simp,pb _ _ _,.inr ⟨G'.length,by simp,rfl,p0 _ _ _⟩,.inl ⟨rfl,hw⟩,fun _=>rfl,s6⟩
     refine QAG (S:=List AObj × QAy SbL × List Nat) (_,_,vis ++ [j]) (fin _ _ _ hsub) dec (Wk.jk ?_)
     simp +decide -dsimp -implicitDefEqProofs [go_sem,jkT]
    ·have mr:=apG ((g0 _ (hfp r hr)).trans h8)
     have hUr:∀ x y z,(G' ++ [x,y,z]).set r (.reg 39 14 (F.map QAU)) = G' ++ [x,y,z]:=fun x y z=>QCe (mr _)
     have lr:=hfp r hr
     refine QAu [r,G'.length + 1] (QTm F (by rw [hF]; omega)) rfl rfl (by simp; omega) (by simp [QBt,ren]) ?_ ?_
     ·intro x hx
      simp [QBP,QBh] at hx
      rcases hx with rfl | rfl
      ·exact mr _
      ·exact pa _ _ _
     simp +decide -dsimp -implicitDefEqProofs [go_sem,QBP,ren,QBh,hUr,m2,m4,nb,ta,tb,hks,hset]
     refine ⟨?_,?_⟩
     ·clear fin hset
      have n1:p.2.o ≠ G'.length + 2:=by omega
      have n2:H.length + 2 ≠ G'.length + 2:=by omega
      have n3:p.2.o ≠ H.length + 1:=by omega
      have n4:H.length + 1 ≠ G'.length + 2:=by omega
      have n5:p.2.o ≠ H.length + 2:=by omega
      have n6:p.2.o ≠ q:=by rintro e; rw [e,h7] at s2; cases s2
      have n7:H.length + 2 ≠ q:=by omega
      have n8:H.length + 2 ≠ G'.length:=by omega
      have n9:p.2.o ≠ G'.length:=by omega
      have nA:H.length + 1 ≠ q:=by omega
      have nB:H.length + 1 ≠ G'.length:=by omega
      have nC:q ≠ G'.length + 2:=by omega
      have m1:p.2.o ≠ r:=by rintro e; rw [e,h8] at s2; cases s2
      have m2:q ≠ r:=by rintro e; rw [e,h8] at h7; cases h7
      have m3:q ≠ G'.length + 1:=by omega
      have m4:r ≠ G'.length:=by omega
      have m5:r ≠ G'.length + 2:=by omega
      have m6:H.length + 2 ≠ r:=by omega
      have m7:H.length + 1 ≠ r:=by omega
      have m8:H.length + 2 ≠ G'.length + 1:=by omega
      have m9:H.length + 1 ≠ G'.length + 1:=by omega
      have mA:p.2.o ≠ G'.length + 1:=by omega
      have nZ:¬ H.length = G'.length:=by omega
      simp +decide [QBB,QCz,nZ,Ne.symm nZ,n1,n3,n6,n7,n8,n9,nA,nB,nC,m1,m2,m3,m4,m5,m6,m7,m8,mA,Ne.symm n1,Ne.symm n3,Ne.symm n4,Ne.symm n6,Ne.symm n7,Ne.symm n8,Ne.symm n9,Ne.symm nA,Ne.symm nB,Ne.symm nC,Ne.symm m1,Ne.symm m2,Ne.symm m3,Ne.symm m4,Ne.symm m5,Ne.symm m6,Ne.symm m7,Ne.symm mA]
     have hsub:SubAt (G' ++ [.map (smK AV.bool p.2.s.seen),.reg 39 14 (F.map QAU),.box 89 [QA5 p.2.s.f,.map G'.length,(.own (G'.length + 1) F.length),.bool p.2.s.behind]]) (G'.length + 2) [G'.length,G'.length + 1,G'.length + 2] p.2.s:=⟨.map G'.length,(.own (G'.length + 1) F.length),by simp,pb _ _ _,.inr ⟨G'.length,by simp,rfl,p0 _ _ _⟩,.inr ⟨G'.length + 1,F,by simp,pa _ _ _,.inl ⟨rfl,hF⟩⟩,fun e=>absurd (s5 e) (by simp),s6⟩
     refine QAG (S:=List AObj × QAy SbL × List Nat) (_,_,vis ++ [j]) (fin _ _ _ hsub) dec (Wk.jk ?_)
     simp +decide -dsimp -implicitDefEqProofs [go_sem,jkT]
    ·have hjw:jw ≤ 100000:=by
      have:jw = p.2.s.wait.length:=by rw [← hF,List.length_drop]; omega
      omega
     have mr:=apG ((g0 _ (hfp r hr)).trans h8)
     have hUr:∀ x y z,(G' ++ [x,y,z]).set r (.reg 39 14 (F.map QAU)) = G' ++ [x,y,z]:=fun x y z=>QCe (mr _)
     have lr:=hfp r hr
     refine QAu [r,G'.length + 1] (QTn F lw jw (hjw) ew) rfl rfl (by simp; omega) (by simp [QBt,ren]) ?_ ?_
     ·intro x hx
      simp [QBP,QBh] at hx
      rcases hx with rfl | rfl
      ·exact mr _
      ·exact pa _ _ _
     simp +decide -dsimp -implicitDefEqProofs [go_sem,QBP,ren,QBh,hUr,m2,m4,nb,ta,tb,hks,hset]
     refine ⟨?_,?_⟩
     ·clear fin hset
      have n1:p.2.o ≠ G'.length + 2:=by omega
      have n2:H.length + 2 ≠ G'.length + 2:=by omega
      have n3:p.2.o ≠ H.length + 1:=by omega
      have n4:H.length + 1 ≠ G'.length + 2:=by omega
      have n5:p.2.o ≠ H.length + 2:=by omega
      have n6:p.2.o ≠ q:=by rintro e; rw [e,h7] at s2; cases s2
      have n7:H.length + 2 ≠ q:=by omega
      have n8:H.length + 2 ≠ G'.length:=by omega
      have n9:p.2.o ≠ G'.length:=by omega
      have nA:H.length + 1 ≠ q:=by omega
      have nB:H.length + 1 ≠ G'.length:=by omega
      have nC:q ≠ G'.length + 2:=by omega
      have m1:p.2.o ≠ r:=by rintro e; rw [e,h8] at s2; cases s2
      have m2:q ≠ r:=by rintro e; rw [e,h8] at h7; cases h7
      have m3:q ≠ G'.length + 1:=by omega
      have m4:r ≠ G'.length:=by omega
      have m5:r ≠ G'.length + 2:=by omega
      have m6:H.length + 2 ≠ r:=by omega
      have m7:H.length + 1 ≠ r:=by omega
      have m8:H.length + 2 ≠ G'.length + 1:=by omega
      have m9:H.length + 1 ≠ G'.length + 1:=by omega
      have mA:p.2.o ≠ G'.length + 1:=by omega
      have nZ:¬ H.length = G'.length:=by omega
      simp +decide [QBB,QCz,nZ,Ne.symm nZ,n1,n3,n6,n7,n8,n9,nA,nB,nC,m1,m2,m3,m4,m5,m6,m7,m8,mA,Ne.symm n1,Ne.symm n3,Ne.symm n4,Ne.symm n6,Ne.symm n7,Ne.symm n8,Ne.symm n9,Ne.symm nA,Ne.symm nB,Ne.symm nC,Ne.symm m1,Ne.symm m2,Ne.symm m3,Ne.symm m4,Ne.symm m5,Ne.symm m6,Ne.symm m7,Ne.symm mA]
     have hrd:QBL [r,G'.length + 1] (List.drop lw (List.map QAU F)) = (F.drop lw).map QAU:=by rw [← List.map_drop,QBh]
     rw [hrd]
     have hsub:SubAt (G' ++ [.map (smK AV.bool p.2.s.seen),.reg 39 14 ((F.drop lw).map QAU),.box 89 [QA5 p.2.s.f,.map G'.length,(.own (G'.length + 1) jw),.bool p.2.s.behind]]) (G'.length + 2) [G'.length,G'.length + 1,G'.length + 2] p.2.s:=⟨.map G'.length,(.own (G'.length + 1) jw),by simp,pb _ _ _,.inr ⟨G'.length,by simp,rfl,p0 _ _ _⟩,.inr ⟨G'.length + 1,F.drop lw,by simp,pa _ _ _,.inl ⟨by rw [List.length_drop,show F.length - lw = jw by omega],hF⟩⟩,fun e=>absurd (s5 e) (by simp),s6⟩
     refine QAG (S:=List AObj × QAy SbL × List Nat) (_,_,vis ++ [j]) (fin _ _ _ hsub) dec (Wk.jk ?_)
     simp +decide -dsimp -implicitDefEqProofs [go_sem,jkT]
 ·rintro G hG
  refine QAD ?_
  unfold QTo
  refine gs ?_
  refine QAj _ _ (Wk.refl _ _) ?_
  simp +decide -dsimp -implicitDefEqProofs [go_sem,QBG]
  exact hG
end Go.Ab
