/- The bus: View. -/
import Derived.Test.YtneghlianebffaaGreatDoorKN
namespace Go.Ab
open Go Go.Proofs
set_option maxRecDepth 20000
structure VisK (m:QAy Bool) (vis:List Nat) (ks:List Txt):Prop where
 nd:vis.Nodup
 lt:∀ j ∈ vis,j < m.length
 mem:∀ k,k ∈ ks ↔ ∃ j,j ∈ vis ∧ m[j]? = some (some (k,true))
 kn:ks.Nodup
theorem VisK.step {m:QAy Bool} {vis:List Nat} {ks:List Txt} (h:VisK m vis ks) (ho:QBI m) {j:Nat} {k:Txt} {b:Bool} (hj:m[j]? = some (some (k,b))) (hn:j ∉ vis):VisK m (vis ++ [j]) (if b then ks ++ [k] else ks):=by
 refine ⟨?_,fun i hi=>?_,fun k'=>?_,?_⟩
 ·rw [List.nodup_append]
  refine ⟨h.nd,by simp,fun a ha b hb=>?_⟩
  simp at hb; subst hb
  exact fun e=>hn (e ▸ ha)
 ·rcases List.mem_append.1 hi with hi | hi
  ·exact h.lt i hi
  ·simp at hi; subst hi; exact (List.getElem?_eq_some_iff.1 hj).1
 ·cases b with
  | true=>
   rw [if_pos rfl,List.mem_append,List.mem_singleton,h.mem]
   constructor
   ·rintro (⟨i,h1,h2⟩ | rfl)
    ·exact ⟨i,List.mem_append_left _ h1,h2⟩
    ·exact ⟨j,by simp,hj⟩
   ·rintro ⟨i,h1,h2⟩
    rcases List.mem_append.1 h1 with h1 | h1
    ·exact .inl ⟨i,h1,h2⟩
    ·simp at h1; subst h1
     rw [hj] at h2
     simp only [Option.some.injEq,Prod.mk.injEq] at h2
     exact .inr h2.1.symm
  | false=>
   rw [if_neg (by simp),h.mem]
   constructor
   ·rintro ⟨i,h1,h2⟩
    exact ⟨i,List.mem_append_left _ h1,h2⟩
   ·rintro ⟨i,h1,h2⟩
    rcases List.mem_append.1 h1 with h1 | h1
    ·exact ⟨i,h1,h2⟩
    ·simp at h1; subst h1
     rw [hj] at h2
     simp at h2
 ·cases b with
  | true=>
   rw [if_pos rfl,List.nodup_append]
   refine ⟨h.kn,by simp,fun a ha c hc=>?_⟩
   simp at hc; subst hc
   rintro rfl
   obtain ⟨i,h1,h2⟩:=(h.mem a).1 ha
   exact hn (QPF ho h2 hj ▸ h1)
  | false=>rw [if_neg (by simp)]; exact h.kn
theorem VisK.all {m:QAy Bool} {vis:List Nat} {ks:List Txt} (h:VisK m vis ks) (ho:QBI m) (hA:∀ (j:Nat) (p:Txt × Bool),m[j]? = some (some p) → j ∈ vis) (k:Txt):k ∈ ks ↔ QAo k m = some true:=by
 rw [h.mem]
 constructor
 ·rintro ⟨j,_,hj⟩; exact QFF ho hj
 ·intro hg
  obtain ⟨j,hj⟩:=QHf hg
  exact ⟨j,hA j _ hj,hj⟩
theorem QH5:∀ {l U:List Txt},l.Nodup → (∀ x ∈ l,x ∈ U) → l.length ≤ U.length
 | [],_,_,_=>Nat.zero_le _
 | x :: r,U,h,hs=>by
  rw [List.nodup_cons] at h
  have hx:=hs x (by simp)
  have:=QH5 (l:=r) (U:=U.erase x) h.2 fun y hy=>(List.mem_erase_of_ne (fun e=>h.1 (by rw [← e]; exact hy))).2 (hs y (by simp [hy]))
  rw [List.length_erase_of_mem hx] at this
  have h0:0 < U.length:=List.length_pos_of_mem hx
  rw [List.length_cons]; omega
section
variable {H:List AObj} {ob ro so:Nat} {W:RBus} {n:Nat} {K:Nat → Prop} {B:Bus}
theorem QN0 (h:Bx H ob ro so W n K B) {s:Sb} {t:RSb} (hl:QDX B.ready s t) (hb:s.behind = false) {ks:List Txt} (hk:∀ k,k ∈ ks ↔ QAo k s.seen = some true):(∀ x ∈ ks,QAf x = true) ∧ (ks.Nodup → ks.length ≤ W.ready.length) ∧
  ∀ L:List Txt,L.Perm ks → (L.Pairwise fun a b=>ltP a b = true) → L = (W.ready.filter fun r=>decide (r.path ∈ t.sees)).map (·.path):=by
 have hm:∀ k,k ∈ ks ↔ ∃ r,r ∈ W.ready ∧ r.path = k ∧ k ∈ t.sees:=fun k=>by
  rw [hk]
  constructor
  ·intro h1
   obtain ⟨r,h2,_⟩:=(hl.wa hb k).1 h1
   obtain ⟨rfl,_⟩:=h.cp.key k r h2
   exact ⟨r,(h.cp.mem r).2 h2,rfl,(hl.se hb _).1 h1⟩
  ·rintro ⟨r,_,rfl,h3⟩
   exact (hl.se hb _).2 h3
 refine ⟨fun x hx=>?_,fun hn=>?_,fun L hp ha=>?_⟩
 ·obtain ⟨r,h1,rfl,_⟩:=(hm x).1 hx
  exact QAm (h.cp.sound h1)
 ·have:ks.length ≤ (W.ready.map (·.path)).length:=QH5 hn fun x hx=>by
   obtain ⟨r,h1,rfl,_⟩:=(hm x).1 hx
   exact List.mem_map.2 ⟨r,h1,rfl⟩
  simpa using this
 ·refine QMX (fun a b h=>QJ5 h) ha (List.pairwise_map.2 (h.cp.asc.sublist List.filter_sublist)) fun k=>?_
  rw [hp.mem_iff,hm,List.mem_map]
  constructor
  ·rintro ⟨r,h1,rfl,h3⟩
   exact ⟨r,List.mem_filter.2 ⟨h1,decide_eq_true h3⟩,rfl⟩
  ·rintro ⟨r,h1,rfl⟩
   rw [List.mem_filter] at h1
   exact ⟨r,h1.1,rfl,of_decide_eq_true h1.2⟩
theorem QQ8 (h:Bx H ob ro so W n K B) {s:Sb} {t:RSb} (hl:QDX B.ready s t) (hb:s.behind = false) {ks:List Txt} (hn:ks.Nodup) (hk:∀ k ∈ ks,QAo k s.seen = some true):ks.length ≤ W.ready.length:=by
 have:ks.length ≤ (W.ready.map (·.path)).length:=QH5 hn fun x hx=>by
  obtain ⟨r,h2,_⟩:=(hl.wa hb x).1 (hk x hx)
  obtain ⟨rfl,_⟩:=h.cp.key x r h2
  exact List.mem_map.2 ⟨r,(h.cp.mem r).2 h2,rfl⟩
 simpa using this
def vwS (R:Nat) (L:List Ntc) (s:Nat × List AObj):St:=⟨tmps 62 [(8,.own R s.1),(30,.imm (L.map QAU)),(31,.int .i64 L.length),(32,.int .i64 s.1)],s.2⟩
def vwI (H:List AObj) (R:Nat) (L:List Ntc) (s:Nat × List AObj):Prop:=s.1 ≤ L.length ∧ H.length ≤ R ∧ (∃ lit,s.2 = H ++ lit) ∧ s.2[R]? = some (.reg 9 1 ((L.take s.1).map fun n=>QAT n.rc.path))
def vxS (H:List AObj) (q n:Nat) (s:List Nat × List Txt):St:=⟨tmps 62 [(8,.own (H.length + 1) s.2.length),(48,.it H.length)],H ++ [.iter q n s.1,.reg 9 1 (s.2.map QAT)]⟩
theorem QO6 (h:Bx H ob ro so W n K B) (hn:n ≤ 1000) (name:Txt):ACallsR Tryz.prog 36 [.ptr ob 0,.str name] H (fun v G=>v = .tup [.imm ((W.viewR name).1.map QAT),.int .i64 (W.viewR name).2] ∧ bxR H ob ro so W n K G):=by
 have b1:=h.at_.box
 have b3:=h.at_.sbs
 have ap:∀ {i:Nat} {x:AObj} (l:List AObj),H[i]? = some x → (H ++ l)[i]? = some x:=fun l hx=>by
  rw [List.getElem?_append_left (List.getElem?_eq_some_iff.1 hx).1]; exact hx
 have hk:=QBy (fun x:SbL=>AV.ptr x.o 0) name B.subs
 have hf:=QCd (fun x:SbL=>AV.ptr x.o 0) name B.subs
 have hd:=QEZ name B.subs
 have fin:∀ lit,bxR H ob ro so W n K (H ++ lit):=fun lit=>h.same (QB6 h.at_ lit).2 (QB6 h.at_ lit).1
 refine QCn _ cqq ?_
 refine gS ?_
 unfold goE
 cases hg:QAo name B.subs with
 | none=>
  rw [hg] at hf hd
  have hw:=h.cp.noSub hd
  have e1:W.viewR name = ([],300):=by unfold RBus.viewR; rw [hw]
  rw [e1]
  refine QAD ?_
  simp +decide -dsimp -implicitDefEqProofs [go_sem,b1,b3,hk,hf]
  refine QAj _ _ (Wk.nilI 4 rfl) ?_
  simp +decide -dsimp -implicitDefEqProofs [go_sem,QBG]
  have:=fin []
  rwa [List.append_nil] at this
 | some x=>
  rw [hg] at hf hd
  obtain ⟨t,hw,hl⟩:=h.cp.theSub hd
  obtain ⟨j,hj⟩:=QHf hg
  obtain ⟨sv,wv,s1,s2,s3,s4,s5,s6⟩:=h.at_.sub j _ hj
  have hflx:=h.okF j _ hj
  simp only at s1 s2 s3 s4 s5 s6 hflx
  have hbb:=hl.b
  have hff:=hl.f
  refine QBU ?_
  simp +decide -dsimp -implicitDefEqProofs [go_sem,b1,b3,hk,hf]
  refine gS ?_
  refine gS ?_
  unfold goE
  cases hb:x.s.behind with
  | true=>
   rw [hb] at s2 hbb
   have e1:W.viewR name = ((QC9 B.last x.s.f W.ready).map (fun n=>n.rc.path),0):=by
    unfold RBus.viewR; rw [hw]
    simp only [← hbb,if_true,← hff,QC9,List.map_map]
    rfl
   rw [e1]
   refine QAD ?_
   simp +decide -dsimp -implicitDefEqProofs [go_sem,s2]
   refine QAS (QSr h.at_ (h.all hn) s2 hflx) ?_
   rintro _ G ⟨rfl,lit,rfl⟩
   have fl:(QC9 B.last x.s.f W.ready).length ≤ 1000:=Nat.le_trans (QK5 _ _ _) (Nat.le_trans h.wl hn)
   obtain ⟨L,hL⟩:∃ L,L = QC9 B.last x.s.f W.ready:=⟨_,rfl⟩
   rw [← hL] at fl ⊢
   refine gs ?_
   have hT0:vwI H (H ++ lit).length L (0,(H ++ lit) ++ [.reg 9 1 []]):=⟨Nat.zero_le _,by simp,⟨lit ++ [.reg 9 1 []],by simp⟩,by show ((H ++ lit) ++ _)[(H ++ lit).length]? = _; rw [List.getElem?_append_right (Nat.le_refl _)]; simp⟩
   refine QBH (S:=Nat × List AObj) (vwS (H ++ lit).length L) (fun s=>L.length - s.1) (vwI H (H ++ lit).length L) _ hT0 ((Wk.nilT 8 9 1 rfl (by simp)).trans (Wk.jk ?_)) ?_
   ·simp +decide -dsimp -implicitDefEqProofs [go_sem,jkT]
   generalize (H ++ lit).length = R
   rintro ⟨i,G⟩ ⟨hi,hR,⟨lit,hG⟩,hreg⟩
   simp only at hi hG hreg
   unfold vwS
   simp only
   obtain ⟨P,hP⟩:∃ P,P = (L.take i).map fun n=>QAT n.rc.path:=⟨_,rfl⟩
   have hPl:P.length = i:=by rw [hP,List.length_map,List.length_take]; omega
   rw [← hP] at hreg
   by_cases hlt:i < L.length
   ·have w:IntKind.i64.wrap ((i:Int) + 1) = i + 1:=w64 (by omega) (by omega)
    have hrow:=QB4 L[i]
    have q3:∀ l',(G ++ l')[R]? = some (.reg 9 1 P):=fun l'=>by
     rw [List.getElem?_append_left (List.getElem?_eq_some_iff.1 hreg).1]; exact hreg
    have lR:=(List.getElem?_eq_some_iff.1 hreg).1
    have hst:P ++ [[AV.str L[i].rc.path]] = (L.take (i + 1)).map fun n=>QAT n.rc.path:=by
     rw [hP,List.take_succ_eq_append_getElem hlt,List.map_append]; rfl
    refine QAD ?_
    simp +decide -dsimp -implicitDefEqProofs [go_sem,hlt,hrow,q3,hPl,maxLen,w]
    refine ⟨⟨by omega,by omega⟩,?_⟩
    rw [if_pos (by omega),hst]
    refine QAG (S:=Nat × List AObj) (i + 1,(G ++ [AObj.box 39 (QAU L[i])]).set R (.reg 9 1 ((L.take (i + 1)).map fun n=>QAT n.rc.path))) ⟨hlt,hR,⟨(lit ++ [AObj.box 39 (QAU L[i])]).set (R - H.length) (.reg 9 1 ((L.take (i + 1)).map fun n=>QAT n.rc.path)),?_⟩,?_⟩ (by show L.length - (i + 1) < L.length - i; omega) (Wk.jk ?_)
    ·show (G ++ _).set R _ = _
     rw [hG,List.append_assoc]; exact QEz _ hR
    ·exact QBX (q3 _)
    ·simp +decide -dsimp -implicitDefEqProofs [go_sem,jkT]
   ·have e:i = L.length:=by omega
    subst e
    refine QAD ?_
    refine gs ?_
    rw [List.take_length] at hP
    refine QAj _ _ (Wk.frz (l:=P) 4 R hreg (by rw [hPl]; rfl)) ?_
    simp +decide -dsimp -implicitDefEqProofs [go_sem,QBG]
    refine ⟨by rw [hP]; rfl,?_⟩
    rw [hG,QEz _ hR]
    exact fin _
  | false=>
   rw [hb] at s2 hbb
   have e1:W.viewR name = ((W.ready.filter fun r=>decide (r.path ∈ t.sees)).map (·.path),0):=by
    unfold RBus.viewR; rw [hw]
    simp only [← hbb,Bool.false_eq_true,if_false]
   rw [e1]
   rcases s3 with ⟨e,_⟩ | ⟨q,hq,rfl,h7⟩
   ·rw [hb] at e; cases e
   have a7:=fun l=>ap l h7
   have hos:=hl.os
   simp only at hos
   have i1:∀ vis ks,(H ++ [.iter q x.s.seen.length vis,AObj.reg 9 1 ks])[H.length]? = some (.iter q x.s.seen.length vis):=fun vis ks=>by simp
   have i2:∀ a b:AObj,(H ++ [a,b])[H.length + 1]? = some b:=fun a b=>by rw [List.getElem?_append_right (by omega)]; simp
   have st1:∀ a b c:AObj,(H ++ [a,b]).set H.length c = H ++ [c,b]:=fun a b c=>by rw [List.set_append,if_neg (by omega)]; simp
   have st2:∀ a b c:AObj,(H ++ [a,b]).set (H.length + 1) c = H ++ [a,c]:=fun a b c=>by rw [List.set_append,if_neg (by omega)]; simp
   refine QBU ?_
   simp +decide -dsimp -implicitDefEqProofs [go_sem,s2]
   refine QAD ?_
   simp +decide -dsimp -implicitDefEqProofs [go_sem,s2,h7]
   refine QBH (S:=List Nat × List Txt) (vxS H q x.s.seen.length) (fun s=>x.s.seen.length - s.1.length) (fun s=>VisK x.s.seen s.1 s.2) ([],[]) ⟨by simp,by simp,by simp,by simp⟩ ((Wk.nilT 8 9 1 rfl (by simp)).trans ?_) ?_
   ·have e:(H ++ [AObj.iter q x.s.seen.length []]).length = H.length + 1:=by simp
    rw [e,List.append_assoc]
    refine Wk.jk ?_
    simp +decide -dsimp -implicitDefEqProofs [go_sem,jkT]
   rintro ⟨vis,ks⟩ hV
   simp only at hV
   unfold vxS
   simp only
   refine QAD ?_
   refine gs ?_
   refine QGc (i:=H.length) (m:=q) (kvs:=smK AV.bool x.s.seen) (i1 _ _) (a7 _) (QDh _ _).symm (fun hA=>?_) (fun jj kk y hjj hgg hnj=>?_)
   ·have hall:=hV.all hos (fun j p hj=>hA j _ (QIh hj).1 rfl)
    obtain ⟨p1,p2,p3⟩:=QN0 h hl hb hall
    have hkl:ks.length ≤ 1000:=Nat.le_trans (p2 hV.kn) (Nat.le_trans h.wl hn)
    have cs:=QJZ ks (by omega) p1 hV.kn
    refine gs ?_
    refine QBc [H.length + 1] cs rfl (fun v G ⟨_,_,_,_,hG⟩=>by rw [hG]; rfl) (by simp) (by simp +decide -dsimp -implicitDefEqProofs [go_sem]) (by simp +decide -dsimp -implicitDefEqProofs [go_sem]) ?_
    rintro _ _ ⟨rfl,L',r1,r2,rfl⟩
    obtain rfl:=p3 L' r1 r2
    have hll:=r1.length_eq
    obtain ⟨LL,hLL⟩:∃ LL,LL = (W.ready.filter fun r=>decide (r.path ∈ t.sees)).map (·.path):=⟨_,rfl⟩
    rw [← hLL] at hll ⊢
    simp +decide -dsimp -implicitDefEqProofs [go_sem,st2]
    refine QAj _ _ (Wk.frz (l:=LL.map QAT) 4 (H.length + 1) (i2 _ _) (by rw [List.length_map,hll]; rfl)) ?_
    simp +decide -dsimp -implicitDefEqProofs [go_sem,QBG]
    exact ⟨by rw [hLL,List.map_map],fin _⟩
   ·obtain ⟨p,hjp,rfl,rfl⟩:=QLg hjj hgg
    obtain ⟨pk,pb⟩:=p
    have hst:=hV.step hos hjp hnj
    have hj':(smK AV.bool x.s.seen)[jj]? = some (.str pk,.bool pb):=hjj
    have hkl:ks.length ≤ 1000:=Nat.le_trans (QQ8 h hl hb hV.kn fun k hk=>by obtain ⟨i,_,hi⟩:=(hV.mem k).1 hk; exact QFF hos hi) (Nat.le_trans h.wl hn)
    have hvl:x.s.seen.length - (vis ++ [jj]).length < x.s.seen.length - vis.length:=by
     have h1:=QEu hV.nd hV.lt (List.getElem?_eq_some_iff.1 hjp).1 hnj
     rw [List.length_append,List.length_cons,List.length_nil] at h1 ⊢
     omega
    rw [st1]
    cases pb with
    | true=>
     simp +decide -dsimp -implicitDefEqProofs [go_sem,a7,hj',QB7,maxLen]
     refine ⟨⟨by omega,by omega⟩,?_⟩
     have ha:ks.map QAT ++ [[AV.str pk]] = (ks ++ [pk]).map QAT:=by simp [QAT]
     rw [ha]
     refine QAG (S:=List Nat × List Txt) (vis ++ [jj],ks ++ [pk]) hst hvl (Wk.jk ?_)
     simp +decide -dsimp -implicitDefEqProofs [go_sem,jkT]
    | false=>
     simp +decide -dsimp -implicitDefEqProofs [go_sem,a7,hj',QB7]
     refine QAG (S:=List Nat × List Txt) (vis ++ [jj],ks) hst hvl (Wk.jk ?_)
     simp +decide -dsimp -implicitDefEqProofs [go_sem,jkT]
end
end Go.Ab
