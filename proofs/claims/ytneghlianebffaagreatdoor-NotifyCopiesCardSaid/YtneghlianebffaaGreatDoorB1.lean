/- The bus: sending a notice. -/
import Derived.Test.YtneghlianebffaaGreatDoorOX
import Derived.Test.YtneghlianebffaaGreatDoorG2
import Derived.Test.YtneghlianebffaaGreatDoorA5
import Derived.Test.YtneghlianebffaaGreatDoorW3
import Derived.Test.YtneghlianebffaaGreatDoorW2
namespace Go.Ab
open Go Go.Proofs
set_option maxRecDepth 20000
structure Ntc where
 seq:Int
 kind:Int
 rc:Rcd
def QAU (n:Ntc):List AV:=.int .i64 n.seq :: .int .i64 n.kind :: QAR n.rc
theorem QKg (k:Nat) (n:Ntc):QAB k (QAU n) = true:=by simp [QAU,QAB,QAE,QBr]
theorem QD1 (is:List Nat) (n:Ntc):QBt is (QAU n) = QAU n:=by simp [QAU,QBt,ren,QD9]
theorem QA8 (k:Nat) (l:List Ntc):QAb k (l.map QAU) = true:=QAn fun x _=>QKg k x
theorem QBh (is:List Nat):∀ l:List Ntc,QBL is (l.map QAU) = l.map QAU
 | []=>rfl
 | x :: l=>by rw [List.map_cons,QBL,QD1,QBh is l]
theorem QNo (k:Nat) (m:QAy Bool):∀ a b:AV,(a,b) ∈ smK AV.bool m → QAE k a = true ∧ QAE k b = true:=fun a b h=>by
 obtain ⟨x,_,hx⟩:=List.mem_map.1 h
 cases x with
 | none=>cases hx; exact ⟨rfl,rfl⟩
 | some p=>cases hx; exact ⟨rfl,rfl⟩
theorem QLv (w sv wv:AV) (n:Ntc) (hw:QAE 1 w = true) (hs:QAE 1 sv = true) (hv:QAE 1 wv = true):ACalls Tryz.prog 48 [.ptr 0 0,.agg (QAU n)] [.box 89 [w,sv,wv,.bool true]] (.tup []) [.box 89 [w,sv,wv,.bool true]]:=by
 have e:QAU n = [.int .i64 n.seq,.int .i64 n.kind,.str n.rc.path,.int .i64 n.rc.index,.imm (n.rc.props.map QBK),.imm (n.rc.tags.map QAT),.imm (n.rc.links.map QAT),.imm (n.rc.run.map QAT),.imm (n.rc.load.map QAT),.str n.rc.name,.int .i64 n.rc.prio,.str n.rc.owner,.str n.rc.group,.int .i64 n.rc.mode]:=rfl
 refine QAH c48_ok rfl ?_
 unfold c48
 rw [e]
 simp +decide -dsimp -implicitDefEqProofs [go_sem,hw,hs,hv]
theorem QKh (w wv:AV) (m:QAy Bool) (n:Ntc) (hw:QAE 2 w = true) (hv:QAE 2 wv = true):ACalls Tryz.prog 48 [.ptr 0 0,.agg (QAU n)] [.box 89 [w,.map 1,wv,.bool true],.map (smK AV.bool m)] (.tup []) [.box 89 [w,.map 1,wv,.bool true],.map (smK AV.bool m)]:=by
 have e:QAU n = [.int .i64 n.seq,.int .i64 n.kind,.str n.rc.path,.int .i64 n.rc.index,.imm (n.rc.props.map QBK),.imm (n.rc.tags.map QAT),.imm (n.rc.links.map QAT),.imm (n.rc.run.map QAT),.imm (n.rc.load.map QAT),.str n.rc.name,.int .i64 n.rc.prio,.str n.rc.owner,.str n.rc.group,.int .i64 n.rc.mode]:=rfl
 have hbc:=fun k=>QNo k m
 generalize smK AV.bool m = M at hbc ⊢
 refine QAH c48_ok rfl ?_
 unfold c48
 rw [e]
 simp +decide -dsimp -implicitDefEqProofs [go_sem,hw,hv]
 first
  | done
  | exact fun a b=>hbc 2 a b
theorem QBz (is:List Nat):∀ m:QAy Bool,QEw is (smK AV.bool m) = smK AV.bool m
 | []=>rfl
 | none :: m=>by
  have:=QBz is m
  unfold smK at this ⊢
  rw [List.map_cons,QEw,this]; rfl
 | some p :: m=>by
  have:=QBz is m
  unfold smK at this ⊢
  rw [List.map_cons,QEw,this]; rfl
theorem hidB:∀ j,j < 2 → ([0,1,3]:List Nat)[j]? = some j:=fun j hj=>by
 cases j with
 | zero=>rfl
 | succ j=>cases j with
  | zero=>rfl
  | succ j=>omega
theorem hniB {a b c:AObj} {j m s:Nat} {l:List Nat} (hj:j < 2) (h:[a,b,c][j]? = some (.iter m s l)):a = .iter m s l ∨ b = .iter m s l:=by
 cases j with
 | zero=>left; simpa using h
 | succ j=>cases j with
  | zero=>right; simpa using h
  | succ j=>omega
theorem QVg (w:AV) (m:QAy Bool) (n:Ntc) (_hw:∀ k,QAE k w = true) (hren:∀ is,ren is w = w):ACallsR Tryz.prog 48 [.ptr 0 0,.agg (QAU n)] [.box 89 [w,.map 1,.nils,.bool false],.map (smK AV.bool m)]
  (fun v G=>v = .tup [] ∧ G = [.box 89 [w,.map 1,.own 2 1,.bool false],.map (smK AV.bool (QBT n.rc.path (decide (n.kind = 1)) m)),.reg 39 14 [QAU n]]):=by
 have e:QAU n = [.int .i64 n.seq,.int .i64 n.kind,.str n.rc.path,.int .i64 n.rc.index,.imm (n.rc.props.map QBK),.imm (n.rc.tags.map QAT),.imm (n.rc.links.map QAT),.imm (n.rc.run.map QAT),.imm (n.rc.load.map QAT),.str n.rc.name,.int .i64 n.rc.prio,.str n.rc.owner,.str n.rc.group,.int .i64 n.rc.mode]:=rfl
 have hk:=fun k=>QBy AV.bool k m
 have hset:QCt (.str n.rc.path) (.bool (decide (n.kind = 1))) (smK AV.bool m) = smK AV.bool (QBT n.rc.path (decide (n.kind = 1)) m):=QDv _ _ _ _
 have hb:(n.kind == 1) = decide (n.kind = 1):=rfl
 refine QDd _ c48_ok ?_
 unfold c48
 rw [e]
 simp +decide -dsimp -implicitDefEqProofs [go_sem,hk,maxLen,hb,hset]
 refine QAj (List.replicate 40 .junk) [.box 89 [w,.map 1,.own 2 1,.bool false],.map (smK AV.bool (QBT n.rc.path (decide (n.kind = 1)) m)),.reg 39 14 [QAU n]] (Wk.ren [0,1,3] (by decide) rfl (by decide) hidB (fun j m s l hj h=>(hniB hj h).elim (fun h=>by cases h) (fun h=>by cases h)) ?_ (by simp +decide [rnT])) ?_
 ·rw [e]
  simp +decide -dsimp -implicitDefEqProofs [go_sem,hren,QBz,QBL,QBt,ren,QEq,QCU]
 ·rw [e]
  simp +decide -dsimp -implicitDefEqProofs [go_sem,QBG]
theorem QVh (w:AV) (m:QAy Bool) (L:List (List AV)) (n:Ntc) (hw:∀ k,QAE k w = true) (hL:∀ k,QAb k L = true) (hl:L.length ≤ 64):ACalls Tryz.prog 48 [.ptr 0 0,.agg (QAU n)] [.box 89 [w,.map 1,.own 2 L.length,.bool false],.map (smK AV.bool m),.reg 39 14 L]
  (.tup []) [.box 89 [w,.map 1,if 64 < L.length + 1 then .nils else .own 2 (L.length + 1),.bool (decide (64 < L.length + 1))],.map (smK AV.bool (QBT n.rc.path (decide (n.kind = 1)) m)),.reg 39 14 (L ++ [QAU n])]:=by
 have e:QAU n = [.int .i64 n.seq,.int .i64 n.kind,.str n.rc.path,.int .i64 n.rc.index,.imm (n.rc.props.map QBK),.imm (n.rc.tags.map QAT),.imm (n.rc.links.map QAT),.imm (n.rc.run.map QAT),.imm (n.rc.load.map QAT),.str n.rc.name,.int .i64 n.rc.prio,.str n.rc.owner,.str n.rc.group,.int .i64 n.rc.mode]:=rfl
 have hk:=fun k=>QBy AV.bool k m
 have hset:QCt (.str n.rc.path) (.bool (decide (n.kind = 1))) (smK AV.bool m) = smK AV.bool (QBT n.rc.path (decide (n.kind = 1)) m):=QDv _ _ _ _
 have hb:(n.kind == 1) = decide (n.kind = 1):=rfl
 have hbc:=fun k=>QNo k (QBT n.rc.path (decide (n.kind = 1)) m)
 generalize smK AV.bool (QBT n.rc.path (decide (n.kind = 1)) m) = M at hset hbc ⊢
 refine QAH c48_ok rfl ?_
 unfold c48
 rw [e]
 by_cases h:64 < L.length + 1
 ·have h':(64:Int) < (L.length:Int) + 1:=by omega
  simp +decide -dsimp -implicitDefEqProofs [go_sem,hk,maxLen,hb,hset,h',h]
  exact ⟨⟨by omega,by omega⟩,.inr (hw 3),fun a b=>hbc 3 a b,hL 3⟩
 ·have h':¬ (64:Int) < (L.length:Int) + 1:=by omega
  simp +decide -dsimp -implicitDefEqProofs [go_sem,hk,maxLen,hb,hset,h',h]
  exact ⟨⟨by omega,by omega⟩,.inr (hw 3),fun a b=>hbc 3 a b,hL 3⟩
end Go.Ab
namespace Go.Ab
open Go Go.Proofs
set_option maxRecDepth 20000
theorem hidC:∀ j,j < 3 → ([0,1,2,4]:List Nat)[j]? = some j:=fun j hj=>by
 cases j with
 | zero=>rfl
 | succ j=>cases j with
  | zero=>rfl
  | succ j=>cases j with
   | zero=>rfl
   | succ j=>omega
theorem hniC {a b c d:AObj} {j m s:Nat} {l:List Nat} (hj:j < 3) (h:[a,b,c,d][j]? = some (.iter m s l)):a = .iter m s l ∨ b = .iter m s l ∨ c = .iter m s l:=by
 cases j with
 | zero=>left; simpa using h
 | succ j=>cases j with
  | zero=>right; left; simpa using h
  | succ j=>cases j with
   | zero=>right; right; simpa using h
   | succ j=>omega
theorem QVi (w:AV) (m:QAy Bool) (L:List (List AV)) (lo j:Nat) (n:Ntc) (_hw:∀ k,QAE k w = true) (hren:∀ is,ren is w = w) (hLr:∀ is,QBL is (L.drop lo) = L.drop lo) (hl:lo + j = L.length) (hj:j + 1 ≤ 64):ACallsR Tryz.prog 48 [.ptr 0 0,.agg (QAU n)] [.box 89 [w,.map 1,.pre 2 lo j L.length,.bool false],.map (smK AV.bool m),.reg 39 14 L]
  (fun v G=>v = .tup [] ∧ G = [.box 89 [w,.map 1,.own 3 (j + 1),.bool false],.map (smK AV.bool (QBT n.rc.path (decide (n.kind = 1)) m)),.dead,.reg 39 14 (L.drop lo ++ [QAU n])]):=by
 have e:QAU n = [.int .i64 n.seq,.int .i64 n.kind,.str n.rc.path,.int .i64 n.rc.index,.imm (n.rc.props.map QBK),.imm (n.rc.tags.map QAT),.imm (n.rc.links.map QAT),.imm (n.rc.run.map QAT),.imm (n.rc.load.map QAT),.str n.rc.name,.int .i64 n.rc.prio,.str n.rc.owner,.str n.rc.group,.int .i64 n.rc.mode]:=rfl
 have hk:=fun k=>QBy AV.bool k m
 have hset:QCt (.str n.rc.path) (.bool (decide (n.kind = 1))) (smK AV.bool m) = smK AV.bool (QBT n.rc.path (decide (n.kind = 1)) m):=QDv _ _ _ _
 have hb:(n.kind == 1) = decide (n.kind = 1):=rfl
 have h':¬ (64:Int) < (j:Int) + 1:=by omega
 refine QDd _ c48_ok ?_
 unfold c48
 rw [e]
 simp +decide -dsimp -implicitDefEqProofs [go_sem,hk,maxLen,hb,hset,hl,h']
 refine ⟨⟨by omega,by omega⟩,by omega,?_⟩
 refine QAj (List.replicate 40 .junk) [.box 89 [w,.map 1,.own 3 (j + 1),.bool false],.map (smK AV.bool (QBT n.rc.path (decide (n.kind = 1)) m)),.dead,.reg 39 14 (L.drop lo ++ [QAU n])] (Wk.ren [0,1,2,4] (by decide) rfl (by decide) hidC (fun j m s l hj h=>(hniC hj h).elim (fun h=>by cases h) (fun h=>h.elim (fun h=>by cases h) (fun h=>by cases h))) ?_ (by simp +decide [rnT])) ?_
 ·rw [e]
  simp +decide -dsimp -implicitDefEqProofs [go_sem,hren,QBz,QBL,QBt,ren,QEq,QCU,hLr]
 ·rw [e]
  simp +decide -dsimp -implicitDefEqProofs [go_sem,QBG]
theorem QVj (w:AV) (m:QAy Bool) (L:List (List AV)) (lo j:Nat) (n:Ntc) (_hw:∀ k,QAE k w = true) (hren:∀ is,ren is w = w) (hLr:∀ is,QBL is (L.drop lo) = L.drop lo) (hl:lo + j = L.length) (hj:64 < j + 1) (hb':j ≤ 64):ACallsR Tryz.prog 48 [.ptr 0 0,.agg (QAU n)] [.box 89 [w,.map 1,.pre 2 lo j L.length,.bool false],.map (smK AV.bool m),.reg 39 14 L]
  (fun v G=>v = .tup [] ∧ G = [.box 89 [w,.map 1,.nils,.bool true],.map (smK AV.bool (QBT n.rc.path (decide (n.kind = 1)) m)),.dead,.reg 39 14 (L.drop lo ++ [QAU n])]):=by
 have e:QAU n = [.int .i64 n.seq,.int .i64 n.kind,.str n.rc.path,.int .i64 n.rc.index,.imm (n.rc.props.map QBK),.imm (n.rc.tags.map QAT),.imm (n.rc.links.map QAT),.imm (n.rc.run.map QAT),.imm (n.rc.load.map QAT),.str n.rc.name,.int .i64 n.rc.prio,.str n.rc.owner,.str n.rc.group,.int .i64 n.rc.mode]:=rfl
 have hk:=fun k=>QBy AV.bool k m
 have hset:QCt (.str n.rc.path) (.bool (decide (n.kind = 1))) (smK AV.bool m) = smK AV.bool (QBT n.rc.path (decide (n.kind = 1)) m):=QDv _ _ _ _
 have hb:(n.kind == 1) = decide (n.kind = 1):=rfl
 have h':(64:Int) < (j:Int) + 1:=by omega
 refine QDd _ c48_ok ?_
 unfold c48
 rw [e]
 simp +decide -dsimp -implicitDefEqProofs [go_sem,hk,maxLen,hb,hset,hl,h']
 refine ⟨⟨by omega,by omega⟩,by omega,?_⟩
 refine QAj (List.replicate 40 .junk) [.box 89 [w,.map 1,.nils,.bool true],.map (smK AV.bool (QBT n.rc.path (decide (n.kind = 1)) m)),.dead,.reg 39 14 (L.drop lo ++ [QAU n])] (Wk.ren [0,1,2,4] (by decide) rfl (by decide) hidC (fun j m s l hj h=>(hniC hj h).elim (fun h=>by cases h) (fun h=>h.elim (fun h=>by cases h) (fun h=>by cases h))) ?_ (by simp +decide [rnT])) ?_
 ·rw [e]
  simp +decide -dsimp -implicitDefEqProofs [go_sem,hren,QBz,QBL,QBt,ren,QEq,QCU,hLr]
 ·rw [e]
  simp +decide -dsimp -implicitDefEqProofs [go_sem,QBG]
end Go.Ab
namespace Go.Ab
open Go Go.Proofs
set_option maxRecDepth 20000
structure Sb where
 f:Flt
 seen:QAy Bool
 wait:List Ntc
 behind:Bool
def QYr (H:List AObj) (sv:AV) (fp:List Nat) (s:Sb):Prop:=(s.behind = true ∧ sv = .nilm) ∨ ∃ q,q ∈ fp ∧ sv = .map q ∧ H[q]? = some (.map (smK AV.bool s.seen))
def QLw (H:List AObj) (wv:AV) (fp:List Nat) (l:List Ntc):Prop:=(wv = .nils ∧ l = []) ∨ ∃ r F,r ∈ fp ∧ H[r]? = some (.reg 39 14 (F.map QAU)) ∧ ((wv = .own r F.length ∧ F = l) ∨ ∃ lo j,lo + j = F.length ∧ wv = .pre r lo j F.length ∧ F.drop lo = l)
def SubAt (H:List AObj) (o:Nat) (fp:List Nat) (s:Sb):Prop:=∃ sv wv,o ∈ fp ∧ H[o]? = some (.box 89 [QA5 s.f,sv,wv,.bool s.behind]) ∧ QYr H sv fp s ∧ QLw H wv fp s.wait ∧ (s.behind = true → wv = .nils) ∧ s.wait.length ≤ 64
theorem SubAt.keep {H H':List AObj} {o:Nat} {fp fp':List Nat} {s:Sb} (h:SubAt H o fp s) (hf:∀ i ∈ fp,i ∈ fp') (hH:∀ i ∈ fp,H'[i]? = H[i]?):SubAt H' o fp' s:=by
 obtain ⟨sv,wv,h1,h2,h3,h4,h5⟩:=h
 refine ⟨sv,wv,hf _ h1,(hH _ h1).trans h2,?_,?_,h5⟩
 ·rcases h3 with h | ⟨q,hq,h6,h7⟩
  ·exact .inl h
  ·exact .inr ⟨q,hf _ hq,h6,(hH _ hq).trans h7⟩
 ·rcases h4 with h | ⟨r,L,hr,h6,h7⟩
  ·exact .inl h
  ·exact .inr ⟨r,L,hf _ hr,(hH _ hr).trans h6,h7⟩
def Sb.send (n:Ntc) (s:Sb):Sb:=if s.behind then s else { s with seen:=QBT n.rc.path (decide (n.kind = 1)) s.seen,wait:=if 64 < s.wait.length + 1 then [] else s.wait ++ [n],behind:=decide (64 < s.wait.length + 1) }
theorem QLx (f:Flt) (k:Nat):QAE k (QA5 f) = true:=by simp [QA5,QAE,QAB,QBM]
theorem QOf (f:Flt) (is:List Nat):ren is (QA5 f) = QA5 f:=by simp [QA5,ren,QBt,QBM]
def OverAt (f:Nat) (ys:List AV) (av:AV) (H:List AObj) (is:List Nat) (H':List AObj):Prop:=∃ He Ge,ACalls Tryz.prog f ys He av Ge ∧ He.length = is.length ∧ Ge.length = is.length ∧ is.Nodup ∧ (∀ p ∈ is.zip (He.map (QBP is)),H[p.1]? = some p.2) ∧ H' = QBd H is (Ge.map (QBP is))
theorem QCe {α:Type} {l:List α} {i:Nat} {x:α} (h:l[i]? = some x):l.set i x = l:=by
 apply List.ext_getElem?
 intro j
 rw [List.getElem?_set]
 split
 ·rename_i e
  subst e
  rw [h]
  simp [(List.getElem?_eq_some_iff.1 h).1]
 ·rfl
theorem QBF {α:Type} {l:List α} {i j:Nat} {x y:α} (h:l[i]? = some y) (hij:i ≠ j ∨ x = y):(l.set j x)[i]? = some y:=by
 by_cases e:i = j
 ·subst e
  rcases hij with h' | rfl
  ·exact (h' rfl).elim
  ·rw [List.getElem?_set]; simp [(List.getElem?_eq_some_iff.1 h).1]
 ·rw [List.getElem?_set_ne (fun h=>e h.symm)]; exact h
theorem QBX {α:Type} {l:List α} {j:Nat} {x y:α} (h:l[j]? = some y):(l.set j x)[j]? = some x:=by
 rw [List.getElem?_set]; simp [(List.getElem?_eq_some_iff.1 h).1]
theorem QDJ {α:Type} {l:List α} {i j:Nat} {x y:α} (h:l[i]? = some x) (h':l[j]? = some y) (hxy:x ≠ y):i ≠ j:=fun e=>by
 subst e; rw [h] at h'; exact hxy (Option.some.inj h')
theorem QQm {H:List AObj} {o:Nat} {fp:List Nat} {s:Sb} (n:Ntc) (h:SubAt H o fp s) {u:Nat} (hu:H[u]? = some .unborn) (_hn:u ∉ fp):
  ∃ is H',OverAt 48 [.ptr 0 0,.agg (QAU n)] (.tup []) H is H' ∧ is[0]? = some o ∧ (∀ i ∈ is,i ∈ fp ∨ i = u) ∧ SubAt H' o (u :: fp) (s.send n):=by
 obtain ⟨sv,wv,h1,h2,h3,h4,h5,h6⟩:=h
 have hw:=QLx s.f
 have hren:=fun is=>QOf s.f is
 by_cases hb:s.behind = true
 ·have e:s.send n = s:=by simp [Sb.send,hb]
  rw [e]
  have hwv:=h5 hb
  subst hwv
  have hS:SubAt H o (u :: fp) s:=SubAt.keep ⟨sv,.nils,h1,h2,h3,h4,h5,h6⟩ (fun i hi=>by simp [hi]) fun _ _=>rfl
  rw [hb] at h2
  rcases h3 with ⟨_,rfl⟩ | ⟨q,hq,rfl,h7⟩
  ·refine ⟨[o],H,⟨[.box 89 [QA5 s.f,.nilm,.nils,.bool true]],_,QLv _ _ _ n (hw 1) rfl rfl,rfl,rfl,by simp,?_,?_⟩,rfl,by simp [h1],hS⟩
   ·simp [QBP,QBt,ren,hren,h2]
   ·simp only [List.map_cons,List.map_nil,QBd,QBP,QBt,ren,hren]
    exact (QCe h2).symm
  ·have hoq:=QDJ h2 h7 (by simp)
   refine ⟨[o,q],H,⟨[.box 89 [QA5 s.f,.map 1,.nils,.bool true],.map (smK AV.bool s.seen)],_,QKh _ .nils s.seen n (hw 2) rfl,rfl,rfl,by simp [hoq],?_,?_⟩,rfl,by simp [h1,hq],hS⟩
   ·simp [QBP,QBt,ren,hren,h2,h7,QBz]
   ·have e1:=QCe h2
    have e2:=QCe h7
    simp only [List.map_cons,List.map_nil,QBd,QBP,QBt,ren,hren,QBz,List.getElem?_cons_succ,List.getElem?_cons_zero,e1,e2]
 ·have hb':s.behind = false:=by simpa using hb
  rcases h3 with ⟨h3,_⟩ | ⟨q,hq,rfl,h7⟩
  ·exact (hb h3).elim
  have hoq:=QDJ h2 h7 (by simp)
  have hou:=QDJ h2 hu (by simp)
  have hqu:=QDJ h7 hu (by simp)
  rw [hb'] at h2
  rcases h4 with ⟨rfl,h8⟩ | ⟨r,F,hr,h8,h9⟩
  ·have e:s.send n = ⟨s.f,QBT n.rc.path (decide (n.kind = 1)) s.seen,[n],false⟩:=by simp [Sb.send,hb',h8]
   rw [e]
   refine ⟨[o,q,u],_,⟨[.box 89 [QA5 s.f,.map 1,.nils,.bool false],.map (smK AV.bool s.seen)] ++ List.replicate 1 .unborn,_,(ACallsR.unbornG 1 (QVg (QA5 s.f) s.seen n hw hren) (fun v G h=>by rw [h.2]; simp)).one,rfl,rfl,by simp [hoq,hou,hqu],?_,rfl⟩,rfl,by simp [h1,hq],?_⟩
   ·simp [QBP,QBt,ren,hren,h2,h7,hu,QBz]
   ·simp only [List.map_cons,List.map_nil,QBd,QBP,QBt,QBL,ren,hren,QBz,QD1,List.getElem?_cons_succ,List.getElem?_cons_zero]
    refine ⟨.map q,.own u 1,by simp [h1],?_,.inr ⟨q,by simp [hq],rfl,?_⟩,.inr ⟨u,[n],by simp,?_,.inl ⟨rfl,rfl⟩⟩,by simp,by simp⟩
    ·exact QBF (QBF (QBX h2) (.inl hoq)) (.inl hou)
    ·exact QBF (QBX (QBF h7 (.inl (Ne.symm hoq)))) (.inl hqu)
    ·exact QBX (QBF (QBF hu (.inl (Ne.symm hou))) (.inl (Ne.symm hqu)))
  ·have h9':(wv = .own r (F.map QAU).length ∧ F.map QAU = s.wait.map QAU) ∨ ∃ lo j,lo + j = (F.map QAU).length ∧ wv = .pre r lo j (F.map QAU).length ∧ (F.map QAU).drop lo = s.wait.map QAU:=by
    rcases h9 with ⟨h,h'⟩ | ⟨lo,j,h,h',h''⟩
    ·exact .inl ⟨by simpa using h,by rw [h']⟩
    ·exact .inr ⟨lo,j,by simpa using h,by simpa using h',by rw [← List.map_drop,h'']⟩
   have hLF:∀ is,QBL is (F.map QAU) = F.map QAU:=fun is=>QBh is _
   clear h9
   generalize F.map QAU = L at h8 h9' hLF
   have hor:=QDJ h2 h8 (by simp)
   have hqr:=QDJ h7 h8 (by simp)
   have hru:=QDJ h8 hu (by simp)
   rcases h9' with ⟨rfl,hL⟩ | ⟨lo,j,hlo,rfl,hL⟩
   ·have hlen:L.length = s.wait.length:=by rw [hL]; simp
    have hLc:∀ k,QAb k L = true:=fun k=>by rw [hL]; exact QA8 k _
    have hLr:∀ is,QBL is L = L:=fun is=>by rw [hL]; exact QBh is _
    refine ⟨[o,q,r],_,⟨[.box 89 [QA5 s.f,.map 1,.own 2 L.length,.bool false],.map (smK AV.bool s.seen),.reg 39 14 L],_,QVh (QA5 s.f) s.seen L n hw hLc (by omega),rfl,rfl,by simp [hoq,hor,hqr],?_,rfl⟩,rfl,by simp [h1,hq,hr],?_⟩
    ·simp [QBP,QBt,ren,hren,h2,h7,h8,QBz,hLr]
    ·have hLr':∀ is,QBL is (L ++ [QAU n]) = L ++ [QAU n]:=fun is=>by rw [QFD,hLr]; simp [QBL,QD1]
     by_cases hk:64 < s.wait.length + 1
     ·have hk':64 < L.length + 1:=by omega
      have e:s.send n = ⟨s.f,QBT n.rc.path (decide (n.kind = 1)) s.seen,[],true⟩:=by simp [Sb.send,hb',hk]
      rw [e]
      simp only [List.map_cons,List.map_nil,QBd,QBP,QBt,ren,hren,QBz,hLr',List.getElem?_cons_succ,List.getElem?_cons_zero,if_pos hk',decide_eq_true hk']
      refine ⟨.map q,.nils,by simp [h1],?_,.inr ⟨q,by simp [hq],rfl,?_⟩,.inl ⟨rfl,rfl⟩,by simp,by simp⟩
      ·exact QBF (QBF (QBX h2) (.inl hoq)) (.inl hor)
      ·exact QBF (QBX (QBF h7 (.inl (Ne.symm hoq)))) (.inl hqr)
     ·have hk':¬ 64 < L.length + 1:=by omega
      have e:s.send n = ⟨s.f,QBT n.rc.path (decide (n.kind = 1)) s.seen,s.wait ++ [n],false⟩:=by simp [Sb.send,hb',hk]
      rw [e]
      simp only [List.map_cons,List.map_nil,QBd,QBP,QBt,ren,hren,QBz,hLr',List.getElem?_cons_succ,List.getElem?_cons_zero,if_neg hk',decide_eq_false hk']
      refine ⟨.map q,.own r (L.length + 1),by simp [h1],?_,.inr ⟨q,by simp [hq],rfl,?_⟩,.inr ⟨r,s.wait ++ [n],by simp [hr],?_,.inl ⟨by simp [hlen],rfl⟩⟩,by simp,by simp; omega⟩
      ·exact QBF (QBF (QBX h2) (.inl hoq)) (.inl hor)
      ·exact QBF (QBX (QBF h7 (.inl (Ne.symm hoq)))) (.inl hqr)
      ·rw [show (s.wait ++ [n]).map QAU = L ++ [QAU n] by simp [hL]]
       exact QBX (QBF (QBF h8 (.inl (Ne.symm hor))) (.inl (Ne.symm hqr)))
   ·have hlen:j = s.wait.length:=by
     have:=congrArg List.length hL
     simp at this
     omega
    have hLr:∀ is,QBL is (L.drop lo) = L.drop lo:=fun is=>by rw [hL]; exact QBh is _
    have hLr':∀ is,QBL is (L.drop lo ++ [QAU n]) = L.drop lo ++ [QAU n]:=fun is=>by rw [QFD,hLr]; simp [QBL,QD1]
    by_cases hk:64 < s.wait.length + 1
    ·have e:s.send n = ⟨s.f,QBT n.rc.path (decide (n.kind = 1)) s.seen,[],true⟩:=by simp [Sb.send,hb',hk]
     rw [e]
     refine ⟨[o,q,r,u],_,⟨[.box 89 [QA5 s.f,.map 1,.pre 2 lo j L.length,.bool false],.map (smK AV.bool s.seen),.reg 39 14 L] ++ List.replicate 1 .unborn,_,(ACallsR.unbornG 1 (QVj (QA5 s.f) s.seen L lo j n hw hren hLr hlo (by omega) (by omega)) (fun v G h=>by rw [h.2]; simp)).one,rfl,rfl,by simp [hoq,hor,hou,hqr,hqu,hru],?_,rfl⟩,rfl,by simp [h1,hq,hr],?_⟩
     ·simp [QBP,QBt,ren,hren,h2,h7,h8,hu,QBz,hLF]
     ·simp only [List.map_cons,List.map_nil,QBd,QBP,QBt,ren,hren,QBz,hLr',List.getElem?_cons_succ,List.getElem?_cons_zero]
      refine ⟨.map q,.nils,by simp [h1],?_,.inr ⟨q,by simp [hq],rfl,?_⟩,.inl ⟨rfl,rfl⟩,by simp,by simp⟩
      ·exact QBF (QBF (QBF (QBX h2) (.inl hoq)) (.inl hor)) (.inl hou)
      ·exact QBF (QBF (QBX (QBF h7 (.inl (Ne.symm hoq)))) (.inl hqr)) (.inl hqu)
    ·have e:s.send n = ⟨s.f,QBT n.rc.path (decide (n.kind = 1)) s.seen,s.wait ++ [n],false⟩:=by simp [Sb.send,hb',hk]
     rw [e]
     refine ⟨[o,q,r,u],_,⟨[.box 89 [QA5 s.f,.map 1,.pre 2 lo j L.length,.bool false],.map (smK AV.bool s.seen),.reg 39 14 L] ++ List.replicate 1 .unborn,_,(ACallsR.unbornG 1 (QVi (QA5 s.f) s.seen L lo j n hw hren hLr hlo (by omega)) (fun v G h=>by rw [h.2]; simp)).one,rfl,rfl,by simp [hoq,hor,hou,hqr,hqu,hru],?_,rfl⟩,rfl,by simp [h1,hq,hr],?_⟩
     ·simp [QBP,QBt,ren,hren,h2,h7,h8,hu,QBz,hLF]
     ·simp only [List.map_cons,List.map_nil,QBd,QBP,QBt,ren,hren,QBz,hLr',List.getElem?_cons_succ,List.getElem?_cons_zero]
      refine ⟨.map q,.own u (j + 1),by simp [h1],?_,.inr ⟨q,by simp [hq],rfl,?_⟩,.inr ⟨u,s.wait ++ [n],by simp,?_,.inl ⟨by simp [hlen],rfl⟩⟩,by simp,by simp; omega⟩
      ·exact QBF (QBF (QBF (QBX h2) (.inl hoq)) (.inl hor)) (.inl hou)
      ·exact QBF (QBF (QBX (QBF h7 (.inl (Ne.symm hoq)))) (.inl hqr)) (.inl hqu)
      ·rw [show (s.wait ++ [n]).map QAU = L.drop lo ++ [QAU n] by simp [hL]]
       exact QBX (QBF (QBF (QBF hu (.inl (Ne.symm hou))) (.inl (Ne.symm hqu))) (.inl (Ne.symm hru)))
end Go.Ab
namespace Go.Ab
open Go Go.Proofs
set_option maxRecDepth 20000
structure SbL where
 o:Nat
 fp:List Nat
 s:Sb
structure Bus where
 ready:QAy Rcd
 subs:QAy SbL
 last:Int
abbrev rdM (m:QAy Rcd):List (AV × AV):=smK (fun r=>AV.agg (QAR r)) m
abbrev sbM (m:QAy SbL):List (AV × AV):=smK (fun x=>AV.ptr x.o 0) m
def Bus.foot (B:Bus) (i:Nat):Prop:=∃ (j:Nat) (p:List UInt8 × SbL),B.subs[j]? = some (some p) ∧ i ∈ p.2.fp
structure QB0 (H:List AObj) (ob ro so:Nat) (B:Bus):Prop where
 box:H[ob]? = some (.box 82 [.map ro,.map so,.int .i64 B.last])
 rdy:H[ro]? = some (.map (rdM B.ready))
 sbs:H[so]? = some (.map (sbM B.subs))
 rso:ro ≠ so
 sub:∀ (j:Nat) (p:List UInt8 × SbL),B.subs[j]? = some (some p) → SubAt H p.2.o p.2.fp p.2.s
 out:∀ i,B.foot i → i < H.length ∧ i ≠ ob ∧ i ≠ ro ∧ i ≠ so
 dis:∀ (i j:Nat) (p q:List UInt8 × SbL),i ≠ j → B.subs[i]? = some (some p) → B.subs[j]? = some (some q) → ∀ x ∈ p.2.fp,x ∉ q.2.fp
structure BusF (H G:List AObj) (ob ro so:Nat) (B B':Bus):Prop where
 len:H.length ≤ G.length
 keep:∀ i,i < H.length → i ≠ ob → i ≠ ro → i ≠ so → ¬ B.foot i → G[i]? = H[i]? ∧ ¬ B'.foot i
def QKi (B:Bus) (name:List UInt8) (f:Flt):Int:=if QAe name then (if QCD f.sub ≠ 0 ∨ (f.tag ≠ [] ∧ QCD f.tag ≠ 0) then 301 else if (QAo name B.subs).isSome then 302 else if 16 ≤ QEG B.subs then 303 else 0) else 300
def subR (H:List AObj) (ob ro so:Nat) (B:Bus) (name:List UInt8) (f:Flt) (v:AV) (G:List AObj):Prop:=v = .int .i64 (QKi B name f) ∧ if QKi B name f = 0 then (∃ o,QB0 G ob ro so { B with subs:=QBT name ⟨o,[o],⟨f,[],[],true⟩⟩ B.subs } ∧ BusF H G ob ro so B { B with subs:=QBT name ⟨o,[o],⟨f,[],[],true⟩⟩ B.subs }) else QB0 G ob ro so B ∧ BusF H G ob ro so B B
theorem QDj {β:Type} (k:List UInt8) (v:β):∀ m:QAy β,∃ j0,∀ (j:Nat) (p:List UInt8 × β),(QBT k v m)[j]? = some (some p) → (j = j0 ∧ p = (k,v)) ∨ (j ≠ j0 ∧ m[j]? = some (some p))
 | []=>⟨0,fun j p hj=>by
  cases j with
  | zero=>simp [QBT] at hj; exact .inl ⟨rfl,hj.symm⟩
  | succ j=>simp [QBT] at hj⟩
 | none :: r=>by
  obtain ⟨j0,ih⟩:=QDj k v r
  refine ⟨j0 + 1,fun j p hj=>?_⟩
  cases j with
  | zero=>simp [QBT] at hj
  | succ j=>
   simp only [QBT,List.getElem?_cons_succ] at hj
   rcases ih j p hj with ⟨h1,h2⟩ | ⟨h1,h2⟩
   ·exact .inl ⟨by omega,h2⟩
   ·exact .inr ⟨by omega,by simpa using h2⟩
 | some x :: r=>by
  by_cases e:x.1 = k
  ·refine ⟨0,fun j p hj=>?_⟩
   simp only [QBT,e,if_true] at hj
   cases j with
   | zero=>simp at hj; exact .inl ⟨rfl,hj.symm⟩
   | succ j=>exact .inr ⟨by omega,by simpa using hj⟩
  ·obtain ⟨j0,ih⟩:=QDj k v r
   refine ⟨j0 + 1,fun j p hj=>?_⟩
   simp only [QBT,e,if_false] at hj
   cases j with
   | zero=>exact .inr ⟨by omega,by simpa using hj⟩
   | succ j=>
    rcases ih j p (by simpa using hj) with ⟨h1,h2⟩ | ⟨h1,h2⟩
    ·exact .inl ⟨by omega,h2⟩
    ·exact .inr ⟨by omega,by simpa using h2⟩
theorem QQn {H:List AObj} {ob ro so:Nat} {B:Bus} (h:QB0 H ob ro so B) (name:List UInt8) (f:Flt) (Y:AObj) {G:List AObj} {B':Bus} (hB:B' = { B with subs:=QBT name ⟨H.length + 1,[H.length + 1],⟨f,[],[],true⟩⟩ B.subs })
  (hG:G = (H ++ [Y,.box 89 [QA5 f,.nilm,.nils,.bool true]]).set so (.map (sbM B'.subs))):QB0 G ob ro so B' ∧ BusF H G ob ro so B B':=by
 have b1:=h.box
 have b2:=h.rdy
 have b3:=h.sbs
 have l1:=(List.getElem?_eq_some_iff.1 b1).1
 have l2:=(List.getElem?_eq_some_iff.1 b2).1
 have l3:=(List.getElem?_eq_some_iff.1 b3).1
 have n5:ob ≠ so:=QDJ b1 b3 (by simp)
 have old:∀ i,i < H.length → i ≠ so → G[i]? = H[i]?:=fun i hi hn=>by
  rw [hG,List.getElem?_set_ne (Ne.symm hn),List.getElem?_append_left hi]
 have hnew:G[H.length + 1]? = some (.box 89 [QA5 f,.nilm,.nils,.bool true]):=by
  rw [hG,List.getElem?_set_ne (by omega),List.getElem?_append_right (by omega)]
  simp
 obtain ⟨j0,hp⟩:=QDj name (⟨H.length + 1,[H.length + 1],⟨f,[],[],true⟩⟩:SbL) B.subs
 have hs:B'.subs = QBT name ⟨H.length + 1,[H.length + 1],⟨f,[],[],true⟩⟩ B.subs:=by rw [hB]
 have hl:B'.last = B.last:=by rw [hB]
 have hr:B'.ready = B.ready:=by rw [hB]
 have ft:∀ i,B'.foot i → i = H.length + 1 ∨ B.foot i:=fun i ⟨j,p,h1,h2⟩=>by
  rw [hs] at h1
  rcases hp j p h1 with ⟨_,rfl⟩ | ⟨_,h3⟩
  ·left; simpa using h2
  ·exact .inr ⟨j,p,h3,h2⟩
 have hlen:G.length = H.length + 2:=by rw [hG]; simp
 refine ⟨⟨?_,?_,?_,h.rso,fun j p hj=>?_,fun i hi=>?_,fun i j p q hij hi hj x hx=>?_⟩,⟨by omega,fun i hi _ _ h3 h4=>⟨old i hi h3,fun h5=>?_⟩⟩⟩
 ·rw [old _ l1 n5,hl]; exact b1
 ·rw [old _ l2 h.rso,hr]; exact b2
 ·rw [hG]; exact QBX (x:=AObj.map (sbM B'.subs)) (by rw [List.getElem?_append_left l3]; exact b3)
 ·rw [hs] at hj
  rcases hp j p hj with ⟨_,rfl⟩ | ⟨_,h3⟩
  ·exact ⟨.nilm,.nils,by simp,hnew,.inl ⟨rfl,rfl⟩,.inl ⟨rfl,rfl⟩,fun _=>rfl,by simp⟩
  ·exact (h.sub j p h3).keep (fun _ h=>h) fun i hi=>old i (h.out i ⟨j,p,h3,hi⟩).1 (h.out i ⟨j,p,h3,hi⟩).2.2.2
 ·rcases ft i hi with rfl | h3
  ·exact ⟨by omega,by omega,by omega,by omega⟩
  ·obtain ⟨h4,h5⟩:=h.out i h3
   exact ⟨by omega,h5⟩
 ·rw [hs] at hi hj
  rcases hp i p hi with ⟨e1,rfl⟩ | ⟨_,h3⟩
  ·rcases hp j q hj with ⟨e2,rfl⟩ | ⟨_,h4⟩
   ·exact (hij (e1.trans e2.symm)).elim
   ·intro h5
    simp only [List.mem_singleton] at hx
    subst hx
    have:=(h.out _ ⟨j,q,h4,h5⟩).1
    omega
  ·rcases hp j q hj with ⟨e2,rfl⟩ | ⟨_,h4⟩
   ·intro h5
    simp only [List.mem_singleton] at h5
    subst h5
    have:=(h.out _ ⟨i,p,h3,hx⟩).1
    omega
   ·exact h.dis i j p q hij h3 h4 x hx
 ·rcases ft i h5 with rfl | h6
  ·omega
  ·exact h4 h6
theorem QMo {H:List AObj} {ob ro so:Nat} {B:Bus} (h:QB0 H ob ro so B) (name:List UInt8) (f:Flt) (h1:f.sub.length < 9223372036854775807) (h2:f.tag.length < 9223372036854775807):
  ACallsR Tryz.prog 13 [.ptr ob 0,.str name,.agg (QBM f)] H (subR H ob ro so B name f):=by
 have cv:=QDb name
 have c1:=QPW f.sub h1
 have c2:=QPW f.tag h2
 have cw:=QTy f
 have b1:=h.box
 have b2:=h.rdy
 have b3:=h.sbs
 have l1:=(List.getElem?_eq_some_iff.1 b1).1
 have l3:=(List.getElem?_eq_some_iff.1 b3).1
 have ap:∀ {i:Nat} {x:AObj} (l:List AObj),H[i]? = some x → (H ++ l)[i]? = some x:=fun l hx=>by
  rw [List.getElem?_append_left (List.getElem?_eq_some_iff.1 hx).1]; exact hx
 have a1:=fun l=>ap l b1
 have a3:=fun l=>ap l b3
 have hk:=QBy (fun x:SbL=>AV.ptr x.o 0) name B.subs
 have hf:=QCd (fun x:SbL=>AV.ptr x.o 0) name B.subs
 refine QCn _ cqq ?_
 refine QBU ?_
 simp +decide -dsimp -implicitDefEqProofs [go_sem,QBM]
 refine QBU ?_
 simp +decide -dsimp -implicitDefEqProofs [go_sem,a1,a3,hk,hf]
 generalize (Option.map (fun x:SbL=>AV.ptr x.o 0) (QAo name B.subs)).getD AV.nilp = V
 have a2:=fun l=>ap l b2
 have hlen:¬ (16:Int) ≤ (QEG B.subs:Int) ∨ 16 ≤ QEG B.subs:=by omega
 have hcnt:QIk (smK (fun x:SbL=>AV.ptr x.o 0) B.subs) = QEG B.subs:=QKb _ _
 have hneg:∀ l,QB0 (H ++ l) ob ro so B ∧ BusF H (H ++ l) ob ro so B B:=fun l=>
  ⟨⟨a1 l,a2 l,a3 l,h.rso,fun j p hj=>(h.sub j p hj).keep (fun _ h=>h) fun i hi=>List.getElem?_append_left (h.out i ⟨j,p,hj,hi⟩).1,fun i hi=>⟨by have:=(h.out i hi).1; simp; omega,(h.out i hi).2⟩,h.dis⟩,
   ⟨by simp,fun i hi _ _ _ h'=>⟨List.getElem?_append_left hi,h'⟩⟩⟩
 refine gS ?_
 refine QAA cv rfl rfl ?_
 have bad:∀ (n:Int) (l:List AObj),QKi B name f = n → n ≠ 0 → subR H ob ro so B name f (.int .i64 n) (H ++ l):=fun n l e hn=>by
  unfold subR; rw [e,if_neg hn]; exact ⟨rfl,hneg l⟩
 by_cases v1:QAe name = true
 rotate_left
 ·simp +decide -dsimp -implicitDefEqProofs [go_sem,v1]
  refine QAj _ _ (Wk.refl _ _) ?_
  simp +decide -dsimp -implicitDefEqProofs [go_sem,QBG]
  exact bad 300 _ (by simp [QKi,v1]) (by decide)
 simp +decide -dsimp -implicitDefEqProofs [go_sem,v1]
 refine QAA c1 rfl rfl ?_
 by_cases v2:QCD f.sub = 0
 rotate_left
 ·simp +decide -dsimp -implicitDefEqProofs [go_sem,v2]
  refine QAj _ _ (Wk.refl _ _) ?_
  simp +decide -dsimp -implicitDefEqProofs [go_sem,QBG]
  exact bad 301 _ (by simp [QKi,v1,v2]) (by decide)
 have vt:(f.tag = [] ∨ (f.tag ≠ [] ∧ QCD f.tag = 0)) ∨ (f.tag ≠ [] ∧ QCD f.tag ≠ 0):=by
  by_cases e:f.tag = []
  ·exact .inl (.inl e)
  ·by_cases e':QCD f.tag = 0
   ·exact .inl (.inr ⟨e,e'⟩)
   ·exact .inr ⟨e,e'⟩
 rcases vt with vt | ⟨vt,vu⟩
 rotate_left
 ·simp +decide -dsimp -implicitDefEqProofs [go_sem,v2,vt]
  refine QAA c2 rfl rfl ?_
  simp +decide -dsimp -implicitDefEqProofs [go_sem,vt,vu]
  refine QAj _ _ (Wk.refl _ _) ?_
  simp +decide -dsimp -implicitDefEqProofs [go_sem,QBG]
  exact bad 301 _ (by simp [QKi,v1,v2,vt,vu]) (by decide)
 have e3:(QAo name B.subs).isSome = true → QKi B name f = 302:=fun e=>by
  rcases vt with vt | ⟨vt,vu⟩ <;> simp [QKi, *]
 have e4:(QAo name B.subs).isSome = false → 16 ≤ QEG B.subs → QKi B name f = 303:=fun e e'=>by
  rcases vt with vt | ⟨vt,vu⟩ <;> simp [QKi, *]
 have e5:(QAo name B.subs).isSome = false → ¬ 16 ≤ QEG B.subs → QKi B name f = 0:=fun e e'=>by
  rcases vt with vt | ⟨vt,vu⟩ <;> simp [QKi, *]
 have i16:16 ≤ QEG B.subs → (16:Int) ≤ (QEG B.subs:Int):=fun e=>by omega
 have j16:¬ 16 ≤ QEG B.subs → ¬ (16:Int) ≤ (QEG B.subs:Int):=fun e=>by omega
 generalize (QAo name B.subs).isSome = b at e3 e4 e5 ⊢
 cases b with
 | true=>
  rcases vt with vt | ⟨vt,vu⟩
  ·simp +decide -dsimp -implicitDefEqProofs [go_sem,v2,vt]
   refine QAj _ _ (Wk.refl _ _) ?_
   simp +decide -dsimp -implicitDefEqProofs [go_sem,QBG]
   exact bad 302 _ (e3 rfl) (by decide)
  ·simp +decide -dsimp -implicitDefEqProofs [go_sem,v2,vt]
   refine QAA c2 rfl rfl ?_
   simp +decide -dsimp -implicitDefEqProofs [go_sem,vt,vu]
   refine QAj _ _ (Wk.refl _ _) ?_
   simp +decide -dsimp -implicitDefEqProofs [go_sem,QBG]
   exact bad 302 _ (e3 rfl) (by decide)
 | false=>
  by_cases v4:16 ≤ QEG B.subs
  ·have v4':=i16 v4
   rcases vt with vt | ⟨vt,vu⟩
   ·simp +decide -dsimp -implicitDefEqProofs [go_sem,a1,a3,v2,vt,hcnt,v4']
    refine QAj _ _ (Wk.refl _ _) ?_
    simp +decide -dsimp -implicitDefEqProofs [go_sem,QBG]
    exact bad 303 _ (e4 rfl v4) (by decide)
   ·simp +decide -dsimp -implicitDefEqProofs [go_sem,v2,vt]
    refine QAA c2 rfl rfl ?_
    simp +decide -dsimp -implicitDefEqProofs [go_sem,a1,a3,vt,vu,hcnt,v4']
    refine QAj _ _ (Wk.refl _ _) ?_
    simp +decide -dsimp -implicitDefEqProofs [go_sem,QBG]
    exact bad 303 _ (e4 rfl v4) (by decide)
  ·have v4':=j16 v4
   have e0:=e5 rfl v4
   have n1:ob ≠ H.length + 1:=by omega
   have n2:so ≠ H.length + 1:=by omega
   have n3:ob ≠ H.length:=by omega
   have n4:so ≠ H.length:=by omega
   have n5:ob ≠ so:=QDJ b1 b3 (by simp)
   have ord:QBB [0,1,3,7,0,0,32,96,224,511] [([],[]),([],[]),([],[]),([ob],[]),([],[]),([H.length],[]),([],[]),([],[]),([H.length + 1],[H.length + 1]),([so],[so])] = true:=by
    simp +decide [QBB,QCz,n1,n2,n4,n5,Ne.symm n1,Ne.symm n2,Ne.symm n4,Ne.symm n5]
   have hset:QCt (.str name) (.ptr (H.length + 1) 0) (smK (fun x:SbL=>AV.ptr x.o 0) B.subs) = smK (fun x:SbL=>AV.ptr x.o 0) (QBT name ⟨H.length + 1,[H.length + 1],⟨f,[],[],true⟩⟩ B.subs):=QDv (fun x:SbL=>AV.ptr x.o 0) name ⟨H.length + 1,[H.length + 1],⟨f,[],[],true⟩⟩ B.subs
   rcases vt with vt | ⟨vt,vu⟩
   simp +decide -dsimp -implicitDefEqProofs [go_sem,a1,a3,v2,vt,hcnt,v4']
   rotate_left
   simp +decide -dsimp -implicitDefEqProofs [go_sem,v2,vt]
   refine QAA c2 rfl rfl ?_
   simp +decide -dsimp -implicitDefEqProofs [go_sem,a1,a3,vt,vu,hcnt,v4']
   all_goals
    refine QAD ?_
    unfold QBM at cw
    try rw [vt] at cw
    simp +decide -dsimp -implicitDefEqProofs [go_sem,a1]
    refine QAK cw rfl (QLx f 0) ?_
    simp +decide -dsimp -implicitDefEqProofs [go_sem,a3,hk]
   all_goals
    refine ⟨rfl,rfl,Nat.le_refl 1,?_,?_⟩
   ·exact ord
   ·refine QAj _ _ (Wk.refl _ _) ?_
    simp +decide -dsimp -implicitDefEqProofs [go_sem,QBG]
    rw [hset]
    unfold subR
    rw [e0,if_pos rfl]
    exact ⟨rfl,H.length + 1,QQn h name f _ rfl rfl⟩
   ·exact ord
   ·refine QAj _ _ (Wk.refl _ _) ?_
    simp +decide -dsimp -implicitDefEqProofs [go_sem,QBG]
    rw [hset]
    unfold subR
    rw [e0,if_pos rfl]
    exact ⟨rfl,H.length + 1,QQn h name f _ rfl rfl⟩
end Go.Ab
namespace Go.Ab
open Go Go.Proofs
set_option maxRecDepth 20000
theorem QHL {β:Type} (k:List UInt8):∀ (m:QAy β) (j:Nat) (p:List UInt8 × β),(QDC k m)[j]? = some (some p) → m[j]? = some (some p)
 | [],j,p,hj=>by simp [QDC] at hj
 | none :: r,j,p,hj=>by
  cases j with
  | zero=>simp [QDC] at hj
  | succ j=>simpa using QHL k r j p (by simpa [QDC] using hj)
 | some x :: r,j,p,hj=>by
  by_cases e:x.1 = k
  ·simp only [QDC,e,if_true] at hj
   cases j with
   | zero=>simp at hj
   | succ j=>simpa using hj
  ·simp only [QDC,e,if_false] at hj
   cases j with
   | zero=>simpa using hj
   | succ j=>simpa using QHL k r j p (by simpa using hj)
theorem QVk {H:List AObj} {ob ro so:Nat} {B:Bus} (h:QB0 H ob ro so B) (name:List UInt8) {G:List AObj} {B':Bus} (hB:B' = { B with subs:=QDC name B.subs })
  (hG:G = H.set so (.map (sbM B'.subs))):QB0 G ob ro so B' ∧ BusF H G ob ro so B B':=by
 have b1:=h.box
 have b2:=h.rdy
 have b3:=h.sbs
 have n5:ob ≠ so:=QDJ b1 b3 (by simp)
 have old:∀ i,i ≠ so → G[i]? = H[i]?:=fun i hn=>by rw [hG,List.getElem?_set_ne (Ne.symm hn)]
 have hs:B'.subs = QDC name B.subs:=by rw [hB]
 have hl:B'.last = B.last:=by rw [hB]
 have hr:B'.ready = B.ready:=by rw [hB]
 have hp:=QHL name B.subs
 rw [← hs] at hp
 have ft:∀ i,B'.foot i → B.foot i:=fun i ⟨j,p,h1,h2⟩=>⟨j,p,hp j p h1,h2⟩
 have hlen:G.length = H.length:=by rw [hG]; simp
 refine ⟨⟨?_,?_,?_,h.rso,fun j p hj=>?_,fun i hi=>?_,fun i j p q hij hi hj x hx=>h.dis i j p q hij (hp i p hi) (hp j q hj) x hx⟩,⟨by omega,fun i hi _ _ h3 h4=>⟨old i h3,fun h5=>h4 (ft i h5)⟩⟩⟩
 ·rw [old _ n5,hl]; exact b1
 ·rw [old _ h.rso,hr]; exact b2
 ·rw [hG]; exact QBX (x:=AObj.map (sbM B'.subs)) b3
 ·exact (h.sub j p (hp j p hj)).keep (fun _ h=>h) fun i hi=>old i (h.out i ⟨j,p,hp j p hj,hi⟩).2.2.2
 ·rw [hlen]; exact h.out i (ft i hi)
def unsR (H:List AObj) (ob ro so:Nat) (B:Bus) (name:List UInt8) (v:AV) (G:List AObj):Prop:=
 if (QAo name B.subs).isSome then v = .int .i64 0 ∧ QB0 G ob ro so { B with subs:=QDC name B.subs } ∧ BusF H G ob ro so B { B with subs:=QDC name B.subs } else v = .int .i64 300 ∧ G = H
theorem QKj {H:List AObj} {ob ro so:Nat} {B:Bus} (h:QB0 H ob ro so B) (name:List UInt8):
  ACallsR Tryz.prog 19 [.ptr ob 0,.str name] H (unsR H ob ro so B name):=by
 have b1:=h.box
 have b3:=h.sbs
 have hk:=QBy (fun x:SbL=>AV.ptr x.o 0) name B.subs
 have hf:=QCd (fun x:SbL=>AV.ptr x.o 0) name B.subs
 have hd:QDx (.str name) (smK (fun x:SbL=>AV.ptr x.o 0) B.subs) = smK (fun x:SbL=>AV.ptr x.o 0) (QDC name B.subs):=QKa _ _ _
 have ok:(QAo name B.subs).isSome = true → unsR H ob ro so B name (.int .i64 0) (H.set so (.map (smK (fun x:SbL=>AV.ptr x.o 0) (QDC name B.subs)))):=fun e=>by
  unfold unsR; rw [if_pos e]; exact ⟨rfl,QVk h name rfl rfl⟩
 have no:(QAo name B.subs).isSome = false → unsR H ob ro so B name (.int .i64 300) H:=fun e=>by
  unfold unsR; rw [e]; exact ⟨rfl,rfl⟩
 refine QDd _ cqq ?_
 have l3:=(List.getElem?_eq_some_iff.1 b3).1
 cases hg:QAo name B.subs with
 | some x=>
  rw [hg] at ok hf
  simp +decide -dsimp -implicitDefEqProofs [go_sem,b1,b3,hk,hf,hd]
  refine QAj _ _ (Wk.refl _ _) ?_
  simp +decide -dsimp -implicitDefEqProofs [go_sem,QBG]
  rw [if_pos l3]
  exact ok rfl
 | none=>
  rw [hg] at no hf
  simp +decide -dsimp -implicitDefEqProofs [go_sem,b1,b3,hk,hf]
  refine QAj _ _ (Wk.refl _ _) ?_
  simp +decide -dsimp -implicitDefEqProofs [go_sem,QBG]
  exact no rfl
def newR (H:List AObj) (v:AV) (G:List AObj):Prop:=v = .ptr (H.length + 2) 0 ∧ QB0 G (H.length + 2) H.length (H.length + 1) ⟨[],[],0⟩ ∧ BusF H G (H.length + 2) H.length (H.length + 1) ⟨[],[],0⟩ ⟨[],[],0⟩
theorem Qae (H:List AObj):ACallsR Tryz.prog 12 [] H (newR H):=by
 refine QDd _ cqq ?_
 refine gs ?_
 refine QAj _ _ (Wk.refl _ _) ?_
 simp +decide -dsimp -implicitDefEqProofs [go_sem,QBG]
 have nf:∀ i,¬ (⟨[],[],0⟩:Bus).foot i:=fun i ⟨j,p,h,_⟩=>by simp at h
 refine ⟨rfl,⟨?_,?_,?_,by omega,fun j p h=>by simp at h,fun i h=>(nf i h).elim,fun i j p q _ h=>by simp at h⟩,⟨by simp,fun i hi _ _ _ h=>⟨List.getElem?_append_left hi,h⟩⟩⟩
 ·simp
 ·simp [smK]
 ·simp [smK]
end Go.Ab
/- Empty lists, told as nil. -/

namespace Go.Ab
open Go Go.Proofs Go.Sort
mutual
def nz:AV → AV
 | .nils=>.imm []
 | .imm l=>.imm (QKk l)
 | .agg cs=>.agg (nzL cs)
 | a=>a
def nzL:List AV → List AV
 | []=>[]
 | a :: r=>nz a :: nzL r
def QKk:List (List AV) → List (List AV)
 | []=>[]
 | a :: r=>nzL a :: QKk r
end
theorem QQo:∀ l:List AV,(nzL l).length = l.length
 | []=>rfl
 | a :: r=>by simp [nzL,QQo r]
theorem QNp:∀ l:List (List AV),(QKk l).length = l.length
 | []=>rfl
 | a :: r=>by simp [QKk,QNp r]
mutual
theorem QQp {c:Cx}:∀ (a:AV) (v:Value),Val c a v → Val c (nz a) v
 | .nils,v,h=>by
  simp only [Val] at h
  simp only [nz,Val]
  exact .inr ⟨trivial,_,_,h⟩
 | .imm l,v,h=>by
  simp only [Val] at h
  simp only [nz,Val,QNp]
  rcases h with ⟨b,off,cap,sz,h1,h2,h3,h4⟩ | ⟨rfl,h⟩
  ·exact .inl ⟨b,off,cap,sz,h1,h2,h3,QQq l b off sz h4⟩
  ·exact .inr ⟨rfl,h⟩
 | .agg cs,v,h=>by
  simp only [Val] at h
  simp only [nz,Val]
  obtain ⟨vs,h1,h2,h3⟩:=h
  exact ⟨vs,h1,QIr cs _ h2,h3⟩
 | .junk,_,h | .bot,_,h | .int _ _,_,h | .bool _,_,h | .str _,_,h | .nilp,_,h | .ptr _ _,_,h | .eptr _ _ _ _,_,h | .iptr _,_,h | .own _ _,_,h | .nilm,_,h | .map _,_,h | .nilf,_,h | .fn _ _ _,_,h | .tup _,_,h | .raw _,_,h | .ifc,_,h | .win _ _ _,_,h | .it _,_,h | .pre _ _ _ _,_,h | .ifv _ _,_,h=>h
theorem QIr {c:Cx}:∀ (xs:List AV) (vs:List Value),QA3 c xs vs → QA3 c (nzL xs) vs
 | [],_,h=>h
 | a :: r,vs,h=>by
  simp only [QA3] at h
  simp only [nzL,QA3]
  obtain ⟨v,vs',h1,h2,h3⟩:=h
  exact ⟨v,vs',h1,QQp a v h2,QIr r vs' h3⟩
theorem QNq {c:Cx}:∀ (xs:List AV) (b off:Nat),QBN c xs b off → QBN c (nzL xs) b off
 | [],_,_,h=>h
 | a :: r,b,off,h=>by
  simp only [QBN] at h
  simp only [nzL,QBN]
  obtain ⟨⟨v,h1,h2,h3⟩,h4⟩:=h
  exact ⟨⟨v,h1,h2,QQp a v h3⟩,QNq r b _ h4⟩
theorem QQq {c:Cx}:∀ (l:List (List AV)) (b off sz:Nat),QAh c l b off sz → QAh c (QKk l) b off sz
 | [],_,_,_,h=>h
 | r :: rs,b,off,sz,h=>by
  simp only [QAh] at h
  simp only [QKk,QAh,QQo]
  exact ⟨h.1,QNq r b off h.2.1,QQq rs b _ sz h.2.2⟩
end
theorem ACalls.nz {P:Program} {f:Nat} {xs:List AV} {av:AV} {H H':List AObj} (h:ACalls P f (nzL xs) H av H'):ACalls P f xs H av H':=
 ⟨h.1,fun c vs hH hr hv=>h.2 c vs hH hr (QIr xs vs hv)⟩

theorem ACalls.nzR {P:Program} {f:Nat} {xs:List AV} {av:AV} {H H':List AObj} (h:ACalls P f xs H av H'):ACalls P f xs H (Go.Ab.nz av) H':=
 ⟨h.1,fun c vs hH hr hv=>(h.2 c vs hH hr hv).mono fun e w' hq=>by
  obtain ⟨v,ce,h1,h2,h3,h4,h5,h6⟩:=hq
  exact ⟨v,ce,h1,h2,h3,h4,h5,QQp _ _ h6⟩⟩
end Go.Ab
namespace Go.Ab
open Go Go.Proofs
def c53:AFn:=⟨(sq [(ox 1 (.box 79 (.t 0))),(ox 2 (.mov (.v .nilf)))] (sq [(ox 3 (.mkfn (.func 94) [] [(.t 1)])),(mv 2 3)] .ret)),4,[(.tmp 2)]⟩
theorem c53_ok:QAg Tryz.prog [] 53 = some c53:=by kernel_rfl
def c3:AFn:=⟨(sq [(ox 4 (mb false))] (sq [(ox 16 (fc 12 [])),(mv 5 16)] (.seq (sq [(mv 17 5),(ox 18 (.ext (.pnil false) [(.t 17)])),(mv 19 18),(of 20 (.mov (.t 5)) 19),(of 21 (.build [(.str []),(.str [])] [(0,(1,(.v (.str [42]))))]) 19),(of 22 (fc 13 [(.t 20),(.v (.str [115])),(.t 21)]) 19),(of 23 (b1 .neq 22 0) 19),(ox 24 (.pick (.t 19) (.v (.bool true)) (.t 23)))] (cd 24 (sq [(ox 4 (mb false))] .ret) .skip)) (.seq (sq [(mv 26 5),(ox 27 (fc 14 [(.t 26),(.v (.str [115])),(iv 1)])),(mv 25 27),(ox 28 (xt 25 0)),(ox 29 (xt 25 1)),(ox 30 (xt 25 2)),(mv 6 28),(mv 7 29),(mv 8 30)] (sq [(mv 31 7),(ox 32 (.un .not (.t 31))),(mv 33 32),(of 34 (.mov (.t 8)) 33),(of 35 (b1 .neq 34 0) 33),(ox 36 (.pick (.t 33) (.v (.bool true)) (.t 35)))] (cd 36 (sq [(ox 4 (mb false))] .ret) .skip))) (sq [(mv 37 0),(ox 38 (fc 15 [(.t 37),(iv 7)])),(ox 39 (.bin .add (iv 61) (.t 38))),(mv 0 39)] (.seq (sq [(ox 9 (.mov (iv 0)))] (.block 0 (.loop (.seq (sq [(mv 40 9),(mv 41 0),(ox 42 (b2 .lss 40 41))] (cd 42 .skip (.exit 0))) (.seq (.block 1 (sq [(mv 45 5),(ox 46 (fc 17 [(.v (.str [47,97])),(iv 1),(.v (.str [117,115,98]))])),(ox 47 (fc 16 [(.t 45),(.t 46)])),(ox 48 (b1 .neq 47 0))] (cd 48 (sq [(ox 4 (mb false))] .ret) .skip))) (.ops [(mv 43 9),(ox 44 (b1 .add 43 1)),(mv 9 44)])))))) (sq [(mv 50 5),(mv 51 1),(ox 52 (fc 14 [(.t 50),(.v (.str [115])),(.t 51)])),(mv 49 52),(ox 53 (xt 49 0)),(ox 54 (xt 49 1)),(ox 55 (xt 49 2)),(mv 10 53),(mv 11 54),(mv 12 55)] (.seq (sq [(mv 56 12),(ox 57 (b1 .neq 56 0)),(mv 58 57),(of 59 (.mov (.t 11)) 58),(of 60 (.mov (.t 0)) 58),(of 61 (b1 .gtr 60 64) 58),(of 62 (.binb true (.t 59) (.t 61)) 58),(ox 63 (.pick (.t 58) (.v (.bool true)) (.t 62)))] (cd 63 (sq [(ox 4 (mb false))] .ret) .skip)) (.seq (sq [(mv 64 11)] (cd 64 (sq [(mv 66 5),(ox 67 (fc 14 [(.t 66),(.v (.str [115])),(iv 1)])),(mv 65 67),(ox 68 (xt 65 0)),(ox 69 (xt 65 1)),(ox 70 (xt 65 2)),(mv 13 68),(mv 14 69),(mv 15 70)] (sq [(mv 71 10),(ox 72 (.len .sl (.t 71))),(ox 73 (b1 .eql 72 1)),(mv 74 73),(ot 75 (.mov (.t 10)) 74),(ot 76 (.iaddr none 14 (.t 75) (iv 0)) 74),(ot 77 (fa 0 76) 74),(ot 78 (ld 77) 74),(ot 79 (.mov (.t 0)) 74),(ot 80 (b2 .eql 78 79) 74),(ox 81 (.pick (.t 74) (.t 80) (.v (.bool false)))),(mv 82 81),(ot 83 (.mov (.t 14)) 82),(ot 84 (.un .not (.t 83)) 82),(ox 85 (.pick (.t 82) (.t 84) (.v (.bool false)))),(mv 86 85),(ot 87 (fc 18 []) 86),(ox 88 (.pick (.t 86) (.t 87) (.v (.bool false)))),(mv 4 88)] .ret)) .skip)) (sq [(mv 89 10),(ox 90 (.len .sl (.t 89))),(mv 91 1),(mv 92 0),(ox 93 (.ext .least [(.t 91),(.t 92)])),(ox 94 (.ext .most [(iv 0),(.t 93)])),(ox 95 (b2 .eql 90 94)),(mv 96 95),(ot 97 (fc 18 []) 96),(ox 98 (.pick (.t 96) (.t 97) (.v (.bool false)))),(mv 4 98)] .ret)))))))))),99,[(.tmp 4)]⟩
def c4:AFn:=⟨(sq [(ox 2 (mb false))] (sq [(ox 7 (fc 12 [])),(mv 3 7)] (.seq (sq [(mv 8 3),(ox 9 (.ext (.pnil false) [(.t 8)]))] (cd 9 (sq [(ox 2 (mb false))] .ret) .skip)) (sq [(mv 10 0),(ox 11 (fc 15 [(.t 10),(iv 18)])),(mv 0 11)] (.seq (sq [(ox 4 (.mov (iv 0)))] (.block 0 (.loop (.seq (sq [(mv 12 4),(mv 13 0),(ox 14 (b2 .lss 12 13))] (cd 14 .skip (.exit 0))) (.seq (.block 1 (sq [(ox 5 (.mov (iv 0)))] (.seq (sq [(mv 17 4),(ox 18 (b1 .geq 17 16))] (cd 18 (.ops [(ox 5 (.mov (iv 303)))]) .skip)) (sq [(mv 19 4),(ox 20 (.bin .add (iv 97) (.t 19))),(ox 21 (.conv .u8 (.t 20))),(ox 22 (.bslice 5 1 false [(.t 21)])),(ox 23 (.ext .b2s [(.t 22)])),(ox 24 (.bin .add (.v (.str [115])) (.t 23))),(mv 6 24)] (sq [(mv 25 3),(mv 26 6),(ox 27 (.build [(.str []),(.str [])] [(0,(1,(.v (.str [42]))))])),(ox 28 (fc 13 [(.t 25),(.t 26),(.t 27)])),(mv 29 5),(ox 30 (b2 .neq 28 29)),(mv 31 30),(of 32 (.mov (.t 5)) 31),(of 33 (b1 .eql 32 0) 31),(of 34 (.mov (.t 33)) 31),(ot 35 (.mov (.t 3)) 34),(ot 36 (.mov (.t 6)) 34),(ot 37 (.build [(.str []),(.str [])] [(0,(1,(.v (.str [42]))))]) 34),(ot 38 (fc 13 [(.t 35),(.t 36),(.t 37)]) 34),(ot 39 (b1 .neq 38 302) 34),(of 40 (.pick (.t 34) (.t 39) (.v (.bool false))) 31),(ox 41 (.pick (.t 31) (.v (.bool true)) (.t 40)))] (cd 41 (sq [(ox 2 (mb false))] .ret) .skip)))))) (.ops [(mv 15 4),(ox 16 (b1 .add 15 1)),(mv 4 16)])))))) (sq [(mv 42 0),(ox 43 (b1 .eql 42 0)),(mv 44 43),(of 45 (.mov (.t 3)) 44),(of 46 (fc 19 [(.t 45),(.v (.str [115,97]))]) 44),(of 47 (b1 .eql 46 0) 44),(of 48 (.mov (.t 47)) 44),(ot 49 (.mov (.t 3)) 48),(ot 50 (.build [(.str []),(.str [])] [(0,(1,(.v (.str [42]))))]) 48),(ot 51 (fc 13 [(.t 49),(.v (.str [110,101,119])),(.t 50)]) 48),(ot 52 (b1 .eql 51 0) 48),(of 53 (.pick (.t 48) (.t 52) (.v (.bool false))) 44),(ox 54 (.pick (.t 44) (.v (.bool true)) (.t 53))),(mv 55 54),(ot 56 (fc 18 []) 55),(ox 57 (.pick (.t 55) (.t 56) (.v (.bool false)))),(mv 2 57)] .ret)))))),58,[(.tmp 2)]⟩
end Go.Ab
namespace Go.Ab
open Go Go.Proofs
set_option maxRecDepth 20000
def QCw (p:List UInt8) (n:Int) (s:List UInt8):Rcd:=⟨p,n,[([83,85,66,83,89,83,84,69,77],s)],[],[],[],[],[],0,[],[],0⟩
theorem QNr (p:List UInt8) (n:Int) (s:List UInt8):ACalls Tryz.prog 17 [.str p,.int .i64 n,.str s] [] (.agg (QAR (QCw p n s))) []:=by
 have h:ACalls Tryz.prog 17 [.str p,.int .i64 n,.str s] [] (.agg [AV.str p,AV.int IntKind.i64 n,AV.imm [[AV.str [83,85,66,83,89,83,84,69,77],AV.str s]],AV.nils,
     AV.nils,AV.nils,AV.nils,AV.str [],AV.int IntKind.i64 0,AV.str [],AV.str [],AV.int IntKind.i64 0]) []:=by
  refine QAH cqq rfl ?_
  simp +decide -dsimp -implicitDefEqProofs [go_sem]
 exact h.nzR
theorem QVl (r:Rcd) (hf:Few r):ACalls Tryz.prog 46 [.agg (QAR r)] [] (.int .i64 (if QAk r then 0 else 250)) []:=by
 have cs:=QVc r hf
 have hcl:=fun k=>QBr k r
 unfold QAR at cs hcl ⊢
 refine QAH cqq rfl ?_
 refine gs ?_
 refine QAA cs (by rw [QAB,QAE,hcl 0]; rfl) rfl ?_
 cases hb:QAk r with
 | true=>simp +decide -dsimp -implicitDefEqProofs [go_sem]
 | false=>simp +decide -dsimp -implicitDefEqProofs [go_sem]
end Go.Ab
namespace Go.Ab
open Go Go.Proofs
set_option maxRecDepth 20000
def jkT:List AV → List AV → Prop
 | [],[]=>True
 | x :: xs,y :: ys=>(y = .junk ∨ y = x) ∧ jkT xs ys
 | _,_=>False
theorem QNs:∀ {T T':List AV},jkT T T' → T.length = T'.length ∧ ∀ (n:Nat),(T'[n]?).getD .junk = .junk ∨ (T'[n]?).getD .junk = (T[n]?).getD .junk
 | [],[],_=>⟨rfl,by simp⟩
 | x :: xs,y :: ys,h=>by
  obtain ⟨h1,h2⟩:=QNs h.2
  refine ⟨by simp [h1],fun n=>?_⟩
  cases n with
  | zero=>simpa using h.1
  | succ n=>simpa using h2 n
 | [],_ :: _,h=>h.elim
 | _ :: _,[],h=>h.elim
theorem Wk.jk {k:Nat} {T T':List AV} {H:List AObj} (h:jkT T T'):Wk k ⟨T,H⟩ ⟨T',H⟩:=fun c a hr hH hF=>by
 obtain ⟨h1,h2⟩:=QNs h
 refine ⟨c,rfl,hr,.refl k c,hH,?_⟩
 refine ⟨by rw [← hF.1]; exact h1.symm,hF.2.1,fun n=>?_⟩
 rcases h2 n with e | e
 ·rw [e]; exact QDN _ _
 ·rw [e]; exact hF.2.2 n
theorem QB6 {H:List AObj} {ob ro so:Nat} {B:Bus} (h:QB0 H ob ro so B) (l:List AObj):QB0 (H ++ l) ob ro so B ∧ BusF H (H ++ l) ob ro so B B:=by
 have ap:∀ {i:Nat} {x:AObj} (l:List AObj),H[i]? = some x → (H ++ l)[i]? = some x:=fun l hx=>by
  rw [List.getElem?_append_left (List.getElem?_eq_some_iff.1 hx).1]; exact hx
 exact ⟨⟨ap l h.box,ap l h.rdy,ap l h.sbs,h.rso,fun j p hj=>(h.sub j p hj).keep (fun _ h=>h) fun i hi=>List.getElem?_append_left (h.out i ⟨j,p,hj,hi⟩).1,fun i hi=>⟨by have:=(h.out i hi).1; simp; omega,(h.out i hi).2⟩,h.dis⟩,
   ⟨by simp,fun i hi _ _ _ h'=>⟨List.getElem?_append_left hi,h'⟩⟩⟩
theorem BusF.trans {H G I:List AObj} {ob ro so:Nat} {A B C:Bus} (h:BusF H G ob ro so A B) (k:BusF G I ob ro so B C):BusF H I ob ro so A C:=
 ⟨Nat.le_trans h.len k.len,fun i h1 h2 h3 h4 h5=>by
  obtain ⟨h6,h7⟩:=h.keep i h1 h2 h3 h4 h5
  obtain ⟨h8,h9⟩:=k.keep i (Nat.lt_of_lt_of_le h1 h.len) h2 h3 h4 h7
  exact ⟨h8.trans h6,h9⟩⟩
def Bus.put (B:Bus) (j:Nat) (k:List UInt8) (x:SbL):Bus:={ B with subs:=B.subs.set j (some (k,x)) }
theorem QCo {α:Type} {l:List (Option α)} {j i:Nat} {x p:α} (h:(l.set j (some x))[i]? = some (some p)):(i = j ∧ p = x) ∨ (i ≠ j ∧ l[i]? = some (some p)):=by
 by_cases e:j = i
 ·subst e
  rw [List.getElem?_set] at h
  simp at h
  exact .inl ⟨rfl,h.2.symm⟩
 ·rw [List.getElem?_set_ne e] at h
  exact .inr ⟨Ne.symm e,h⟩
theorem QVm {H:List AObj} {ob ro so:Nat} {B:Bus} (h:QB0 H ob ro so B) {j:Nat} {k:List UInt8} {x:SbL} (hj:B.subs[j]? = some (some (k,x))) {u:Nat} (hu:H[u]? = some .unborn) (hn:¬ B.foot u)
  {G:List AObj} (hlen:G.length = H.length) (hG:∀ i,i ∉ x.fp → i ≠ u → G[i]? = H[i]?) {s':Sb} (hs:SubAt G x.o (u :: x.fp) s'):
  QB0 G ob ro so (B.put j k ⟨x.o,u :: x.fp,s'⟩) ∧ (∀ i,i ≠ u → ¬ B.foot i → G[i]? = H[i]? ∧ ¬ (B.put j k ⟨x.o,u :: x.fp,s'⟩).foot i):=by
 have uo:ob ≠ u:=QDJ h.box hu (by simp)
 have ur:ro ≠ u:=QDJ h.rdy hu (by simp)
 have us:so ≠ u:=QDJ h.sbs hu (by simp)
 have ul:=(List.getElem?_eq_some_iff.1 hu).1
 have fx:∀ i,i ∈ x.fp → B.foot i:=fun i hi=>⟨j,(k,x),hj,hi⟩
 have nf:∀ i,¬ B.foot i → i ≠ u → G[i]? = H[i]?:=fun i h1 h2=>hG i (fun h3=>h1 (fx i h3)) h2
 have no:¬ B.foot ob:=fun e=>(h.out ob e).2.1 rfl
 have nr:¬ B.foot ro:=fun e=>(h.out ro e).2.2.1 rfl
 have ns:¬ B.foot so:=fun e=>(h.out so e).2.2.2 rfl
 have ft:∀ i,(B.put j k ⟨x.o,u :: x.fp,s'⟩).foot i → i = u ∨ B.foot i:=fun i ⟨m,p,h1,h2⟩=>by
  rcases QCo h1 with ⟨_,rfl⟩ | ⟨_,h3⟩
  ·rcases List.mem_cons.1 h2 with h4 | h4
   ·exact .inl h4
   ·exact .inr (fx i h4)
  ·exact .inr ⟨m,p,h3,h2⟩
 have hsb:sbM (B.put j k ⟨x.o,u :: x.fp,s'⟩).subs = sbM B.subs:=by
  show List.map _ (B.subs.set j _) = List.map _ B.subs
  rw [List.map_set]
  exact QCe (by rw [List.getElem?_map,hj]; rfl)
 refine ⟨⟨(nf ob no uo).trans h.box,(nf ro nr ur).trans h.rdy,by rw [hsb]; exact (nf so ns us).trans h.sbs,h.rso,fun m p hm=>?_,fun i hi=>?_,fun a b p q hab ha hb y hy=>?_⟩,fun i h1 h2=>⟨nf i h2 h1,fun h3=>?_⟩⟩
 ·rcases QCo hm with ⟨_,rfl⟩ | ⟨hmj,h3⟩
  ·exact hs
  ·exact (h.sub m p h3).keep (fun _ h=>h) fun i hi=>hG i (h.dis m j p (k,x) hmj h3 hj i hi) fun e=>hn (e ▸ ⟨m,p,h3,hi⟩)
 ·rcases ft i hi with rfl | h3
  ·exact ⟨by omega,Ne.symm uo,Ne.symm ur,Ne.symm us⟩
  ·rw [hlen]; exact h.out i h3
 ·rcases QCo ha with ⟨ea,rfl⟩ | ⟨ea,h3⟩
  ·rcases QCo hb with ⟨eb,rfl⟩ | ⟨eb,h4⟩
   ·exact (hab (ea.trans eb.symm)).elim
   ·rcases List.mem_cons.1 hy with rfl | h5
    ·exact fun h6=>hn ⟨b,q,h4,h6⟩
    ·exact h.dis j b (k,x) q (Ne.symm eb) hj h4 y h5
  ·rcases QCo hb with ⟨eb,rfl⟩ | ⟨eb,h4⟩
   ·intro h5
    rcases List.mem_cons.1 h5 with rfl | h5
    ·exact hn ⟨a,p,h3,hy⟩
    ·exact h.dis a j p (k,x) ea h3 hj y hy h5
   ·exact h.dis a b p q hab h3 h4 y hy
 ·rcases ft i h3 with rfl | h4
  ·exact h1 rfl
  ·exact h2 h4
end Go.Ab
