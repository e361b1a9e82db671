/- The tape, where it stands; what the law's turns draw from it. -/
import Derived.Test.YtneghlianebffaaGreatDoorW3
import Derived.Test.YtneghlianebffaaGreatDoorW2
import Derived.Test.YtneghlianebffaaGreatDoorKN
import Derived.Test.YtneghlianebffaaGreatDoorS2
import Derived.Test.YtneghlianebffaaGreatDoorR1P
namespace Go.Ab
open Go Go.Proofs
set_option maxRecDepth 20000
theorem QF8 {f:Nat} {ys:List AV} {t:List Int} {k:Nat} {Q:AV → Nat → Prop} (h:ACallsR Tryz.prog f (.ptr 0 0 :: ys) [QAO t k] (fun v G=>∃ k',Q v k' ∧ G = [QAO t k'])) {ot:Nat} {H:List AObj} (ha:QBt [ot] ys = ys) (hQ:∀ v k',Q v k' → ren [ot] v = v) (hH:H[ot]? = some (QAO t k)):
  ACallsR Tryz.prog f (.ptr ot 0 :: ys) H (fun v G=>∃ k',Q v k' ∧ G = H.set ot (QAO t k')):=by
 have h2:=ACallsR.frame (H:=H) [ot] h rfl (fun v G ⟨k',_,e⟩=>by rw [e]; rfl) (by simp) (fun j p x hj hx=>by
  cases j with
  | zero=>simp at hj hx; subst hj; subst hx; rw [QAI]; exact hH
  | succ j=>simp at hj)
 rw [QBt,ha] at h2
 have e0:ren [ot] (.ptr 0 0) = .ptr ot 0:=rfl
 rw [e0] at h2
 refine h2.mono fun v G ⟨av,He',⟨k',q1,q2⟩,e1,e2⟩=>⟨k',?_,?_⟩
 ·rw [e1,hQ _ _ q1]; exact q1
 ·rw [e2,q2]; simp [QBd,QAI]
theorem QB2 {t:List Int} {k:Nat} {ot:Nat} {H:List AObj} (hH:H[ot]? = some (QAO t k)) (hk:k < 1000000) (n:Int) (hn:1 ≤ n ∧ n ≤ 1000000):ACallsR Tryz.prog 20 [.ptr ot 0,.int .i64 n] H (fun v G=>∃ x,v = .int .i64 x ∧ (0 ≤ x ∧ x < n) ∧ G = H.set ot (QAO t (k + 1))):=by
 have h1:=(QDW t k n (by omega) (by omega)).toR
 have h2:=QF8 (Q:=fun v k'=>v = .int .i64 (QFg (QAx t k) n) ∧ k' = k + 1) (h1.mono fun v G ⟨e1,e2⟩=>⟨k + 1,⟨e1,rfl⟩,e2⟩) (ot:=ot) rfl (fun v k' ⟨e,_⟩=>by rw [e]; rfl) hH
 have b:=QCi (QAx t k) n (by omega)
 exact h2.mono fun v G ⟨k',⟨e1,e2⟩,e3⟩=>⟨_,e1,by omega,by rw [e3,e2]⟩
theorem QJa {t:List Int} {k:Nat} {ot:Nat} {H:List AObj} (hH:H[ot]? = some (QAO t k)) (hk:k < 1000000) (ss:List Txt) (h0:ss ≠ []) (hs:ss.length < 1000000000):ACallsR Tryz.prog 24 [.ptr ot 0,.imm (ss.map QAT)] H (fun v G=>∃ s,v = .str s ∧ s ∈ ss ∧ G = H.set ot (QAO t (k + 1))):=by
 have h1:=(QE8 t k ss (by omega) h0 hs).toR
 have h2:=QF8 (Q:=fun v k'=>v = .str (QHq ss (QAx t k)) ∧ k' = k + 1) (h1.mono fun v G ⟨e1,e2⟩=>⟨k + 1,⟨e1,rfl⟩,e2⟩) (ot:=ot) (by simp [QEP,QBt,ren,QCU]) (fun v k' ⟨e,_⟩=>by rw [e]; rfl) hH
 exact h2.mono fun v G ⟨k',⟨e1,e2⟩,e3⟩=>⟨_,e1,QBw _ h0,by rw [e3,e2]⟩
def subS:List Txt:=[[42],[98,108,111,99,107],[110,101,116,124,98,108,111,99,107],[98,42],[117,115,98],[91],[]]
def tagS:List Txt:=[[],[],[115,101,97,116],[115,42],[117,97,99,99,101,115,115],[91,97]]
theorem QSS:∀ s ∈ subS,s.length ≤ 1000:=by decide
theorem QST:∀ s ∈ tagS,s.length ≤ 1000:=by decide
def QLh (f:Flt):Prop:=f.sub.length ≤ 1000 ∧ f.tag.length ≤ 1000
theorem QSU (t:List Int) (k:Nat) (hk:k + 1 < 1000000):ACallsR Tryz.prog 30 [.ptr 0 0] [QAO t k] (fun v G=>∃ k',(∃ f,v = .agg (QBM f) ∧ QLh f ∧ k' = k + 2) ∧ G = [QAO t k']):=by
 refine QKY _ 0 cqq ?_
 have hs:[[AV.str [42]],[.str [98,108,111,99,107]],[.str [110,101,116,124,98,108,111,99,107]],[.str [98,42]],[.str [117,115,98]],[.str [91]],[.str []]] = subS.map QAT:=rfl
 have ht:[[AV.str []],[.str []],[.str [115,101,97,116]],[.str [115,42]],[.str [117,97,99,99,101,115,115]],[.str [91,97]]] = tagS.map QAT:=rfl
 refine gs ?_
 rw [hs]
 refine QAS (QJa (t:=t) (k:=k) rfl (by omega) subS (by decide) (by decide)) ?_
 rintro _ _ ⟨a,rfl,ha,rfl⟩
 refine gs ?_
 rw [ht]
 refine QAS (QJa (t:=t) (k:=k + 1) rfl (by omega) tagS (by decide) (by decide)) ?_
 rintro _ _ ⟨b,rfl,hb,rfl⟩
 refine gs ?_
 refine QBE (.agg (QBM ⟨a,b⟩)) [QAO t (k + 2)] ⟨k + 2,⟨_,rfl,⟨QSS a ha,QST b hb⟩,rfl⟩,rfl⟩ rfl ?_
 simp +decide -dsimp -implicitDefEqProofs [go_sem,QAO,QBM]
 omega
theorem QQP {t:List Int} {k:Nat} {ot:Nat} {H:List AObj} (hH:H[ot]? = some (QAO t k)) (hk:k + 1 < 1000000):ACallsR Tryz.prog 30 [.ptr ot 0] H (fun v G=>∃ f,v = .agg (QBM f) ∧ QLh f ∧ G = H.set ot (QAO t (k + 2))):=
 (QF8 (QSU t k hk) rfl (fun v k' ⟨f,e,_⟩=>by rw [e]; rfl) hH).mono fun v G ⟨k',⟨f,e1,e2,e3⟩,e4⟩=>⟨f,e1,e2,by rw [e4,e3]⟩
def abcS:List Txt:=[[47,97],[47,98],[47,99]]
def QaZ (k:Nat) (v:AV) (k':Nat):Prop:=∃ p:Txt,v = .str p ∧ p.length ≤ 245 ∧ k' ≤ k + 20
theorem QYf (t:List Int) (k:Nat) (hk:k + 20 < 1000000) (W:RBus) {n:Nat} (h:RbOk W n) (hn:n ≤ 1000):ACallsR Tryz.prog 25 [.ptr 0 0,.agg (QBA W)] [QAO t k] (fun v G=>∃ k',QaZ k v k' ∧ G = [QAO t k']):=by
 have hcl:=fun k=>QA1 k W.subs
 have hcr:=fun k=>QAM k W.ready
 have rl:=h.rl
 have hs:[[AV.str [47,97]],[.str [47,98]],[.str [47,99]]] = abcS.map QAT:=rfl
 have mp:∀ {t k} {H:List AObj},H[0]? = some (QAO t k) → k < 1000000 → ACallsR Tryz.prog 57 [.ptr 0 0] H (fun v G=>∃ k',(∃ p:Txt,v = .str p ∧ p.length ≤ 245 ∧ k' ≤ k + 10) ∧ G = H.set 0 (QAO t k')):=fun {t k H} hH hk=>
  QF8 ((QUt t k (by omega)).mono fun v G ⟨p,k',e1,e2,e3,e4⟩=>⟨k',⟨p,e1,by have:=QBV e3; omega,by omega⟩,e2⟩) rfl (fun v k' ⟨p,e,_⟩=>by rw [e]; rfl) hH
 refine QKY _ 0 cqq ?_
 unfold QBA
 by_cases hr:W.ready = []
 ·simp +decide -dsimp -implicitDefEqProofs [go_sem,hr]
  refine QAS (mp (t:=t) (k:=k) rfl (by omega)) ?_
  rintro _ _ ⟨k',⟨p,rfl,q1,q2⟩,rfl⟩
  refine gs ?_
  refine QBE (.str p) [QAO t k'] ⟨k',⟨p,rfl,q1,by omega⟩,rfl⟩ rfl ?_
  simp +decide -dsimp -implicitDefEqProofs [go_sem,QAO]
 have hr0:0 < W.ready.length:=List.length_pos_iff.2 hr
 simp +decide -dsimp -implicitDefEqProofs [go_sem,hr0]
 refine QAS (QB2 (t:=t) (k:=k) rfl (by omega) 3 (by decide)) ?_
 rintro _ _ ⟨x,rfl,hx,rfl⟩
 by_cases hx0:0 < x
 rotate_left
 ·simp +decide -dsimp -implicitDefEqProofs [go_sem,hx0]
  refine QAS (mp (t:=t) (k:=k + 1) rfl (by omega)) ?_
  rintro _ _ ⟨k',⟨p,rfl,q1,q2⟩,rfl⟩
  refine gs ?_
  refine QBE (.str p) [QAO t k'] ⟨k',⟨p,rfl,q1,by omega⟩,rfl⟩ rfl ?_
  simp +decide -dsimp -implicitDefEqProofs [go_sem,QAO]
 have o2:=QDW t (k + 1) W.ready.length (by omega) (by omega)
 have b2:=QCi (QAx t (k + 1)) W.ready.length (by omega)
 obtain ⟨y,hy⟩:∃ y:Nat,QFg (QAx t (k + 1)) W.ready.length = y:=⟨_,(Int.toNat_of_nonneg b2.1).symm⟩
 rw [hy] at o2 b2
 have hyl:y < W.ready.length:=by omega
 obtain ⟨r,hr⟩:∃ r,r = W.ready[y]:=⟨_,rfl⟩
 have s2:QAR W.ready[y] = QAR r:=by rw [hr]
 have hp:=QBV (QAm (h.rs r (hr ▸ List.getElem_mem hyl)))
 rw [QAc r] at s2
 simp +decide -dsimp -implicitDefEqProofs [go_sem,hx0]
 refine QAu [0] o2 rfl rfl (by simp) rfl (by simp +decide -dsimp -implicitDefEqProofs [go_sem,QAI]) ?_
 simp +decide -dsimp -implicitDefEqProofs [go_sem,QAI,hyl,s2]
 refine QAS (QB2 (t:=t) (k:=k + 2) rfl (by omega) 2 (by decide)) ?_
 rintro _ _ ⟨z,rfl,hz,rfl⟩
 by_cases hz0:z = 0
 ·simp +decide -dsimp -implicitDefEqProofs [go_sem,hz0]
  rw [hs]
  refine QAS (QJa (t:=t) (k:=k + 3) rfl (by omega) abcS (by decide) (by decide)) ?_
  rintro _ _ ⟨b,rfl,hb,rfl⟩
  have hbl:b.length = 2:=by
   have key:∀ s ∈ abcS,s.length = 2:=by decide
   exact key b hb
  simp +decide -dsimp -implicitDefEqProofs [go_sem,hbl]
  refine ⟨by omega,?_⟩
  refine QBE (.str (r.path ++ b)) [QAO t (k + 4)] ⟨k + 4,⟨_,rfl,by rw [List.length_append]; omega,by omega⟩,rfl⟩ rfl ?_
  simp +decide -dsimp -implicitDefEqProofs [go_sem,QAO]
  omega
 ·simp +decide -dsimp -implicitDefEqProofs [go_sem,hz0]
  refine QBE (.str r.path) [QAO t (k + 3)] ⟨k + 3,⟨_,rfl,by omega,by omega⟩,rfl⟩ rfl ?_
  simp +decide -dsimp -implicitDefEqProofs [go_sem,QAO]
  omega
theorem QQQ (is:List Nat) (s:RSb):QBt is (QAv s) = QAv s:=by simp [QAv,QBt,ren,QBh,QCU]
theorem QJb (is:List Nat):∀ l:List RSb,QBL is (l.map QAv) = l.map QAv
 | []=>rfl
 | x :: l=>by rw [List.map_cons,QBL,QQQ,QJb is l]
theorem QSV (is:List Nat) (W:RBus):QBt is (QBA W) = QBA W:=by simp [QBA,QBt,ren,QDD,QJb]
theorem QVO {t:List Int} {k:Nat} {ot:Nat} {H:List AObj} (hH:H[ot]? = some (QAO t k)) (hk:k + 20 < 1000000) {W:RBus} {n:Nat} (h:RbOk W n) (hn:n ≤ 1000):ACallsR Tryz.prog 25 [.ptr ot 0,.agg (QBA W)] H (fun v G=>∃ p:Txt,∃ k',v = .str p ∧ p.length ≤ 245 ∧ k' ≤ k + 20 ∧ G = H.set ot (QAO t k')):=
 (QF8 (QYf t k hk W h hn) (by simp [QBt,ren,QSV]) (fun v k' ⟨f,e,_⟩=>by rw [e]; rfl) hH).mono fun v G ⟨k',⟨p,e1,e2,e3⟩,e4⟩=>⟨p,k',e1,e2,e3,e4⟩
end Go.Ab
/- A turn's state: the bus, the tape, what is the turn's own. -/

namespace Go.Ab
open Go Go.Proofs
set_option maxRecDepth 20000
theorem QFZ {x:RSb} {nm:Txt}:∀ {l:List RSb},x ∈ QGI nm l → x ∈ l
 | t :: l,h=>by
  unfold QGI at h
  split at h
  ·exact List.mem_cons_of_mem _ h
  ·rcases List.mem_cons.1 h with h | h
   ·exact h ▸ List.mem_cons_self
   ·exact List.mem_cons_of_mem _ (QFZ h)
theorem QH0 {x y:RSb} {nm:Txt}:∀ {l:List RSb},x ∈ QEF nm y l → x = y ∨ x ∈ l
 | t :: l,h=>by
  unfold QEF at h
  split at h
  ·rcases List.mem_cons.1 h with h | h
   ·exact .inl h
   ·exact .inr (List.mem_cons_of_mem _ h)
  ·rcases List.mem_cons.1 h with h | h
   ·exact .inr (h ▸ List.mem_cons_self)
   ·rcases QH0 h with h | h
    ·exact .inl h
    ·exact .inr (List.mem_cons_of_mem _ h)
theorem QNc (nm:Txt):∀ l:List RSb,(QGI nm l).length ≤ l.length
 | []=>Nat.le_refl _
 | t :: l=>by
  unfold QGI
  split
  ·simp
  ·simp only [List.length_cons]; exact Nat.succ_le_succ (QNc nm l)
theorem QKc (nm:Txt) (y:RSb):∀ l:List RSb,(QEF nm y l).length = l.length
 | []=>rfl
 | t :: l=>by
  unfold QEF
  split
  ·rfl
  ·simp only [List.length_cons,QKc nm y l]
theorem RbOk.sub {W:RBus} {n:Nat} (h:RbOk W n) (nm:Txt) {f:Flt} (hf:QLh f):RbOk (W.subR nm f).1 (n + 1):=by
 have h0:=h.le (Nat.le_succ n)
 unfold RBus.subR
 split
 ·split
  ·exact h0
  ·split
   ·exact h0
   ·split
    ·exact h0
    ·rename_i hl
     refine ⟨fun t ht=>?_,fun t ht=>?_,fun t ht=>?_,fun t ht=>?_,by show (W.subs ++ _).length ≤ 16; simp; omega,h0.rs,h0.rl,h0.q0,h0.q1⟩ <;> rcases List.mem_append.1 ht with ht | ht
     ·exact h0.fl t ht
     ·simp at ht; subst ht; exact hf
     ·exact h0.sl t ht
     ·simp at ht; subst ht; simp
     ·exact h0.wl t ht
     ·simp at ht; subst ht; simp
     ·exact h0.wr t ht
     ·simp at ht; subst ht; simp
 ·exact h0
theorem RbOk.uns {W:RBus} {n:Nat} (h:RbOk W n) (nm:Txt):RbOk (W.unsR nm).1 (n + 1):=by
 have h0:=h.le (Nat.le_succ n)
 unfold RBus.unsR
 split
 ·exact ⟨fun t ht=>h0.fl t (QFZ ht),fun t ht=>h0.sl t (QFZ ht),fun t ht=>h0.wl t (QFZ ht),fun t ht=>h0.wr t (QFZ ht),Nat.le_trans (QNc _ _) h0.nl,h0.rs,h0.rl,h0.q0,h0.q1⟩
 ·exact h0
theorem RbOk.read {W:RBus} {n:Nat} (h:RbOk W n) (nm:Txt) (m:Int):RbOk (W.readR nm m).1 (n + 1):=by
 have h0:=h.le (Nat.le_succ n)
 unfold RBus.readR
 cases hf:W.find nm with
 | none=>exact h0
 | some t=>
  have htm:t ∈ W.subs:=List.mem_of_find?_eq_some hf
  have hw:(W.wanted t.f).length ≤ n + 1:=Nat.le_trans (List.length_filter_le _ _) h0.rl
  simp only
  split
  ·refine ⟨fun x hx=>?_,fun x hx=>?_,fun x hx=>?_,fun x hx=>?_,by show (QEF _ _ _).length ≤ 16; rw [QKc]; exact h0.nl,h0.rs,h0.rl,h0.q0,h0.q1⟩ <;> rcases QH0 hx with rfl | hx
   ·exact h0.fl t htm
   ·exact h0.fl x hx
   ·simpa using hw
   ·exact h0.sl x hx
   ·exact h0.wl t htm
   ·exact h0.wl x hx
   ·exact h0.wr t htm
   ·exact h0.wr x hx
  ·refine ⟨fun x hx=>?_,fun x hx=>?_,fun x hx=>?_,fun x hx=>?_,by show (QEF _ _ _).length ≤ 16; rw [QKc]; exact h0.nl,h0.rs,h0.rl,h0.q0,h0.q1⟩ <;> rcases QH0 hx with rfl | hx
   ·exact h0.fl t htm
   ·exact h0.fl x hx
   ·exact h0.sl t htm
   ·exact h0.sl x hx
   ·exact Nat.le_trans (by show (List.drop _ _).length ≤ _; rw [List.length_drop]; omega) (h0.wl t htm)
   ·exact h0.wl x hx
   ·exact fun y hy=>h0.wr t htm y (List.mem_of_mem_drop hy)
   ·exact h0.wr x hx
theorem RbOk.ready {W:RBus} {n:Nat} (h:RbOk W n) (r:Rcd):RbOk (W.readyR r).1 (n + 1):=by
 have h0:=h.le (Nat.le_succ n)
 have key:QAk r = true → RbOk (({ W with ready:=QFu (QBk W.ready r.path) r }:RBus).tell r true) (n + 1):=fun hs=>by
  refine h.tell _ r true hs (fun x hx=>?_) ?_
  ·rcases (QHu _ r x).1 hx with rfl | hx
   ·exact hs
   ·exact h.rs x (QCj.1 hx).1
  ·rw [QM4]
   have:=h.rl
   have:(QBk W.ready r.path).length ≤ W.ready.length:=List.length_filter_le _ _
   omega
 unfold RBus.readyR
 split
 ·rename_i hs
  split
  ·exact h0
  ·split
   ·split
    ·exact key hs
    ·exact h0
   ·exact key hs
 ·exact h0
theorem RbOk.gone {W:RBus} {n:Nat} (h:RbOk W n) (p:Txt):RbOk (W.goneR p).1 (n + 1):=by
 have h0:=h.le (Nat.le_succ n)
 unfold RBus.goneR
 split
 ·exact h0
 ·rename_i r hr
  split
  ·exact h0
  ·refine h.tell _ r false (h.rs r (List.mem_of_find?_eq_some hr)) (fun x hx=>h.rs x (QCj.1 hx).1) ?_
   have:=h.rl
   have:(QBk W.ready p).length ≤ W.ready.length:=List.length_filter_le _ _
   omega
def stuS:List Txt:=[[115],[116],[117]]
def QMb (raw nm:Txt):Prop:=nm = raw ∨ nm ∈ stuS
inductive Stp (raw:Txt) (W:RBus):RBus → Prop
 | same:Stp raw W W
 | sub (nm:Txt) (f:Flt):QMb raw nm → QLh f → Stp raw W (W.subR nm f).1
 | uns (nm:Txt):QMb raw nm → Stp raw W (W.unsR nm).1
 | ready (r:Rcd):Stp raw W (W.readyR r).1
 | gone (p:Txt):Stp raw W (W.goneR p).1
 | read (nm:Txt) (m:Int):QMb raw nm → Stp raw W (W.readR nm m).1
theorem Stp.ok {raw:Txt} {W W':RBus} {n:Nat} (h:RbOk W n) (hs:Stp raw W W'):RbOk W' (n + 1):=by
 cases hs with
 | same=>exact h.le (Nat.le_succ n)
 | sub nm f _ hf=>exact h.sub nm hf
 | uns nm _=>exact h.uns nm
 | ready r=>exact h.ready r
 | gone p=>exact h.gone p
 | read nm m _=>exact h.read nm m
theorem Bx.mono {H:List AObj} {ob ro so:Nat} {W:RBus} {n:Nat} {K K':Nat → Prop} {B:Bus} (h:Bx H ob ro so W n K B) (hk:∀ i,K' i → K i):Bx H ob ro so W n K' B:=
 ⟨h.at_,h.cp,h.la,h.q0,h.q1,h.rl,h.wl,fun i hi=>h.kp i (hk i hi)⟩
theorem Bx.set {H:List AObj} {ob ro so:Nat} {W:RBus} {n:Nat} {K:Nat → Prop} {B:Bus} (h:Bx H ob ro so W n K B) {i:Nat} (hi:K i) (x:AObj):Bx (H.set i x) ob ro so W n K B:=by
 obtain ⟨h1,h2⟩:=h.kp i hi
 have hne:∀ j,QQw ob ro so B j → (H.set i x)[j]? = H[j]?:=fun j hj=>List.getElem?_set_ne (by rintro rfl; exact h2 hj)
 refine ⟨⟨?_,?_,?_,h.at_.rso,fun j p hp=>?_,fun j hj=>?_,h.at_.dis⟩,h.cp,h.la,h.q0,h.q1,h.rl,h.wl,fun j hj=>?_⟩
 ·rw [hne _ (.inl rfl)]; exact h.at_.box
 ·rw [hne _ (.inr (.inl rfl))]; exact h.at_.rdy
 ·rw [hne _ (.inr (.inr (.inl rfl)))]; exact h.at_.sbs
 ·exact (h.at_.sub j p hp).keep (fun _ h=>h) fun q hq=>hne q (.inr (.inr (.inr ⟨j,p,hp,hq⟩)))
 ·rw [List.length_set]; exact h.at_.out j hj
 ·rw [List.length_set]; exact h.kp j hj
theorem Bx.new {H:List AObj} {ob ro so:Nat} {W:RBus} {n:Nat} {K K':Nat → Prop} {B:Bus} (h:Bx H ob ro so W n K B) (l:List AObj) (hk:∀ i,K' i → K i ∨ (H.length ≤ i ∧ i < H.length + l.length)):Bx (H ++ l) ob ro so W n K' B:=by
 have h1:=h.app l
 refine ⟨h1.at_,h1.cp,h1.la,h1.q0,h1.q1,h1.rl,h1.wl,fun i hi=>?_⟩
 rcases hk i hi with hi | ⟨e1,e2⟩
 ·exact h1.kp i hi
 ·refine ⟨by rw [List.length_append]; exact e2,?_⟩
  have l1:=(List.getElem?_eq_some_iff.1 h.at_.box).1
  have l2:=(List.getElem?_eq_some_iff.1 h.at_.rdy).1
  have l3:=(List.getElem?_eq_some_iff.1 h.at_.sbs).1
  rintro (e | e | e | e)
  ·omega
  ·omega
  ·omega
  ·have:=(h.at_.out i e).1; omega
structure CS (H:List AObj) (ot ob ro so:Nat) (t:List Int) (k:Nat) (W:RBus) (n:Nat) (K:Nat → Prop) (L:List (Nat × AObj)) (G:List AObj):Prop where
 bx:∃ B,Bx G ob ro so W n (fun i=>K i ∨ ∃ p ∈ L,p.1 = i) B
 kt:K ot
 tp:G[ot]? = some (QAO t k)
 old:∀ i,K i → i ≠ ot → G[i]? = H[i]?
 loc:∀ p ∈ L,G[p.1]? = some p.2
 nl:∀ p ∈ L,¬ K p.1
 hl:H.length ≤ G.length
section
variable {H:List AObj} {ot ob ro so:Nat} {t:List Int} {k:Nat} {W:RBus} {n:Nat} {K:Nat → Prop} {L:List (Nat × AObj)} {G:List AObj}
theorem CS.init (hb:∃ B,Bx H ob ro so W n K B) (kt:K ot) (tp:H[ot]? = some (QAO t k)):CS H ot ob ro so t k W n K [] H:=
 ⟨hb.imp fun _ h=>h.mono fun i hi=>by simpa using hi,kt,tp,fun _ _ _=>rfl,by simp,by simp,Nat.le_refl _⟩
theorem CS.tape (h:CS H ot ob ro so t k W n K L G) (k':Nat):CS H ot ob ro so t k' W n K L (G.set ot (QAO t k')):=by
 obtain ⟨B,hB⟩:=h.bx
 have hlt:=(List.getElem?_eq_some_iff.1 h.tp).1
 refine ⟨⟨B,hB.set (.inl h.kt) _⟩,h.kt,List.getElem?_set_self hlt,fun i hi hne=>?_,fun p hp=>?_,h.nl,by rw [List.length_set]; exact h.hl⟩
 ·rw [List.getElem?_set_ne (Ne.symm hne)]; exact h.old i hi hne
 ·rw [List.getElem?_set_ne (by rintro e; exact h.nl p hp (by rw [← e]; exact h.kt))]; exact h.loc p hp
theorem CS.new (h:CS H ot ob ro so t k W n K L G) (l:List AObj) (L':List (Nat × AObj)) (hL:∀ p ∈ L',p ∈ L ∨ (G.length ≤ p.1 ∧ l[p.1 - G.length]? = some p.2)):CS H ot ob ro so t k W n K L' (G ++ l):=by
 obtain ⟨B,hB⟩:=h.bx
 have hk:∀ i,K i → i < G.length:=fun i hi=>(hB.kp i (.inl hi)).1
 refine ⟨⟨B,hB.new l fun i hi=>?_⟩,h.kt,?_,fun i hi hne=>?_,fun p hp=>?_,fun p hp=>?_,by rw [List.length_append]; have:=h.hl; omega⟩
 ·rcases hi with hi | ⟨p,hp,rfl⟩
  ·exact .inl (.inl hi)
  ·rcases hL p hp with hp | ⟨h1,h2⟩
   ·exact .inl (.inr ⟨p,hp,rfl⟩)
   ·have:=(List.getElem?_eq_some_iff.1 h2).1
    exact .inr ⟨h1,by omega⟩
 ·rw [List.getElem?_append_left (hk _ h.kt)]; exact h.tp
 ·rw [List.getElem?_append_left (hk _ hi)]; exact h.old i hi hne
 ·rcases hL p hp with hp | ⟨h1,h2⟩
  ·rw [List.getElem?_append_left (List.getElem?_eq_some_iff.1 (h.loc p hp)).1]; exact h.loc p hp
  ·rw [List.getElem?_append_right h1]; exact h2
 ·rcases hL p hp with hp | ⟨h1,h2⟩
  ·exact h.nl p hp
  ·intro e; have:=hk _ e; omega
theorem CS.upd (h:CS H ot ob ro so t k W n K L G) {b:Nat} (hb:∃ p ∈ L,p.1 = b) (y:AObj) (L':List (Nat × AObj)) (hL:∀ p ∈ L',(p ∈ L ∧ p.1 ≠ b) ∨ p = (b,y)):CS H ot ob ro so t k W n K L' (G.set b y):=by
 obtain ⟨B,hB⟩:=h.bx
 obtain ⟨p0,hp0,rfl⟩:=hb
 have hlt:=(List.getElem?_eq_some_iff.1 (h.loc p0 hp0)).1
 have hnk:=h.nl p0 hp0
 refine ⟨⟨B,(hB.set (.inr ⟨p0,hp0,rfl⟩) y).mono fun i hi=>?_⟩,h.kt,?_,fun i hi hne=>?_,fun p hp=>?_,fun p hp=>?_,by rw [List.length_set]; exact h.hl⟩
 ·rcases hi with hi | ⟨p,hp,rfl⟩
  ·exact .inl hi
  ·rcases hL p hp with ⟨hp,_⟩ | rfl
   ·exact .inr ⟨p,hp,rfl⟩
   ·exact .inr ⟨p0,hp0,rfl⟩
 ·rw [List.getElem?_set_ne (by rintro e; exact hnk (by rw [e]; exact h.kt))]; exact h.tp
 ·rw [List.getElem?_set_ne (by rintro e; exact hnk (by rw [e]; exact hi))]; exact h.old i hi hne
 ·rcases hL p hp with ⟨hp,hne⟩ | rfl
  ·rw [List.getElem?_set_ne (Ne.symm hne)]; exact h.loc p hp
  ·exact List.getElem?_set_self hlt
 ·rcases hL p hp with ⟨hp,_⟩ | rfl
  ·exact h.nl p hp
  ·exact hnk
theorem CS.bus (h:CS H ot ob ro so t k W n K L G) {W':RBus} {n':Nat} {G':List AObj} (hx:bxR G ob ro so W' n' (fun i=>K i ∨ ∃ p ∈ L,p.1 = i) G'):CS H ot ob ro so t k W' n' K L G':=by
 obtain ⟨hB,hk,hl⟩:=hx
 exact ⟨hB,h.kt,by rw [hk _ (.inl h.kt)]; exact h.tp,fun i hi hne=>by rw [hk i (.inl hi)]; exact h.old i hi hne,fun p hp=>by rw [hk _ (.inr ⟨p,hp,rfl⟩)]; exact h.loc p hp,h.nl,Nat.le_trans h.hl hl⟩
end
end Go.Ab
namespace Go.Ab
open Go Go.Proofs
set_option maxRecDepth 20000
theorem QLi {W:RBus} {n:Nat} (h:RbOk W n) (nm:Txt) (m:Int):(∀ x ∈ (W.readR nm m).2.1,QAk x.rc = true) ∧ (W.readR nm m).2.1.length ≤ n + 64:=by
 unfold RBus.readR
 cases hf:W.find nm with
 | none=>simp
 | some t=>
  have htm:t ∈ W.subs:=List.mem_of_find?_eq_some hf
  simp only
  split
  ·refine ⟨fun x hx=>?_,?_⟩
   ·obtain ⟨r,hr,rfl⟩:=List.mem_map.1 hx
    exact h.rs r (List.mem_filter.1 hr).1
   ·rw [List.length_map]
    have:=List.length_filter_le (QA4 t.f) W.ready
    have:=h.rl
    unfold RBus.wanted; omega
  ·refine ⟨fun x hx=>h.wr t htm x (List.mem_of_mem_take hx),?_⟩
   have:=h.wl t htm
   rw [List.length_take]; omega
theorem QYg {t:List Int} {k:Nat} {ot:Nat} {H:List AObj} (hH:H[ot]? = some (QAO t k)) (hk:k < 1000000) (p:Txt) (n:Int) (hn:1 ≤ n ∧ n ≤ 1073741824) (hp:p.length ≤ 400):ACallsR Tryz.prog 26 [.ptr ot 0,.str p,.int .i64 n] H (fun v G=>∃ r:Rcd,∃ k',v = .agg (QAR r) ∧ Small r ∧ k' ≤ k + 100 ∧ G = H.set ot (QAO t k')):=
 (QF8 (Q:=fun v k'=>∃ r:Rcd,v = .agg (QAR r) ∧ Small r ∧ k' ≤ k + 100) ((QP9 t k p n (by omega) hn).mono fun v G ⟨r,k',e1,e2,e3,e4,e5,e6⟩=>⟨k',⟨r,e1,by
  have h:=QEr (e3 [47,97] (by decide))
  exact ⟨by rw [e4]; exact hp,h.props,h.attr,h.tags,h.tag,h.links,h.link,h.runs,h.run,h.loads,h.load,h.name,h.owner,h.group⟩,e6⟩,e2⟩) rfl (fun v k' ⟨r,e,_⟩=>by rw [e]; simp [ren,QD9]) hH).mono fun v G ⟨k',⟨r,e1,e2,e3⟩,e4⟩=>⟨r,k',e1,e2,e3,e4⟩
theorem QQR {t:List Int} {k:Nat} {ot:Nat} {H:List AObj} (hH:H[ot]? = some (QAO t k)) (hk:k < 1000000) (r:Rcd) (hr:Small r):ACallsR Tryz.prog 51 [.ptr ot 0,.agg (QAR r)] H (fun v G=>∃ r:Rcd,∃ k',v = .agg (QAR r) ∧ Few r ∧ k' ≤ k + 30 ∧ G = H.set ot (QAO t k')):=
 (QF8 (Q:=fun v k'=>∃ r:Rcd,v = .agg (QAR r) ∧ Few r ∧ k' ≤ k + 30) ((QSG t k r (by omega) hr).mono fun v G ⟨r,k',e1,e2,e3,e4⟩=>⟨k',⟨r,e1,e3,e4⟩,e2⟩) (by simp [QBt,ren,QD9]) (fun v k' ⟨r,e,_⟩=>by rw [e]; simp [ren,QD9]) hH).mono fun v G ⟨k',⟨r,e1,e2,e3⟩,e4⟩=>⟨r,k',e1,e2,e3,e4⟩
structure Agr (raw:Txt) (V W:RBus):Prop where
 sub:∀ nm f,QMb raw nm → (V.subR nm f).2 = (W.subR nm f).2
 uns:∀ nm,QMb raw nm → (V.unsR nm).2 = (W.unsR nm).2
 ready:∀ r,(V.readyR r).2 = (W.readyR r).2
 gone:∀ p,(V.goneR p).2 = (W.goneR p).2
 read:∀ nm m,QMb raw nm → (V.readR nm m).2 = (W.readR nm m).2
theorem Agr.refl (raw:Txt) (W:RBus):Agr raw W W:=⟨fun _ _ _=>rfl,fun _ _=>rfl,fun _=>rfl,fun _=>rfl,fun _ _ _=>rfl⟩
inductive Stp2 (raw:Txt) (V W:RBus):RBus → RBus → Prop
 | same:Stp2 raw V W V W
 | sub (nm:Txt) (f:Flt):QMb raw nm → QLh f → Stp2 raw V W (V.subR nm f).1 (W.subR nm f).1
 | uns (nm:Txt):QMb raw nm → Stp2 raw V W (V.unsR nm).1 (W.unsR nm).1
 | ready (r:Rcd):Stp2 raw V W (V.readyR r).1 (W.readyR r).1
 | gone (p:Txt):Stp2 raw V W (V.goneR p).1 (W.goneR p).1
 | read (nm:Txt) (m:Int):QMb raw nm → Stp2 raw V W (V.readR nm m).1 (W.readR nm m).1
theorem Stp2.ok {raw:Txt} {V W V' W':RBus} {n:Nat} (h:RbOk W n) (hs:Stp2 raw V W V' W'):RbOk W' (n + 1):=by
 cases hs with
 | same=>exact h.le (Nat.le_succ n)
 | sub nm f _ hf=>exact h.sub nm hf
 | uns nm _=>exact h.uns nm
 | ready r=>exact h.ready r
 | gone p=>exact h.gone p
 | read nm m _=>exact h.read nm m
theorem Stp2.diag {raw:Txt} {W V' W':RBus} (hs:Stp2 raw W W V' W'):V' = W':=by cases hs <;> rfl
def QHE (a:Nat) (W:RBus):List (Nat × AObj):=[(a,.box 52 (QBA W)),(a + 1,.box 52 [.nils,.nils,.int .i64 0])]
section
variable {H:List AObj} {ot ob ro so:Nat} {t:List Int} {k:Nat} {V W:RBus} {n:Nat} {K:Nat → Prop}
theorem QVP {a q:Nat} {y:AObj} {M:List (Nat × AObj)} (hq:a + 1 < q) (p:Nat × AObj) (hp:p ∈ QHE a W ++ [(q,y)]):(p ∈ QHE a W ++ M ∧ p.1 ≠ q) ∨ p = (q,y):=by
 rcases List.mem_append.1 hp with hp | hp
 ·refine .inl ⟨List.mem_append_left _ hp,?_⟩
  simp only [QHE,List.mem_cons,List.not_mem_nil,or_false] at hp
  rcases hp with rfl | rfl <;> simp only <;> omega
 ·simp at hp; exact .inr hp
def QYh (H:List AObj) (ot ob ro so:Nat) (t:List Int) (k:Nat) (V W:RBus) (n:Nat) (K:Nat → Prop) (raw:Txt) (v:AV) (G:List AObj):Prop:=
 ∃ V' W' k',v = .tup [.agg (QBA W'),.bool true] ∧ Stp2 raw V W V' W' ∧ k' ≤ k + 200 ∧ CS H ot ob ro so t k' V' (n + 1) K [] G
def QSW (ot ob a:Nat) (raw:Txt) (s:Txt × List AObj):St:=⟨tmps 191 [(0,.ptr ot 0),(1,.ptr ob 0),(3,.str raw),(6,.ptr a 0),(8,.ptr (a + 1) 0),(9,.bool false),(10,.str s.1)],s.2⟩
def QYi (H:List AObj) (ot ob ro so:Nat) (t:List Int) (k:Nat) (V W:RBus) (n:Nat) (K:Nat → Prop) (raw:Txt) (s:Txt × List AObj):Prop:=QMb raw s.1 ∧ CS H ot ob ro so t k V n K (QHE H.length W ++ []) s.2
theorem CS.bump {L:List (Nat × AObj)} {G:List AObj} {n':Nat} (h:CS H ot ob ro so t k V n K L G) (hn:n ≤ n'):CS H ot ob ro so t k V n' K L G:=
 ⟨h.bx.imp fun _ hB=>hB.bump hn,h.kt,h.tp,h.old,h.loc,h.nl,h.hl⟩
variable {L':List (Nat × AObj)} {G:List AObj}
theorem CS.ref (h:CS H ot ob ro so t k V n K (QHE H.length W ++ L') G):G[H.length]? = some (.box 52 [.imm (W.ready.map QAR),.imm (W.subs.map QAv),.int .i64 W.last]):=h.loc (H.length,.box 52 (QBA W)) (by simp [QHE])
theorem CS.nul0 (h:CS H ot ob ro so t k V n K (QHE H.length W ++ L') G):G[H.length + 1]? = some (.box 52 [.nils,.nils,.int .i64 0]):=h.loc (H.length + 1,.box 52 [.nils,.nils,.int .i64 0]) (by simp [QHE])
theorem CS.nul (h:CS H ot ob ro so t k V n K (QHE H.length W ++ L') G) (l:List AObj):(G ++ l)[H.length + 1]? = some (.box 52 [.nils,.nils,.int .i64 0]):=by rw [List.getElem?_append_left (List.getElem?_eq_some_iff.1 h.nul0).1]; exact h.nul0
theorem CS.lt1 (h:CS H ot ob ro so t k V n K (QHE H.length W ++ L') G):H.length + 1 < G.length:=(List.getElem?_eq_some_iff.1 h.nul0).1
theorem CS.lt (h:CS H ot ob ro so t k V n K (QHE H.length W ++ L') G):H.length < G.length:=Nat.lt_of_succ_lt h.lt1
theorem QLj {n0:Nat} {V0 X:RBus} {k0:Nat} {raw:Txt} (h:CS H ot ob ro so t k V n K (QHE H.length W ++ L') G) (hn:n ≤ n0 + 1) (hst:Stp2 raw V0 W V X) (hk:k ≤ k0 + 200) {T:List AV} (l:List AObj) (h8:T[8]? = some (.ptr (H.length + 1) 0)) (h9:T[9]? = some (.bool true)) {u:QCh (QYh H ot ob ro so t k0 V0 W n0 K raw)}:QVN H.length [.cell 8 (some 3),.tmp 9] (QYh H ot ob ro so t k0 V0 W n0 K raw) T ((G ++ l).set (H.length + 1) (.box 52 [.imm (X.ready.map QAR),.imm (X.subs.map QAv),.int .i64 X.last])) u:=by
 have hl:=h.lt1
 have e9:((G ++ l).set (H.length + 1) (.box 52 [.imm (X.ready.map QAR),.imm (X.subs.map QAv),.int .i64 X.last]))[H.length + 1]? = some (.box 52 [.imm (X.ready.map QAR),.imm (X.subs.map QAv),.int .i64 X.last]):=List.getElem?_set_self (by simp; omega)
 have e8:Opd.ev T (.t 8) = .ptr (H.length + 1) 0:=by simp [Opd.ev,h8]
 have e10:Opd.ev T (.t 9) = .bool true:=by simp [Opd.ev,h9]
 refine QAj _ _ (Wk.refl _ _) ?_
 simp +decide -dsimp -implicitDefEqProofs [go_sem,QBG,e8,e10,e9]
 exact ⟨V,X,k,rfl,hst,hk,(((h.bump hn).new l _ fun _ hp=>.inl hp).upd (b:=H.length + 1) ⟨(H.length + 1,.box 52 [.nils,.nils,.int .i64 0]),by simp [QHE],rfl⟩ _ [] (by simp))⟩
theorem QFa {n0:Nat} {V0 X:RBus} {k0:Nat} {raw:Txt} (h:CS H ot ob ro so t k V (n0 + 1) K (QHE H.length W ++ L') G) (hst:Stp2 raw V0 W V X) (hk:k ≤ k0 + 200) {T:List AV} {l:List AObj} (h8:T[8]? = some (.ptr (H.length + 1) 0)) (h9:T[9]? = some (.bool true)) {u:QCh (QYh H ot ob ro so t k0 V0 W n0 K raw)}:QVN H.length [.cell 8 (some 3),.tmp 9] (QYh H ot ob ro so t k0 V0 W n0 K raw) T ((G ++ l).set (H.length + 1) (.box 52 [.imm (X.ready.map QAR),.imm (X.subs.map QAv),.int .i64 X.last])) u:=QLj h (Nat.le_refl _) hst hk l h8 h9
set_option maxHeartbeats 8000000 in
theorem QYj (hC:CS H ot ob ro so t k V n K [] H) (hO:RbOk W n) (hn:n ≤ 900) (hk:k ≤ 100000) (raw:Txt) (hraw:raw.length ≤ 1000) (hA:Agr raw V W):
  ACallsR Tryz.prog 21 [.ptr ot 0,.ptr ob 0,.agg (QBA W),.str raw] H (QYh H ot ob ro so t k V W n K raw):=by
 have hcl:=fun k=>QA1 k W.subs
 have hcr:=fun k=>QAM k W.ready
 have hs:[[AV.str [115]],[.str [116]],[.str [117]]] = stuS.map QAT:=rfl
 have mem1:∀ {G:List AObj} {x:AObj} (p:Nat × AObj),p ∈ QHE H.length W ++ [(G.length,x)] → p ∈ QHE H.length W ++ [] ∨ (G.length ≤ p.1 ∧ [x][p.1 - G.length]? = some p.2):=fun p hp=>by
  rcases List.mem_append.1 hp with hp | hp
  ·exact .inl (by simpa using hp)
  ·simp at hp; subst hp; exact .inr ⟨Nat.le_refl _,by simp⟩
 have c0:=hC.new [.box 52 (QBA W),.box 52 [.nils,.nils,.int .i64 0]] (QHE H.length W ++ []) (fun p hp=>by
  simp only [QHE,List.append_nil,List.mem_cons,List.not_mem_nil,or_false] at hp
  rcases hp with rfl | rfl
  ·exact .inr ⟨Nat.le_refl _,by simp⟩
  ·exact .inr ⟨Nat.le_succ _,by simp⟩)
 have hP:=fun {k':Nat} {G:List AObj} (c:CS H ot ob ro so t k' V n K (QHE H.length W ++ []) G) (hk':k' < 500000)=>QVO c.tp (by omega) hO (by omega)
 refine QCn _ cqq ?_
 unfold QBA at hP c0
 unfold QBA
 refine gS ?_
 refine gS ?_
 rw [hs]
 refine QAS (QJa c0.tp (by omega) stuS (by decide) (by decide)) ?_
 rintro _ _ ⟨nm0,rfl,hnm0,rfl⟩
 have c1:=c0.tape (k + 1)
 generalize (H ++ [AObj.box 52 [.imm (W.ready.map QAR),.imm (W.subs.map QAv),.int .i64 W.last],AObj.box 52 [.nils,.nils,.int .i64 0]]).set ot (QAO t (k + 1)) = G1 at c1 ⊢
 refine gs ?_
 refine QA6 (S:=Txt × List AObj) (QSW ot ob H.length raw) (QYi H ot ob ro so t (k + 2) V W n K raw) (QAD ?_) ?_
 ·simp +decide -dsimp -implicitDefEqProofs [go_sem]
  refine QAS (QB2 c1.tp (by omega) 12 (by decide)) ?_
  rintro _ _ ⟨x,rfl,hx,rfl⟩
  have c2:=c1.tape (k + 2)
  generalize G1.set ot (QAO t (k + 1 + 1)) = G2 at c2 ⊢
  by_cases hx0:x = 0
  ·simp +decide -dsimp -implicitDefEqProofs [go_sem,hx0]
   refine QAs (S:=Txt × List AObj) (raw,G2) ⟨.inl rfl,c2⟩ (Wk.jk ?_)
   simp +decide -dsimp -implicitDefEqProofs [go_sem,jkT]
  ·simp +decide -dsimp -implicitDefEqProofs [go_sem,hx0]
   refine QAs (S:=Txt × List AObj) (nm0,G2) ⟨.inr hnm0,c2⟩ (Wk.jk ?_)
   simp +decide -dsimp -implicitDefEqProofs [go_sem,jkT]
 rintro ⟨nm,G2⟩ ⟨hnm,c2⟩
 simp only at hnm c2
 refine QA6 (S:=Txt × List AObj) (QSW ot ob H.length raw) (QYi H ot ob ro so t (k + 3) V W n K raw) (QAD ?_) ?_
 ·unfold QSW
  refine gs ?_
  refine QAS (QB2 c2.tp (by omega) 10 (by decide)) ?_
  rintro _ _ ⟨x,rfl,hx,rfl⟩
  have c3:=c2.tape (k + 3)
  generalize G2.set ot (QAO t (k + 2 + 1)) = G3 at c3 ⊢
  by_cases x0:x = 0
  ·simp +decide -dsimp -implicitDefEqProofs [go_sem,x0]
   refine QAS (QQP c3.tp (by omega)) ?_
   rintro _ _ ⟨f,rfl,hf,rfl⟩
   have c4:=c3.tape (k + 5)
   generalize G3.set ot (QAO t (k + 3 + 2)) = G4 at c4 ⊢
   unfold QBM
   refine gs ?_
   have lG4:=c4.lt1
   have c5:=c4.new [.box 27 [.str f.sub,.str f.tag]] (QHE H.length W ++ [(G4.length,.box 27 [.str f.sub,.str f.tag])]) mem1
   refine QAS (QB2 c5.tp (by omega) 8 (by decide)) ?_
   rintro _ _ ⟨y,rfl,hy,rfl⟩
   have c6:=c5.tape (k + 6)
   generalize (G4 ++ [AObj.box 27 [.str f.sub,.str f.tag]]).set ot (QAO t (k + 5 + 1)) = G6 at c6 ⊢
   generalize G4.length = q at c6 lG4 ⊢
   have l6:=c6.loc (q,.box 27 [.str f.sub,.str f.tag]) (by simp)
   simp only at l6
   have lt6:=(List.getElem?_eq_some_iff.1 l6).1
   by_cases hy0:y = 0
   ·have l7:(G6.set q (.box 27 [.str raw,.str raw]))[q]? = some (.box 27 [.str raw,.str raw]):=List.getElem?_set_self lt6
    have c7:=c6.upd (b:=q) ⟨(q,.box 27 [.str f.sub,.str f.tag]),by simp,rfl⟩ (.box 27 [.str raw,.str raw]) (QHE H.length W ++ [(q,.box 27 [.str raw,.str raw])]) (QVP lG4)
    simp +decide -dsimp -implicitDefEqProofs [go_sem,hy0,l6]
    simp only [if_pos lt6]
    simp +decide -dsimp -implicitDefEqProofs [go_sem,l7]
    generalize G6.set q (.box 27 [.str raw,.str raw]) = G7 at c7 l7 ⊢
    obtain ⟨B7,b7⟩:=c7.bx
    refine QAS (QK6 b7 nm ⟨raw,raw⟩ ⟨hraw,hraw⟩) ?_
    rintro _ G8 ⟨rfl,hx8⟩
    have c8:=c7.bus (hx8.bump (Nat.le_succ n))
    have l8:=c8.loc (q,.box 27 [.str raw,.str raw]) (by simp)
    have ag:=hA.sub nm ⟨raw,raw⟩ hnm
    have hst:Stp2 raw V W _ _:=.sub nm ⟨raw,raw⟩ hnm ⟨hraw,hraw⟩
    have cr:=QOz W nm ⟨raw,raw⟩ hO ⟨hraw,hraw⟩
    have hcX:=QDk 0 (W.subR nm ⟨raw,raw⟩).1
    generalize W.subR nm ⟨raw,raw⟩ = X at ag hst cr hcX
    generalize V.subR nm ⟨raw,raw⟩ = Y at c8 ag hst ⊢
    rw [ag]
    obtain ⟨X,e⟩:=X
    obtain ⟨Y,e0⟩:=Y
    simp only at ag c8 hst cr hcX ⊢
    unfold QBA at cr hcX
    simp +decide -dsimp -implicitDefEqProofs [go_sem,c8.ref,l8]
    refine QAA cr (by simp [QAB,QAE,hcl,hcr]) (by simpa [QAE,QAB] using hcX) ?_
    simp +decide -dsimp -implicitDefEqProofs [go_sem,c8.nul]
    simp only [if_pos c8.lt]
    exact QFa c8 hst (by omega) rfl rfl
   ·simp +decide -dsimp -implicitDefEqProofs [go_sem,hy0,l6]
    obtain ⟨B7,b7⟩:=c6.bx
    refine QAS (QK6 b7 nm ⟨f.sub,f.tag⟩ hf) ?_
    rintro _ G8 ⟨rfl,hx8⟩
    have c8:=c6.bus (hx8.bump (Nat.le_succ n))
    have l8:=c8.loc (q,.box 27 [.str f.sub,.str f.tag]) (by simp)
    have ag:=hA.sub nm ⟨f.sub,f.tag⟩ hnm
    have hst:Stp2 raw V W _ _:=.sub nm ⟨f.sub,f.tag⟩ hnm hf
    have cr:=QOz W nm ⟨f.sub,f.tag⟩ hO hf
    have hcX:=QDk 0 (W.subR nm ⟨f.sub,f.tag⟩).1
    generalize W.subR nm ⟨f.sub,f.tag⟩ = X at ag hst cr hcX
    generalize V.subR nm ⟨f.sub,f.tag⟩ = Y at c8 ag hst ⊢
    rw [ag]
    obtain ⟨X,e⟩:=X
    obtain ⟨Y,e0⟩:=Y
    simp only at ag c8 hst cr hcX ⊢
    unfold QBA at cr hcX
    simp +decide -dsimp -implicitDefEqProofs [go_sem,c8.ref,l8]
    refine QAA cr (by simp [QAB,QAE,hcl,hcr]) (by simpa [QAE,QAB] using hcX) ?_
    simp +decide -dsimp -implicitDefEqProofs [go_sem,c8.nul]
    simp only [if_pos c8.lt]
    exact QFa c8 hst (by omega) rfl rfl
  by_cases x1:x = 1
  ·simp +decide -dsimp -implicitDefEqProofs [go_sem,x1]
   refine QAS (QB2 c3.tp (by omega) 3 (by decide)) ?_
   rintro _ _ ⟨y,rfl,hy,rfl⟩
   have c7:=c3.tape (k + 4)
   generalize G3.set ot (QAO t (k + 3 + 1)) = G7 at c7 ⊢
   by_cases hy0:0 < y
   ·simp +decide -dsimp -implicitDefEqProofs [go_sem,hy0,c7.ref,c7.nul0]
    simp only [if_pos c7.lt1]
    rw [← List.append_nil G7]
    exact QLj c7 (Nat.le_succ n) .same (by omega) [] rfl rfl
   ·simp +decide -dsimp -implicitDefEqProofs [go_sem,hy0]
    obtain ⟨B7,b7⟩:=c7.bx
    refine QAS (QWw b7 nm) ?_
    rintro _ G8 ⟨rfl,hx8⟩
    have c8:=c7.bus (hx8.bump (Nat.le_succ n))
    have ag:=hA.uns nm hnm
    have hst:Stp2 raw V W _ _:=.uns nm hnm
    have cr:=QWi W nm hO
    have hcX:=QDk 0 (W.unsR nm).1
    generalize W.unsR nm = X at ag hst cr hcX
    generalize V.unsR nm = Y at c8 ag hst ⊢
    rw [ag]
    obtain ⟨X,e⟩:=X
    obtain ⟨Y,e0⟩:=Y
    simp only at ag c8 hst cr hcX ⊢
    unfold QBA at cr hcX
    simp +decide -dsimp -implicitDefEqProofs [go_sem,c8.ref]
    refine QAA cr (by simp [QAB,QAE,hcl,hcr]) (by simpa [QAE,QAB] using hcX) ?_
    simp +decide -dsimp -implicitDefEqProofs [go_sem,c8.nul]
    simp only [if_pos c8.lt]
    exact QFa c8 hst (by omega) rfl rfl
  by_cases x25:x = 2 ∨ x = 3 ∨ x = 4 ∨ x = 5
  ·rcases x25 with x2 | x2 | x2 | x2 <;> subst x2 <;> simp +decide -dsimp -implicitDefEqProofs [go_sem,c3.ref]
   all_goals
    refine QAS (hP c3 (by omega)) ?_
    rintro _ _ ⟨p,k4,rfl,hp,hk4,rfl⟩
    have c4:=c3.tape k4
    generalize G3.set ot (QAO t k4) = G4 at c4 ⊢
    refine gs ?_
    refine QAS (QB2 c4.tp (by omega) 2 (by decide)) ?_
    rintro _ _ ⟨y,rfl,hy,rfl⟩
    have c5:=c4.tape (k4 + 1)
    generalize G4.set ot (QAO t (k4 + 1)) = G5 at c5 ⊢
    have w:IntKind.i64.wrap (1 + y) = 1 + y:=w64 (by omega) (by omega)
    simp +decide -dsimp -implicitDefEqProofs [go_sem,w]
    refine QAS (QYg c5.tp (by omega) p (1 + y) (by omega) (by omega)) ?_
    rintro _ _ ⟨r,k6,rfl,hr,hk6,rfl⟩
    have c6:=c5.tape k6
    generalize G5.set ot (QAO t k6) = G6 at c6 ⊢
    have lG6:=c6.lt1
    have c7:=c6.new [.box 36 (QAR r)] (QHE H.length W ++ [(G6.length,.box 36 (QAR r))]) mem1
    rw [QAc r]
    refine gs ?_
    rw [← QAc r]
    generalize G6 ++ [AObj.box 36 (QAR r)] = G7 at c7 ⊢
    generalize G6.length = q at c7 lG6 ⊢
    have l7:=c7.loc (q,.box 36 (QAR r)) (by simp)
    rw [QAc] at l7
    simp only at l7
    have ltq:=(List.getElem?_eq_some_iff.1 l7).1
    have ca:=QYz W p (by have:=hO.rl; omega)
    unfold QBA at ca
    simp +decide -dsimp -implicitDefEqProofs [go_sem,c7.ref]
    rcases hat:W.at p with _ | r1
    rw [hat] at ca
    unfold QNy at ca
    refine QAA ca (by simp [QAB,QAE,hcl,hcr]) (by simp [QAB,QAE]) ?_
    refine gs ?_
    have d2:=c7.new [.box 36 QNy] (QHE H.length W ++ [(q,.box 36 (QAR r))]) (fun _ hp=>.inl hp)
    refine QAS (QB2 d2.tp (by omega) 12 (by decide)) ?_
    rintro _ _ ⟨y2,rfl,hy2,rfl⟩
    have c9:=d2.tape (k6 + 1)
    generalize (G7 ++ [AObj.box 36 QNy]).set ot (QAO t (k6 + 1)) = G9 at c9 ⊢
    obtain ⟨r',hr',e'⟩:∃ r':Rcd,Small r' ∧ r = r':=⟨r,hr,rfl⟩
    rw [e'] at c9 ⊢
    rotate_left
    rw [hat] at ca
    simp only [QAc r1] at ca
    refine QAA ca (by simp [QAB,QAE,hcl,hcr]) (by simp [QAB,QAE,QAW,QAF]) ?_
    refine gs ?_
    have d0:=c7.new [.box 36 (QAR r1)] (QHE H.length W ++ [(q,.box 36 (QAR r)),(G7.length,.box 36 (QAR r1))]) (fun p hp=>by
     simp only [List.mem_append,List.mem_cons,List.not_mem_nil,or_false] at hp
     rcases hp with hp | rfl | rfl
     ·exact .inl (List.mem_append_left _ hp)
     ·exact .inl (by simp)
     ·exact .inr ⟨Nat.le_refl _,by simp⟩)
    refine QAS (QB2 d0.tp (by omega) 5 (by decide)) ?_
    rintro _ _ ⟨y3,rfl,hy3,rfl⟩
    have d1:=d0.tape (k6 + 1)
    generalize (G7 ++ [AObj.box 36 (QAR r1)]).set ot (QAO t (k6 + 1)) = D1 at d1 ⊢
    generalize G7.length = q1 at d1 ltq ⊢
    have m1:=d1.loc (q,.box 36 (QAR r)) (by simp)
    have m2:=d1.loc (q1,.box 36 (QAR r1)) (by simp)
    rw [QAc] at m1 m2
    simp only at m1 m2
    have ltd:=(List.getElem?_eq_some_iff.1 m1).1
    by_cases y30:0 < y3
    simp +decide -dsimp -implicitDefEqProofs [go_sem,y30,m1,m2]
    simp only [if_pos ltd]
    have d2:=d1.upd (b:=q) ⟨(q,.box 36 (QAR r)),by simp,rfl⟩ (.box 36 (QAR { r with index:=r1.index })) (QHE H.length W ++ [(q,.box 36 (QAR { r with index:=r1.index }))]) (QVP lG6)
    refine QAS (QB2 d2.tp (by omega) 12 (by decide)) ?_
    rintro _ _ ⟨y2,rfl,hy2,rfl⟩
    have c9:=d2.tape (k6 + 1 + 1)
    generalize (D1.set q (.box 36 (QAR { r with index:=r1.index }))).set ot (QAO t (k6 + 1 + 1)) = G9 at c9 ⊢
    obtain ⟨r',hr',e'⟩:∃ r':Rcd,Small r' ∧ { r with index:=r1.index } = r':=⟨{ r with index:=r1.index },⟨hr.path,hr.props,hr.attr,hr.tags,hr.tag,hr.links,hr.link,hr.runs,hr.run,hr.loads,hr.load,hr.name,hr.owner,hr.group⟩,rfl⟩
    rw [e'] at c9
    rotate_left
    simp +decide -dsimp -implicitDefEqProofs [go_sem,y30]
    have d2:=d1.new [] (QHE H.length W ++ [(q,.box 36 (QAR r))]) (fun p hp=>.inl (by
     rcases List.mem_append.1 hp with hp | hp
     ·exact List.mem_append_left _ hp
     ·simp at hp; subst hp; simp))
    rw [List.append_nil] at d2
    refine QAS (QB2 d2.tp (by omega) 12 (by decide)) ?_
    rintro _ _ ⟨y2,rfl,hy2,rfl⟩
    have c9:=d2.tape (k6 + 1 + 1)
    generalize D1.set ot (QAO t (k6 + 1 + 1)) = G9 at c9 ⊢
    obtain ⟨r',hr',e'⟩:∃ r':Rcd,Small r' ∧ r = r':=⟨r,hr,rfl⟩
    rw [e'] at c9
    all_goals
     have l9:=c9.loc (q,.box 36 (QAR r')) (by simp)
     rw [QAc] at l9
     simp only at l9
     by_cases y20:y2 = 0
     simp +decide -dsimp -implicitDefEqProofs [go_sem,y20,l9]
     have sp:=QQR c9.tp (by omega) r' hr'
     rw [QAc] at sp
     refine QAS sp ?_
     rintro _ _ ⟨r2,k10,rfl,hf2,hk10,rfl⟩
     have c10:=c9.tape k10
     generalize G9.set ot (QAO t k10) = G10 at c10 ⊢
     have l10:=c10.loc (q,.box 36 (QAR r')) (by simp)
     rw [QAc] at l10
     simp only at l10
     have lt10:=(List.getElem?_eq_some_iff.1 l10).1
     have c11:=c10.upd (b:=q) ⟨(q,.box 36 (QAR r')),by simp,rfl⟩ (.box 36 (QAR r2)) (QHE H.length W ++ [(q,.box 36 (QAR r2))]) (QVP lG6)
     rw [QAc r2]
     simp +decide -dsimp -implicitDefEqProofs [go_sem,l10]
     simp only [if_pos lt10]
     rw [← QAc r2]
     generalize G10.set q (.box 36 (QAR r2)) = G11 at c11 ⊢
     have l11:=c11.loc (q,.box 36 (QAR r2)) (by simp)
     rw [QAc] at l11
     simp only at l11
     simp +decide -dsimp -implicitDefEqProofs [go_sem,l11]
     rotate_left
     simp +decide -dsimp -implicitDefEqProofs [go_sem,y20,l9]
     have hf2:=hr'.few
     have c11:=c9
     generalize r' = r2 at c11 hf2 ⊢
     all_goals
      obtain ⟨B7,b7⟩:=c11.bx
      have rdy:=QGL b7 (by omega) r2 hf2
      rw [QAc] at rdy
      refine QAS rdy ?_
      rintro _ G8 ⟨rfl,hx8⟩
      have c8:=c11.bus hx8
      have l8:=c8.loc (q,.box 36 (QAR r2)) (by simp)
      rw [QAc] at l8
      simp only at l8
      have ag:=hA.ready r2
      have hst:Stp2 raw V W _ _:=.ready r2
      have cr:=QQ3 W r2 hO hn hf2
      rw [QAc] at cr
      have hcX:=QDk 0 (W.readyR r2).1
      generalize W.readyR r2 = X at ag hst cr hcX
      generalize V.readyR r2 = Y at c8 ag hst ⊢
      rw [ag]
      obtain ⟨X,e⟩:=X
      obtain ⟨Y,e0⟩:=Y
      simp only at ag c8 hst cr hcX ⊢
      unfold QBA at cr hcX
      simp +decide -dsimp -implicitDefEqProofs [go_sem,c8.ref,l8]
      refine QAA cr (by simp [QAB,QAE,hcl,hcr,QAW,QAF]) (by simpa [QAE,QAB] using hcX) ?_
      simp +decide -dsimp -implicitDefEqProofs [go_sem,c8.nul]
      simp only [if_pos c8.lt]
      exact QFa c8 hst (by omega) rfl rfl
  by_cases x67:x = 6 ∨ x = 7
  ·have hxx:¬ x = 2 ∧ ¬ x = 3 ∧ ¬ x = 4 ∧ ¬ x = 5:=by omega
   obtain ⟨x2,x3,x4,x5⟩:=hxx
   rcases x67 with x6 | x6 <;> subst x6 <;> simp +decide -dsimp -implicitDefEqProofs [go_sem,c3.ref]
   all_goals
    refine QAS (hP c3 (by omega)) ?_
    rintro _ _ ⟨p,k4,rfl,hp,hk4,rfl⟩
    have c7:=c3.tape k4
    generalize G3.set ot (QAO t k4) = G4 at c7 ⊢
    refine gs ?_
    obtain ⟨B7,b7⟩:=c7.bx
    refine QAS (QPQ b7 (by omega) p) ?_
    rintro _ G8 ⟨rfl,hx8⟩
    have c8:=c7.bus hx8
    have ag:=hA.gone p
    have hst:Stp2 raw V W _ _:=.gone p
    have cr:=QTg W p hO hn
    have hcX:=QDk 0 (W.goneR p).1
    generalize W.goneR p = X at ag hst cr hcX
    generalize V.goneR p = Y at c8 ag hst ⊢
    rw [ag]
    obtain ⟨X,e⟩:=X
    obtain ⟨Y,e0⟩:=Y
    simp only at ag c8 hst cr hcX ⊢
    unfold QBA at cr hcX
    simp +decide -dsimp -implicitDefEqProofs [go_sem,c8.ref]
    refine QAA cr (by simp [QAB,QAE,hcl,hcr]) (by simpa [QAE,QAB] using hcX) ?_
    simp +decide -dsimp -implicitDefEqProofs [go_sem,c8.nul]
    simp only [if_pos c8.lt]
    exact QFa c8 hst (by omega) rfl rfl
  ·have hxx:¬ x = 2 ∧ ¬ x = 3 ∧ ¬ x = 4 ∧ ¬ x = 5 ∧ ¬ x = 6 ∧ ¬ x = 7:=by omega
   obtain ⟨x2,x3,x4,x5,x6,x7⟩:=hxx
   simp +decide -dsimp -implicitDefEqProofs [go_sem,x0,x1,x2,x3,x4,x5,x6,x7]
   refine QAs (S:=Txt × List AObj) (nm,G3) ⟨hnm,c3⟩ (Wk.jk ?_)
   simp +decide -dsimp -implicitDefEqProofs [go_sem,jkT]
 rintro ⟨nm,G3⟩ ⟨hnm,c3⟩
 simp only at hnm c3
 refine QAD ?_
 unfold QSW
 refine gs ?_
 refine QAS (QB2 c3.tp (by omega) 6 (by decide)) ?_
 rintro _ _ ⟨z,rfl,hz,rfl⟩
 have c4:=c3.tape (k + 4)
 generalize G3.set ot (QAO t (k + 3 + 1)) = G4 at c4 ⊢
 have w:IntKind.i64.wrap (z - 1) = z - 1:=w64 (by omega) (by omega)
 simp +decide -dsimp -implicitDefEqProofs [go_sem,w]
 obtain ⟨B7,b7⟩:=c4.bx
 refine QAS (QE0 b7 (by omega) nm (z - 1)) ?_
 rintro _ G8 ⟨rfl,hx8⟩
 have c8:=c4.bus (hx8.bump (Nat.le_succ n))
 have ag:=hA.read nm (z - 1) hnm
 have hst:Stp2 raw V W _ _:=.read nm (z - 1) hnm
 have cr:=QO5 W nm (z - 1) hO (by omega) (by omega)
 have hcX:=QDk 0 (W.readR nm (z - 1)).1
 obtain ⟨hfit0,hfl0⟩:=QLi hO nm (z - 1)
 have hfit:=fun x hx=>(QEr (hfit0 x hx)).few.fit
 have cs:=QOt (W.readR nm (z - 1)).2.1 (W.readR nm (z - 1)).2.1 hfit hfit (by omega) (by omega)
 have hcn:=QA8 0 (W.readR nm (z - 1)).2.1
 rw [decide_eq_true rfl] at cs
 rw [ag]
 clear hfit hfit0 hfl0 ag
 generalize (V.readR nm (z - 1)).1 = Y at c8 hst
 generalize (W.readR nm (z - 1)).1 = X at hst cr hcX
 generalize (W.readR nm (z - 1)).2.1 = N at cr cs hcn ⊢
 generalize (W.readR nm (z - 1)).2.2.1 = bh at cr ⊢
 generalize (W.readR nm (z - 1)).2.2.2 = e at cr ⊢
 unfold QBA at cr hcX
 simp +decide -dsimp -implicitDefEqProofs [go_sem,c8.ref]
 refine QAA cr (by simp [QAB,QAE,hcl,hcr]) (by simpa [QAE,QAB,hcn] using hcX) ?_
 refine gs ?_
 refine QAK cs (by simp [QAB,QAE,hcn]) rfl ?_
 simp +decide -dsimp -implicitDefEqProofs [go_sem,c8.nul]
 refine ⟨?_,QFa c8 hst (by omega) rfl rfl⟩
 have n1:G8.length ≠ H.length + 1:=by have:=c8.lt1; omega
 simp +decide [QBB,QCz,n1,Ne.symm n1]
end
end Go.Ab
namespace Go.Ab
open Go Go.Proofs
set_option maxRecDepth 20000
theorem Qaa {f:Nat} {x y:AV} {cs post:List AV} {H:List AObj} {R:AV → List AObj → Prop} (h:ACallsR Tryz.prog f (x :: y :: .agg (nzL cs) :: post) H R):ACallsR Tryz.prog f (x :: y :: .agg cs :: post) H R:=
 ⟨h.1,fun c vs hH hr hv=>h.2 c vs hH hr (by
  simp only [QA3,Val] at hv ⊢
  obtain ⟨v1,w1,rfl,h1,v2,w2,rfl,h2,v3,w3,rfl,⟨us,rfl,h3,h4⟩,h5⟩:=hv
  exact ⟨_,_,rfl,h1,_,_,rfl,h2,_,_,rfl,⟨us,rfl,QIr _ _ h3,h4⟩,h5⟩)⟩
section
variable {H:List AObj} {ob ro so:Nat} {l:List Int} {k:Nat} {V W:RBus} {n:Nat} {K:Nat → Prop} {L:List (Nat × AObj)} {G:List AObj}
theorem CS.call (h:CS H 0 ob ro so l k V n K L G) (hO:RbOk W n) (hn:n ≤ 900) (hk:k ≤ 100000) (raw:Txt) (hraw:raw.length ≤ 1000) (hA:Agr raw V W) {cs:List AV} (hcs:nzL cs = QBA W):ACallsR Tryz.prog 21 [.ptr 0 0,.ptr ob 0,.agg cs,.str raw] G (fun v G'=>∃ V' W' k',v = .tup [.agg (QBA W'),.bool true] ∧ Stp2 raw V W V' W' ∧ k' ≤ k + 200 ∧ CS H 0 ob ro so l k' V' (n + 1) K L G'):=by
 refine Qaa ?_
 rw [hcs]
 have hC:CS G 0 ob ro so l k V n (fun i=>K i ∨ ∃ p ∈ L,p.1 = i) [] G:=CS.init h.bx (.inl h.kt) h.tp
 refine (QYj hC hO hn hk raw hraw hA).mono fun v G' ⟨V',W',k',e1,e2,e3,e4⟩=>⟨V',W',k',e1,e2,e3,?_⟩
 exact ⟨e4.bx.imp fun _ hB=>hB.mono fun i hi=>.inl hi,h.kt,e4.tp,fun i hi hne=>by rw [e4.old i (.inl hi) hne]; exact h.old i hi hne,fun p hp=>by rw [e4.old p.1 (.inr ⟨p,hp,rfl⟩) (fun e=>h.nl p hp (by rw [e]; exact h.kt))]; exact h.loc p hp,h.nl,Nat.le_trans h.hl e4.hl⟩
theorem CS.start {A:List AObj} (hA:A[0]? = some (QAO l 0)) (h:bxR A ob ro so V 0 (fun i=>i < A.length) G) (L:List (Nat × AObj)) (hL:∀ p ∈ L,A[p.1]? = some p.2 ∧ p.1 ≠ 0):CS [] 0 ob ro so l 0 V 0 (fun i=>i = 0) L G:=by
 obtain ⟨⟨B,hB⟩,h2,h3⟩:=h
 have h0:0 < A.length:=(List.getElem?_eq_some_iff.1 hA).1
 exact ⟨⟨B,hB.mono fun i hi=>by
  rcases hi with rfl | ⟨p,hp,rfl⟩
  ·exact h0
  ·exact (List.getElem?_eq_some_iff.1 (hL p hp).1).1⟩,rfl,by rw [h2 0 h0]; exact hA,fun i hi hne=>(hne hi).elim,fun p hp=>by rw [h2 p.1 (List.getElem?_eq_some_iff.1 (hL p hp).1).1]; exact (hL p hp).1,fun p hp=>(hL p hp).2,Nat.zero_le _⟩
end
structure LS (l:List Int) (k:Nat) (W:RBus) (n nf:Nat) (x:AObj) (G:List AObj):Prop where
 c:CS [] 0 3 1 2 l k W n (fun i=>i = 0) [(nf,x)] G
 ok:RbOk W n
section
variable {l:List Int} {k:Nat} {W:RBus} {n nf:Nat} {x:AObj} {G:List AObj}
theorem LS.tp (h:LS l k W n nf x G):G[0]? = some (QAO l k):=h.c.tp
theorem LS.rf (h:LS l k W n nf x G):G[nf]? = some x:=h.c.loc (nf,x) (by simp)
theorem LS.bx (h:LS l k W n nf x G):∃ B,Bx G 3 1 2 W n (fun i=>i = 0 ∨ ∃ p ∈ [(nf,x)],p.1 = i) B:=h.c.bx
theorem LS.tape (h:LS l k W n nf x G) (k':Nat):LS l k' W n nf x (G.set 0 (QAO l k')):=⟨h.c.tape k',h.ok⟩
theorem LS.upd (h:LS l k W n nf x G) (y:AObj):LS l k W n nf y (G.set nf y):=⟨h.c.upd ⟨(nf,x),by simp,rfl⟩ y [(nf,y)] (fun p hp=>.inr (by simpa using hp)),h.ok⟩
theorem LS.new (h:LS l k W n nf x G) (m:List AObj):LS l k W n nf x (G ++ m):=⟨h.c.new m _ fun _ hp=>.inl hp,h.ok⟩
theorem LS.bus (h:LS l k W n nf x G) {W':RBus} {n':Nat} {G':List AObj} (hx:bxR G 3 1 2 W' n' (fun i=>i = 0 ∨ ∃ p ∈ [(nf,x)],p.1 = i) G') (ok:RbOk W' n'):LS l k W' n' nf x G':=⟨h.c.bus hx,ok⟩
theorem LS.call (h:LS l k W n nf x G) (hn:n ≤ 900) (hk:k ≤ 100000) (raw:Txt) (hraw:raw.length ≤ 1000) {cs:List AV} (hcs:nzL cs = QBA W):ACallsR Tryz.prog 21 [.ptr 0 0,.ptr 3 0,.agg cs,.str raw] G (fun v G'=>∃ W' k',v = .tup [.agg (QBA W'),.bool true] ∧ k' ≤ k + 200 ∧ LS l k' W' (n + 1) nf x G'):=
 (h.c.call h.ok hn hk raw hraw (Agr.refl raw W) hcs).mono fun v G' ⟨V',W',k',e1,e2,e3,e4⟩=>by
  have e:=e2.diag
  subst e
  exact ⟨_,k',e1,e3,e4,e2.ok h.ok⟩
theorem LS.bump {n':Nat} (h:LS l k W n nf x G) (hn:n ≤ n'):LS l k W n' nf x G:=⟨h.c.bump hn,h.ok.le hn⟩
theorem LS.start (h:bxR [QAO l 0] 3 1 2 ⟨[],[],0⟩ 0 (fun i=>i < 1) G) (x:AObj):LS l 0 ⟨[],[],0⟩ 0 G.length x (G ++ [x]):=
 ⟨(CS.start rfl h [] (by simp)).new [x] _ fun p hp=>.inr (by simp at hp; subst hp; exact ⟨Nat.le_refl _,by simp⟩),RbOk.nil⟩
end
def viewTs:List Txt:=[[115],[116],[117],[110,111,98,111,100,121]]
end Go.Ab
