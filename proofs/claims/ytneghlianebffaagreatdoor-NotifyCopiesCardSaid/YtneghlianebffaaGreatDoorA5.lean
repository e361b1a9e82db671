/- Temporaries by their places. -/
import Derived.Test.YtneghlianebffaaGreatDoorA4
import Derived.Below
import Derived.Deep.Slices
import Derived.ChangeSame
import Derived.WideKeyArgs
import Derived.Deep.DeepHandedRow
import Derived.OpenShut
namespace Go.Ab
open Go
set_option maxRecDepth 20000
section lits
variable {v a0 a1 a2 a3 a4 a5 a6 a7 a8 a9 a10 a11 a12 a13 a14 a15:AV} {r:List AV} {n:Nat}
@[go_sem] theorem q_ev0:Opd.ev (a0 :: r) (.t 0) = a0:=rfl
@[go_sem] theorem q_put0:QEE (a0 :: r) (some 0) v = v :: r:=rfl
@[go_sem] theorem q_ev1:Opd.ev (a0 :: a1 :: r) (.t 1) = a1:=rfl
@[go_sem] theorem q_put1:QEE (a0 :: a1 :: r) (some 1) v = a0 :: v :: r:=rfl
@[go_sem] theorem q_ev2:Opd.ev (a0 :: a1 :: a2 :: r) (.t 2) = a2:=rfl
@[go_sem] theorem q_put2:QEE (a0 :: a1 :: a2 :: r) (some 2) v = a0 :: a1 :: v :: r:=rfl
@[go_sem] theorem q_ev3:Opd.ev (a0 :: a1 :: a2 :: a3 :: r) (.t 3) = a3:=rfl
@[go_sem] theorem q_put3:QEE (a0 :: a1 :: a2 :: a3 :: r) (some 3) v = a0 :: a1 :: a2 :: v :: r:=rfl
@[go_sem] theorem q_ev4:Opd.ev (a0 :: a1 :: a2 :: a3 :: a4 :: r) (.t 4) = a4:=rfl
@[go_sem] theorem q_put4:QEE (a0 :: a1 :: a2 :: a3 :: a4 :: r) (some 4) v = a0 :: a1 :: a2 :: a3 :: v :: r:=rfl
@[go_sem] theorem q_ev5:Opd.ev (a0 :: a1 :: a2 :: a3 :: a4 :: a5 :: r) (.t 5) = a5:=rfl
@[go_sem] theorem q_put5:QEE (a0 :: a1 :: a2 :: a3 :: a4 :: a5 :: r) (some 5) v = a0 :: a1 :: a2 :: a3 :: a4 :: v :: r:=rfl
@[go_sem] theorem q_ev6:Opd.ev (a0 :: a1 :: a2 :: a3 :: a4 :: a5 :: a6 :: r) (.t 6) = a6:=rfl
@[go_sem] theorem q_put6:QEE (a0 :: a1 :: a2 :: a3 :: a4 :: a5 :: a6 :: r) (some 6) v = a0 :: a1 :: a2 :: a3 :: a4 :: a5 :: v :: r:=rfl
@[go_sem] theorem q_ev7:Opd.ev (a0 :: a1 :: a2 :: a3 :: a4 :: a5 :: a6 :: a7 :: r) (.t 7) = a7:=rfl
@[go_sem] theorem q_put7:QEE (a0 :: a1 :: a2 :: a3 :: a4 :: a5 :: a6 :: a7 :: r) (some 7) v = a0 :: a1 :: a2 :: a3 :: a4 :: a5 :: a6 :: v :: r:=rfl
@[go_sem] theorem q_ev8:Opd.ev (a0 :: a1 :: a2 :: a3 :: a4 :: a5 :: a6 :: a7 :: a8 :: r) (.t 8) = a8:=rfl
@[go_sem] theorem q_put8:QEE (a0 :: a1 :: a2 :: a3 :: a4 :: a5 :: a6 :: a7 :: a8 :: r) (some 8) v = a0 :: a1 :: a2 :: a3 :: a4 :: a5 :: a6 :: a7 :: v :: r:=rfl
@[go_sem] theorem q_ev9:Opd.ev (a0 :: a1 :: a2 :: a3 :: a4 :: a5 :: a6 :: a7 :: a8 :: a9 :: r) (.t 9) = a9:=rfl
@[go_sem] theorem q_put9:QEE (a0 :: a1 :: a2 :: a3 :: a4 :: a5 :: a6 :: a7 :: a8 :: a9 :: r) (some 9) v = a0 :: a1 :: a2 :: a3 :: a4 :: a5 :: a6 :: a7 :: a8 :: v :: r:=rfl
@[go_sem] theorem q_ev10:Opd.ev (a0 :: a1 :: a2 :: a3 :: a4 :: a5 :: a6 :: a7 :: a8 :: a9 :: a10 :: r) (.t 10) = a10:=rfl
@[go_sem] theorem QaK:QEE (a0 :: a1 :: a2 :: a3 :: a4 :: a5 :: a6 :: a7 :: a8 :: a9 :: a10 :: r) (some 10) v = a0 :: a1 :: a2 :: a3 :: a4 :: a5 :: a6 :: a7 :: a8 :: a9 :: v :: r:=rfl
@[go_sem] theorem q_ev11:Opd.ev (a0 :: a1 :: a2 :: a3 :: a4 :: a5 :: a6 :: a7 :: a8 :: a9 :: a10 :: a11 :: r) (.t 11) = a11:=rfl
@[go_sem] theorem QaL:QEE (a0 :: a1 :: a2 :: a3 :: a4 :: a5 :: a6 :: a7 :: a8 :: a9 :: a10 :: a11 :: r) (some 11) v = a0 :: a1 :: a2 :: a3 :: a4 :: a5 :: a6 :: a7 :: a8 :: a9 :: a10 :: v :: r:=rfl
@[go_sem] theorem q_ev12:Opd.ev (a0 :: a1 :: a2 :: a3 :: a4 :: a5 :: a6 :: a7 :: a8 :: a9 :: a10 :: a11 :: a12 :: r) (.t 12) = a12:=rfl
@[go_sem] theorem QaM:QEE (a0 :: a1 :: a2 :: a3 :: a4 :: a5 :: a6 :: a7 :: a8 :: a9 :: a10 :: a11 :: a12 :: r) (some 12) v = a0 :: a1 :: a2 :: a3 :: a4 :: a5 :: a6 :: a7 :: a8 :: a9 :: a10 :: a11 :: v :: r:=rfl
@[go_sem] theorem q_ev13:Opd.ev (a0 :: a1 :: a2 :: a3 :: a4 :: a5 :: a6 :: a7 :: a8 :: a9 :: a10 :: a11 :: a12 :: a13 :: r) (.t 13) = a13:=rfl
@[go_sem] theorem QaN:QEE (a0 :: a1 :: a2 :: a3 :: a4 :: a5 :: a6 :: a7 :: a8 :: a9 :: a10 :: a11 :: a12 :: a13 :: r) (some 13) v = a0 :: a1 :: a2 :: a3 :: a4 :: a5 :: a6 :: a7 :: a8 :: a9 :: a10 :: a11 :: a12 :: v :: r:=rfl
@[go_sem] theorem q_ev14:Opd.ev (a0 :: a1 :: a2 :: a3 :: a4 :: a5 :: a6 :: a7 :: a8 :: a9 :: a10 :: a11 :: a12 :: a13 :: a14 :: r) (.t 14) = a14:=rfl
@[go_sem] theorem QaO:QEE (a0 :: a1 :: a2 :: a3 :: a4 :: a5 :: a6 :: a7 :: a8 :: a9 :: a10 :: a11 :: a12 :: a13 :: a14 :: r) (some 14) v = a0 :: a1 :: a2 :: a3 :: a4 :: a5 :: a6 :: a7 :: a8 :: a9 :: a10 :: a11 :: a12 :: a13 :: v :: r:=rfl
@[go_sem] theorem q_ev15:Opd.ev (a0 :: a1 :: a2 :: a3 :: a4 :: a5 :: a6 :: a7 :: a8 :: a9 :: a10 :: a11 :: a12 :: a13 :: a14 :: a15 :: r) (.t 15) = a15:=rfl
@[go_sem] theorem QaP:QEE (a0 :: a1 :: a2 :: a3 :: a4 :: a5 :: a6 :: a7 :: a8 :: a9 :: a10 :: a11 :: a12 :: a13 :: a14 :: a15 :: r) (some 15) v = a0 :: a1 :: a2 :: a3 :: a4 :: a5 :: a6 :: a7 :: a8 :: a9 :: a10 :: a11 :: a12 :: a13 :: a14 :: v :: r:=rfl
@[go_sem] theorem q_evN:Opd.ev (a0 :: a1 :: a2 :: a3 :: a4 :: a5 :: a6 :: a7 :: a8 :: a9 :: a10 :: a11 :: a12 :: a13 :: a14 :: a15 :: r) (.t (n + 16)) = Opd.ev r (.t n):=rfl
@[go_sem] theorem q_putN:QEE (a0 :: a1 :: a2 :: a3 :: a4 :: a5 :: a6 :: a7 :: a8 :: a9 :: a10 :: a11 :: a12 :: a13 :: a14 :: a15 :: r) (some (n + 16)) v = a0 :: a1 :: a2 :: a3 :: a4 :: a5 :: a6 :: a7 :: a8 :: a9 :: a10 :: a11 :: a12 :: a13 :: a14 :: a15 :: QEE r (some n) v:=rfl
end lits
end Go.Ab

namespace Go.Ab
open Go
set_option linter.unusedSectionVars false
variable [Glob]

theorem QDO {P:Program} {f:Nat} {xs:List AV} {av:AV} {H H':List AObj} {K:List AObj → AV → Prop} {u:QCh K} (h:ACalls P f xs H av H') (hK:K H' av):QKI P f xs H K u:=
 h.toR.mono fun _ _ ⟨h1,h2⟩=>by subst h1; subst h2; exact hK
theorem QNZ {P:Program} {f:Nat} {xs:List AV} {H:List AObj} {K:List AObj → AV → Prop} {u:QCh K} (h:∃ H' v,ACalls P f xs H v H' ∧ K H' v):QKI P f xs H K u:=
 let ⟨_,_,h1,h2⟩:=h
 QDO h1 h2
theorem QAS {P:Program} {f:Nat} {xs:List AV} {H:List AObj} {R:AV → List AObj → Prop} {K:List AObj → AV → Prop} {u:QCh K} (h:ACallsR P f xs H R) (hK:∀ v G,R v G → K G v):QKI P f xs H K u:=
 h.mono hK
theorem QBc {P:Program} {f:Nat} {ys xs:List AV} {He H:List AObj} {R:AV → List AObj → Prop} {K:List AObj → AV → Prop} {u:QCh K} (is:List Nat) (h:ACallsR P f ys He R) (hle:He.length = is.length) (hlen:∀ v G,R v G → G.length = is.length) (hnd:is.Nodup)
  (hx:xs = QBt is ys) (hH:∀ p ∈ is.zip (He.map (QBP is)),H[p.1]? = some p.2) (hK:∀ v G,R v G → K (QBd H is (G.map (QBP is))) (ren is v)):QKI P f xs H K u:=by
 subst hx
 exact (ACallsR.frame is h hle hlen hnd (fun j p x hj hx=>hH (p,QBP is x) (List.mem_of_getElem? (i:=j) (by rw [List.getElem?_zip_eq_some]; exact ⟨hj,by rw [List.getElem?_map,hx]; rfl⟩)))).mono fun v G ⟨av,He',h1,h2,h3⟩=>by subst h2; subst h3; exact hK av He' h1

theorem QAA {P:Program} {f:Nat} {xs:List AV} {av:AV} {H:List AObj} {K:List AObj → AV → Prop} {u:QCh K} (h:ACalls P f xs [] av []) (ha:QAB 0 xs = true) (hv:QAE 0 av = true) (hK:K H av):QKI P f xs H K u:=
 QNZ (QRe h ha hv hK)

theorem QAL {P:Program} {f:Nat} {ys xs:List AV} {av:AV} {He He' H:List AObj} {K:List AObj → AV → Prop} {u:QCh K} (is:List Nat) (h:ACalls P f ys He av He') (hle:He.length = is.length) (hlen:He'.length = is.length) (hnd:is.Nodup)
  (hx:xs = QBt is ys) (hH:∀ p ∈ is.zip (He.map (QBP is)),H[p.1]? = some p.2) (hK:K (QBd H is (He'.map (QBP is))) (ren is av)):QKI P f xs H K u:=
 QNZ (QPs is h hle hlen hnd hx (fun j p x hj hx=>hH (p,QBP is x) (List.mem_of_getElem? (i:=j) (by rw [List.getElem?_zip_eq_some]; exact ⟨hj,by rw [List.getElem?_map,hx]; rfl⟩))) hK)

theorem QAK {P:Program} {f:Nat} {xs:List AV} {av:AV} {H:List AObj} {K:SK} {u:QCh K} (h:ACalls P f xs [] av []) (ha:QAB 0 xs = true) (hv:QAE 0 av = true) (hK:K [] [] av):QJP P f xs H K u:=
 QPt h ha hv hK

theorem QAu {P:Program} {f:Nat} {ys xs:List AV} {av:AV} {He He' H:List AObj} {K:SK} {u:QCh K} (is:List Nat) (h:ACalls P f ys He av He') (hle:He.length = is.length) (hlen:He'.length = is.length) (hnd:is.Nodup)
  (hx:xs = QBt is ys) (hH:∀ p ∈ is.zip (He.map (QBP is)),H[p.1]? = some p.2) (hK:K (is.zip (He.map (QBP is))) (is.zip (He'.map (QBP is))) (ren is av)):QJP P f xs H K u:=
 QOJ is h hle hlen hnd hx hH hK

theorem w64 {n:Int} (h0:-9223372036854775808 ≤ n) (h1:n ≤ 9223372036854775807):IntKind.i64.wrap n = n:=by
 have e:IntKind.i64.wrap n = (let m:=n % 18446744073709551616; if m ≥ 9223372036854775808 then m - 18446744073709551616 else m):=by simp [IntKind.wrap,IntKind.signed,IntKind.bits]
 rw [e]; simp only; split <;> omega

@[simp] theorem QAn {α:Type} {k:Nat} {l:List α} {f:α → List AV} (h:∀ x ∈ l,QAB k (f x) = true):QAb k (l.map f) = true:=by
 induction l with
 | nil=>simp [QAb]
 | cons x r ih=>simp only [List.map_cons,QAb,Bool.and_eq_true]; exact ⟨h x (by simp),ih fun y hy=>h y (by simp [hy])⟩

theorem QGc {i m s:Nat} {l:List Nat} {kvs:List (AV × AV)} {H:List AObj} {K:List AObj → AV → Prop} {u:QCh K} (hi:H[i]? = some (.iter m s l)) (hm:H[m]? = some (.map kvs)) (hs:s = kvs.length)
  (hA:(∀ j p,kvs[j]? = some p → QB7 p.1 = false → j ∈ l) → K H (.tup [.bool false])) (hB:∀ j k v,kvs[j]? = some (k,v) → QB7 k = false → j ∉ l → K (H.set i (.iter m s (l ++ [j]))) (.tup [.bool true,k,v])):QT7 (.it i) H K u:=by
 unfold QT7 QGi
 simp only [hi,hm]
 exact ⟨hs,hA,hB⟩

def QVH {S:Type} (k:Nat) (I:S → St) (m:S → Nat) (ok:S → Prop) (s:S) (T:List AV) (H:List AObj) (_:QCh (I,m,ok)):Prop:=∃ s',ok s' ∧ m s' < m s ∧ Wk k ⟨T,H⟩ (I s')
def QVI {S:Type} (k:Nat) (I:S → St) (m:S → Nat) (ok:S → Prop) (s:S) (σ:St):Prop:=QVH k I m ok s σ.T σ.H .mk
@[go_sem ↓] theorem QaQ {S:Type} {k:Nat} {I:S → St} {m:S → Nat} {ok:S → Prop} {s:S} {T:List AV} {H:List AObj}:QVI k I m ok s ⟨T,H⟩ = QVH k I m ok s T H .mk:=rfl

theorem QAQ {S:Type} {P:Program} {k:Nat} {body:ACode} {Q:Exit → St → Prop} {T:List AV} {H:List AObj} {u:QCh (body,Q)} (I:S → St) (m:S → Nat) (ok:S → Prop) (s0:S) (h0:ok s0) (hw:Wk k ⟨T,H⟩ (I s0))
  (h:∀ s,ok s → QGR P k body (QJt (QVI k I m ok s) Q) (I s)):QT9 P k body Q T H u:=
 QM1 I m ok s0 h0 hw fun s hs=>QDM (QDg (h s hs)) fun _ _ h=>h

theorem QAG {S:Type} {k:Nat} {I:S → St} {m:S → Nat} {ok:S → Prop} {s:S} {T:List AV} {H:List AObj} {u:QCh (I,m,ok)} (s':S) (h1:ok s') (h2:m s' < m s) (h3:Wk k ⟨T,H⟩ (I s')):QVH k I m ok s T H u:=⟨s',h1,h2,h3⟩

theorem QAC {k:Nat} {T T':List AV} {H H':List AObj} (hk:k ≤ H'.length) (h:cvT H H'.length T T' ∧ cvH H H'.length H H'):Wk k ⟨T,H⟩ ⟨T',H'⟩:=.cut hk h.1 h.2

def tmps (n:Nat):List (Nat × AV) → List AV
 | []=>List.replicate n .junk
 | p :: r=>QEE (tmps n r) (some p.1) p.2
@[go_sem] theorem QWb {n:Nat}:tmps n [] = List.replicate n .junk:=rfl
@[go_sem] theorem QVJ {n i:Nat} {v:AV} {r:List (Nat × AV)}:tmps n ((i,v) :: r) = QEE (tmps n r) (some i) v:=rfl

theorem QKX {α:Type} {l:List α} {x:α} {i:Nat} (h:i < l.length) (hx:¬ l[i] = x) (hi:x ∉ l.take i):x ∉ l.take (i + 1):=by
 rw [List.take_succ_eq_append_getElem h]
 simp only [List.mem_append,List.mem_singleton,not_or]
 exact ⟨hi,fun e=>hx e.symm⟩

@[go_sem] theorem QZb (is:List Nat) (e:Nat) (cs:List AV):QBP is (.box e cs) = .box e (QBt is cs):=rfl
@[go_sem] theorem QZc (is:List Nat) (e sz:Nat) (l:List (List AV)):QBP is (.reg e sz l) = .reg e sz (QBL is l):=rfl
@[go_sem] theorem QYT (is:List Nat) (m s:Nat) (l:List Nat):QBP is (.iter m s l) = (match is[m]? with | some p=>.iter p s l | none=>.box 0 [.bot]):=rfl
@[go_sem] theorem QZd (is:List Nat) (l:List (AV × AV)):QBP is (.map l) = .map (QEw is l):=rfl
@[go_sem] theorem QVK (is:List Nat):QBP is .unborn = .unborn:=rfl
@[go_sem] theorem QYU (is:List Nat):QBP is .dead = .dead:=rfl
attribute [go_sem] ren QBt QBd

@[go_sem] theorem QFC {k:Nat} {b:List (List AV)}:∀ {a:List (List AV)},QAb k (a ++ b) = (QAb k a && QAb k b)
 | []=>by simp [QAb]
 | x :: r=>by simp [QAb,QFC (a:=r),Bool.and_assoc]
@[go_sem] theorem QFD {is:List Nat} {b:List (List AV)}:∀ {a:List (List AV)},QBL is (a ++ b) = QBL is a ++ QBL is b
 | []=>by simp [QBL]
 | x :: r=>by simp [QBL,QFD (a:=r)]

theorem ACalls.emp {P:Program} {f:Nat} {post:List AV} {av:AV} {H H':List AObj} (hb:QEH P f = true) (h:∀ (a:Option Addr) (cp:Nat),ACalls P f (.raw (.slice a 0 cp) :: post) H av H'):ACalls P f (.imm [] :: post) H av H':=by
 refine ⟨hb,fun c vs hH hr hv=>?_⟩
 simp only [QA3] at hv
 obtain ⟨v,vs',rfl,hv,hvs⟩:=hv
 have:∃ a cp,v = .slice a 0 cp:=by
  simp only [Val] at hv
  rcases hv with ⟨b,off,cap,sz,h1,_⟩ | ⟨_,a,cp,h1⟩
  ·exact ⟨_,_,h1⟩
  ·exact ⟨_,_,h1⟩
 obtain ⟨a,cp,rfl⟩:=this
 exact (h a cp).2 c _ hH hr (by simp only [QA3]; exact ⟨_,_,rfl,by simp only [Val],hvs⟩)

end Go.Ab
namespace Go.Ab
open Go
set_option linter.unusedSectionVars false
variable [Glob]

def QYV (x:AV) (H:List AObj) (n e sz:Nat) (l:List (List AV)):Prop:=
 match x with
 | .nils=>n = 0 ∧ l = []
 | .own o m=>m = n ∧ H[o]? = some (.reg e sz l) ∧ n = l.length ∧ QAb 0 l = true
 | _=>False
def retN (t n e sz:Nat) (l:List (List AV)):Exit → St → Prop
 | .normal,σ | .ret,σ=>QYV (Opd.ev σ.T (.t t)) σ.H n e sz l
 | _,_=>False
@[go_sem ↓] theorem q_retN {t n e sz:Nat} {l:List (List AV)} {T:List AV} {H:List AObj}:retN t n e sz l .ret ⟨T,H⟩ = cbv (Opd.ev T (.t t)) (fun x=>QYV x H n e sz l) .mk:=rfl
@[go_sem ↓] theorem QaR {t n e sz:Nat} {l:List (List AV)} {T:List AV} {H:List AObj}:retN t n e sz l .normal ⟨T,H⟩ = cbv (Opd.ev T (.t t)) (fun x=>QYV x H n e sz l) .mk:=rfl
@[go_sem] theorem QVL {H:List AObj} {n e sz:Nat} {l:List (List AV)}:QYV .nils H n e sz l = (n = 0 ∧ l = []):=rfl
@[go_sem] theorem QWc {H:List AObj} {o m n e sz:Nat} {l:List (List AV)}:QYV (.own o m) H n e sz l = (m = n ∧ H[o]? = some (.reg e sz l) ∧ n = l.length ∧ QAb 0 l = true):=rfl

theorem QLd {P:Program} {f:Nat} {ys xs:List AV} {n e sz:Nat} {l:List (List AV)} {H:List AObj} {K:List AObj → AV → Prop} {u:QCh K} (h:ACalls P f ys [] (.own 0 n) [.reg e sz l]) (ha:QAB 0 ys = true) (hx:xs = QBt [H.length] ys) (hl:QBL [H.length] l = l) (hK:K (H ++ [.reg e sz l]) (.own H.length n)):QKI P f xs H K u:=by
 have h1:=h.unborn ha 1 (by simp)
 have h2:=ACalls.frame (H:=H ++ [.unborn]) [H.length] h1 rfl rfl (by simp) (fun j p x hj hx=>by
  cases j with
  | zero=>simp at hj hx; subst hj hx; simp [QBP]
  | succ j=>simp at hj)
 have h3:=h2.push
 refine QDO (hx ▸ h3) ?_
 simpa [QBd,QBP,hl,ren] using hK

def wkE (k:Nat) (e:Exit) (Q:Exit → St → Prop) (T:List AV) (H:List AObj) (_:QCh Q):Prop:=∃ s',Wk k ⟨T,H⟩ s' ∧ Q e s'
def wkQ (k:Nat) (Q:Exit → St → Prop) (e:Exit) (s:St):Prop:=wkE k e Q s.T s.H .mk
@[go_sem ↓] theorem q_wkQ {k:Nat} {Q:Exit → St → Prop} {e:Exit} {T:List AV} {H:List AObj}:wkQ k Q e ⟨T,H⟩ = wkE k e Q T H .mk:=rfl
end Go.Ab
namespace Go.Ab
open Go
set_option linter.unusedSectionVars false
variable [Glob]
theorem Wk.push {k:Nat} {T:List AV} {H:List AObj}:Wk k ⟨T,H⟩ ⟨T,H ++ [.unborn]⟩:=fun c a hr hH hF=>by
 have hH':c.H = H:=hH
 subst hH'
 obtain ⟨h1,h2⟩:=QDa hr
 exact ⟨{ c with μ:=c.μ ++ [.pointer none],H:=c.H ++ [.unborn] },rfl,h1,h2.toN k,rfl,QI6 h2 hr hF⟩
theorem Wk.pushN {k:Nat} {T:List AV}:∀ (n:Nat) {H:List AObj},Wk k ⟨T,H⟩ ⟨T,H ++ List.replicate n .unborn⟩
 | 0,H=>by simpa using Wk.refl k _
 | n + 1,H=>by
  have h1:=Wk.pushN (k:=k) (T:=T) n (H:=H ++ [.unborn])
  rw [List.append_assoc] at h1
  exact Wk.trans Wk.push h1
def QWd (k0:Nat) (res:List QIv) (R:AV → List AObj → Prop) (T:List AV) (H:List AObj) (_:QCh R):Prop:=
 ∃ av H',R av H' ∧ H'.length = k0 ∧ (QH9 T H res fun xs=>cvR H k0 (QBG xs) av) ∧ cvH H k0 H H'
def QZe (k0:Nat) (res:List QIv) (R:AV → List AObj → Prop):Exit → St → Prop
 | .normal,σ | .ret,σ=>QWd k0 res R σ.T σ.H .mk
 | _,_=>False
@[go_sem ↓] theorem q_retX {k0:Nat} {res:List QIv} {R:AV → List AObj → Prop} {T:List AV} {H:List AObj}:QZe k0 res R .ret ⟨T,H⟩ = QWd k0 res R T H .mk:=rfl
@[go_sem ↓] theorem QaS {k0:Nat} {res:List QIv} {R:AV → List AObj → Prop} {T:List AV} {H:List AObj}:QZe k0 res R .normal ⟨T,H⟩ = QWd k0 res R T H .mk:=rfl
theorem QBE {k0:Nat} {res:List QIv} {R:AV → List AObj → Prop} {T:List AV} {H:List AObj} {u:QCh R} (av:AV) (H':List AObj) (hR:R av H') (hl:H'.length = k0) (h:(QH9 T H res fun xs=>cvR H k0 (QBG xs) av) ∧ cvH H k0 H H'):QWd k0 res R T H u:=
 ⟨av,H',hR,hl,h⟩
theorem QKY {P:Program} {own:List Nat} {f:Nat} {fn:AFn} {xs:List AV} {H:List AObj} (R:AV → List AObj → Prop) (n:Nat) (hf:QAg P own f = some fn)
  (h:QGR P H.length fn.body (QZe H.length fn.res R) ⟨xs ++ List.replicate (fn.nt - xs.length) .junk,H ++ List.replicate n .unborn⟩):ACallsR P f xs H R:=
 QJy hf (QFj (Wk.pushN n) (QDM (QDg h) fun e s hs=>by
  have key:QWd H.length fn.res R s.T s.H .mk → ∃ av H',R av H' ∧ QSp H.length fn.res av H' .ret s ∧ QSp H.length fn.res av H' .normal s:=fun ⟨av,H',h1,h2,h3⟩=>⟨av,H',h1,QG0 h2.symm h3.1 h3.2⟩
  cases e with
  | normal=>obtain ⟨av,H',h1,h2,h3⟩:=key hs; exact ⟨av,H',h1,h3⟩
  | ret=>obtain ⟨av,H',h1,h2,h3⟩:=key hs; exact ⟨av,H',h1,h2⟩
  | _=>exact hs.elim))

theorem ACalls.of_below {P:Program} {f:Nat} {xs:List AV} {av:AV} (hb:QEH P f = true) (h:∀ (c:Cx) (vs:List Value),QA3 c xs vs → Glob.ok c.w → Calls P f vs.toArray c.w fun e w'=>∃ v,e = .returned v ∧ Go.RowKit.Below c.w.heap.size c.w w' ∧ ∀ c',Val c' av v):ACalls P f xs [] av []:=by
 refine ⟨hb,fun c vs hH hr hv=>(h c vs hv hr.gl).mono fun e w' hq=>?_⟩
 obtain ⟨v,h1,h2,h3⟩:=hq
 obtain ⟨g1,g2⟩:=QEf hr (F':=c.F) (w':=w') (fun _ h=>h) (fun _ h=>.inl h) (fun b hb=>h2.block b hb) h2.size h2.os h2.tape h2.output
 exact ⟨v,⟨c.F,c.μ,c.H,w'⟩,h1,rfl,hH,g1,g2,h3 _⟩
end Go.Ab
namespace Go.Ab
open Go Go.ChangeShapes Go.WideShapes Go.RowKit Go.Deep
set_option linter.unusedSectionVars false
variable [Glob]

def QGd (w:World):Cx:=⟨fun b=>b < w.heap.size,[],[],w⟩
theorem QYW (w:World) (hg:Glob.ok w) (hb:Glob.bound ≤ w.heap.size):Rel (QGd w):=
 ⟨rfl,by simp [QGd],fun o o' b h=>by obtain ⟨x,v,h1,_⟩:=h; simp [QGd] at h1,fun o b h=>by obtain ⟨x,v,h1,_⟩:=h; simp [QGd] at h1,fun b h=>h,hg,hb,fun o b h=>by obtain ⟨x,v,h1,_⟩:=h; simp [QGd] at h1⟩

section rd
variable {H:Type}
def RdF (R:TypeId → DataW H → List AV → Prop):List Field → List (DataW H) → List AV → Prop
 | [],[],xs=>xs = []
 | f :: fs,d :: ds,xs=>∃ a b,xs = a ++ b ∧ R f.type d a ∧ RdF R fs ds b
 | _,_,_=>False
def RdL (R:DataW H → List AV → Prop):List (DataW H) → List (List AV) → Prop
 | [],[]=>True
 | d :: ds,r :: rs=>R d r ∧ RdL R ds rs
 | _,_=>False
def Rd (P:Program):Nat → TypeId → DataW H → List AV → Prop
 | 0,_,_,_=>False
 | n + 1,t,d,xs=>match P.underlying t with
  | some .bool=>∃ b,d = .lit (.bool b) ∧ xs = [.bool b]
  | some (.int k)=>∃ i,d = .lit (.int k i) ∧ xs = [.int k i] ∧ (Lit.int k i).wf = true
  | some .string=>∃ s,d = .lit (.string s) ∧ xs = [.str s] ∧ s.length ≤ maxLen
  | some (.slice e)=>(d = .nil ∧ xs = [.imm []]) ∨ ∃ ds sp rows,d = .slice ds sp ∧ xs = [.imm rows] ∧ ds.length ≤ maxLen ∧ RdL (Rd P n e) ds rows
  | some (.struct fs)=>∃ ds,d = .agg ds ∧ RdF (Rd P n) fs.toList ds xs
  | _=>False
def QYX (P:Program) (ok:TypeId → Bool) (total:Nat):Nat → List Field → Bool
 | off,[]=>decide (off = total)
 | off,f :: r=>decide (f.offset = off) && ok f.type && QYX P ok total (off + P.cellsOf f.type) r
def QOo (P:Program):Nat → TypeId → Bool
 | 0,_=>false
 | n + 1,t=>match P.underlying t with
  | some .bool | some (.int _) | some .string=>decide (P.cellsOf t = 1)
  | some (.slice e)=>decide (P.cellsOf t = 1) && decide (0 < P.cellsOf e) && QOo P n e
  | some (.struct fs)=>QYX P (QOo P n) (P.cellsOf t) 0 fs.toList
  | _=>false

theorem QIg {c:Cx}:∀ {xs ys:List AV} {us vs:List Value},QA3 c xs us → QA3 c ys vs → QA3 c (xs ++ ys) (us ++ vs)
 | [],_,us,_,h,h'=>by simp only [QA3] at h; subst h; simpa using h'
 | a :: xs,_,us,_,h,h'=>by
  simp only [QA3] at h
  obtain ⟨v,vs',rfl,h1,h2⟩:=h
  simp only [List.cons_append,QA3]
  exact ⟨v,_,rfl,h1,QIg h2 h'⟩

theorem QOT {R:DataW H → List AV → Prop}:∀ {ds:List (DataW H)} {rows:List (List AV)},RdL R ds rows → rows.length = ds.length
 | [],[],_=>rfl
 | _ :: _,_ :: _,h=>by simp [QOT h.2]
 | [],_ :: _,h=>h.elim
 | _ :: _,[],h=>h.elim
theorem QTX {R:DataW H → List AV → Prop}:∀ (ds:List (DataW H)) (rows:List (List AV)),rows.length = ds.length → (∀ (i:Nat) d r,ds[i]? = some d → rows[i]? = some r → R d r) → RdL R ds rows
 | [],[],_,_=>trivial
 | d :: ds,r :: rs,hl,h=>⟨h 0 d r rfl rfl,QTX ds rs (by simpa using hl) fun i x y hx hy=>h (i + 1) x y (by simpa using hx) (by simpa using hy)⟩
 | [],_ :: _,hl,_=>by simp at hl
 | _ :: _,[],hl,_=>by simp at hl

variable {enc:TypeId × Value → H} {P:Program} {w:World} {held:Bool} {sp:Nat → Bool}

theorem QLe (n:Nat) (total:Nat) (ih:∀ (t:TypeId) (cs:List Value) (x:DataW H × List MemPlace),QOo P n t = true → (∃ k,DataW.trod enc P w 0 sp held k t cs = some x) →
   ∃ xs,Rd P n t x.1 xs ∧ QA3 (QGd w) xs cs ∧ xs.length = P.cellsOf t ∧ ∀ u ∈ cs,u.oneCell' = true) (cs:List Value) (hcs:cs.length = total) (m:Nat):
  ∀ (fs:List Field) (off:Nat) (ys:List (DataW H × List MemPlace)),off ≤ total → QYX P (QOo P n) total off fs = true → ys.length = fs.length →
   (∀ (i:Nat) (f:Field),fs[i]? = some f → DataW.trod enc P w 0 sp held m f.type ((cs.drop f.offset).take (P.cellsOf f.type)) = ys[i]?) →
   ∃ xs,RdF (Rd P n) fs (ys.map (·.1)) xs ∧ QA3 (QGd w) xs (cs.drop off) ∧ xs.length = total - off ∧ ∀ u ∈ cs.drop off,u.oneCell' = true
 | [],off,ys,ho,hf,hl,h=>by
  simp only [QYX,decide_eq_true_eq] at hf
  subst hf
  have:ys = []:=List.eq_nil_of_length_eq_zero (by simpa using hl)
  subst this
  have hd:cs.drop off = []:=List.drop_eq_nil_of_le (by omega)
  rw [hd]
  exact ⟨[],rfl,by simp [QA3],by simp,by simp⟩
 | f :: fs,off,ys,ho,hf,hl,h=>by
  simp only [QYX,Bool.and_eq_true,decide_eq_true_eq] at hf
  obtain ⟨⟨h1,h2⟩,h3⟩:=hf
  subst h1
  match ys,hl with
  | y :: ys,hl=>
  have h0:=h 0 f rfl
  simp only [List.getElem?_cons_zero] at h0
  obtain ⟨a,ha1,ha2,ha3,ha4⟩:=ih f.type _ y h2 ⟨m,h0⟩
  have hlen:=QCN ha2
  rw [ha3,List.length_take,List.length_drop] at hlen
  obtain ⟨b,hb1,hb2,hb3,hb4⟩:=QLe n total ih cs hcs m fs (f.offset + P.cellsOf f.type) ys (by omega) h3 (by simpa using hl) fun i g hg=>by
   have:=h (i + 1) g (by simpa using hg)
   simpa using this
  have hsplit:cs.drop f.offset = (cs.drop f.offset).take (P.cellsOf f.type) ++ cs.drop (f.offset + P.cellsOf f.type):=by
   rw [← List.drop_drop,List.take_append_drop]
  refine ⟨a ++ b,⟨a,b,rfl,ha1,hb1⟩,?_,?_,?_⟩
  ·rw [hsplit]; exact QIg ha2 hb2
  ·rw [List.length_append,ha3,hb3]; omega
  ·rw [hsplit]; intro u hu
   rcases List.mem_append.1 hu with hu | hu
   ·exact ha4 u hu
   ·exact hb4 u hu

theorem QVM:∀ (n:Nat) (t:TypeId) (cs:List Value) (x:DataW H × List MemPlace),QOo P n t = true → (∃ k,DataW.trod enc P w 0 sp held k t cs = some x) →
  ∃ xs,Rd P n t x.1 xs ∧ QA3 (QGd w) xs cs ∧ xs.length = P.cellsOf t ∧ ∀ u ∈ cs,u.oneCell' = true
 | 0,_,_,_,h,_=>by simp [QOo] at h
 | n + 1,t,cs,x,hok,⟨k,h⟩=>by
  unfold QOo at hok
  split at hok
  ·rename_i ht
   simp only [decide_eq_true_eq] at hok
   obtain ⟨b,rfl,rfl⟩:=DataW.trod_bool ht h
   exact ⟨[.bool b],by simp only [Rd,ht]; exact ⟨b,rfl,rfl⟩,by simp [QA3,Val],by simp [hok],by simp [Value.oneCell']⟩
  ·rename_i kk ht
   simp only [decide_eq_true_eq] at hok
   obtain ⟨i,rfl,rfl,hw⟩:=DataW.trod_int ht h
   exact ⟨[.int kk i],by simp only [Rd,ht]; exact ⟨i,rfl,rfl,hw⟩,by simp [QA3,Val],by simp [hok],by simp [Value.oneCell']⟩
  ·rename_i ht
   simp only [decide_eq_true_eq] at hok
   obtain ⟨s,rfl,rfl,hs⟩:=DataW.trod_string ht h
   refine ⟨[.str s.data.toList],by simp only [Rd,ht]; exact ⟨_,rfl,rfl,by rw [Array.length_toList]; exact hs⟩,?_,by simp [hok],by simp [Value.oneCell']⟩
   simp only [QA3,Val]; exact ⟨_,_,rfl,by simp,rfl⟩
  ·rename_i e ht
   simp only [Bool.and_eq_true,decide_eq_true_eq] at hok
   obtain ⟨⟨hc1,hce⟩,hoe⟩:=hok
   rcases open_slice ht h with ⟨rfl,rfl⟩ | ⟨a,len,cap,m,q,D,Pl,rfl,h1,h2,h3,h4,rfl,h5⟩
   ·refine ⟨[.imm []],by simp only [Rd,ht]; simp,?_,by simp [hc1],by simp [Value.oneCell']⟩
    simp only [QA3,Val]
    exact ⟨_,_,rfl,.inr ⟨trivial,none,0,rfl⟩,rfl⟩
   ·have hlm:len ≤ m:=by rw [h4]; split <;> omega
    have row:∀ i:Nat,i < len → ∃ xs,Rd P n e (D i) xs ∧ xs.length = P.cellsOf e ∧ ∃ cs',w.cells? 0 (a.add (i * P.cellsOf e)) (P.cellsOf e) = some cs' ∧ QA3 (QGd w) xs cs' ∧ ∀ u ∈ cs',u.oneCell' = true:=fun i hi=>by
     obtain ⟨cs',h6,h7⟩:=h5 i (by omega)
     obtain ⟨xs,g1,g2,g3,g4⟩:=QVM n e cs' (D i,Pl i) hoe ⟨q,h7⟩
     exact ⟨xs,g1,g3,cs',h6,g2,g4⟩
    let X:Nat → List AV:=fun i=>if hi:i < len then (row i hi).choose else []
    have hX:∀ i (hi:i < len),X i = (row i hi).choose:=fun i hi=>by simp [X,hi]
    refine ⟨[.imm ((List.range len).map X)],?_,?_,by simp [hc1],by simp [Value.oneCell']⟩
    ·simp only [Rd,ht]
     refine .inr ⟨_,_,_,rfl,rfl,by simp; omega,QTX _ _ (by simp) fun i d r hd hr=>?_⟩
     simp only [List.getElem?_map,Option.map_eq_some_iff] at hd hr
     obtain ⟨j,hj,rfl⟩:=hd
     obtain ⟨j',hj',rfl⟩:=hr
     rw [hj] at hj'; cases hj'
     have hj2:j < len:=by have:=List.mem_of_getElem? hj; simpa using this
     rw [hX j hj2]
     exact (row j hj2).choose_spec.1
    ·simp only [QA3,Val]
     refine ⟨_,_,rfl,?_,rfl⟩
     by_cases h0:len = 0
     ·subst h0; exact .inr ⟨rfl,some a,cap,rfl⟩
     ·left
      -- the address is plain
      have hsp:a.spot = none ∧ a.block < w.heap.size:=by
       obtain ⟨_,_,_,cs',h6,h7,_⟩:=row 0 (by omega)
       obtain ⟨_,hl,hc⟩:=World.cells?_some h6
       have h8:=hc 0 hce
       have hcs:cs'[0]? = some cs'[0]:=List.getElem?_eq_getElem (by omega)
       rw [hcs] at h8
       simp only [Nat.zero_mul,Addr.add,if_true] at h8
       have hb:=h8
       unfold World.cell? at h8
       split at h8
       ·rename_i c t' fr hh
        refine ⟨?_,(Array.getElem?_eq_some_iff.1 hh).1⟩
        cases hs:a.spot with
        | none=>rfl
        | some z=>simp [hs] at h8
       ·cases h8
      obtain ⟨b,off,spot⟩:=a
      simp only at hsp
      obtain ⟨rfl,hb⟩:=hsp
      refine ⟨b,off,cap,P.cellsOf e,by simp,hb,by simpa using h2,?_⟩
      rw [QA9]
      intro i r hr
      simp only [List.getElem?_map,Option.map_eq_some_iff] at hr
      obtain ⟨j,hj,rfl⟩:=hr
      have hij:j = i:=by
       have:=(List.getElem?_eq_some_iff.1 hj).2
       simpa using this.symm
      subst hij
      have hj2:j < len:=by have:=List.mem_of_getElem? hj; simpa using this
      rw [hX j hj2]
      obtain ⟨_,g2,cs',g3,g4,g5⟩:=(row j hj2).choose_spec
      refine ⟨g2,?_⟩
      rw [QCE]
      intro p y hy
      obtain ⟨_,hl,hc⟩:=World.cells?_some g3
      have hp:p < P.cellsOf e:=by rw [← g2]; exact (List.getElem?_eq_some_iff.1 hy).1
      have h8:=hc p hp
      have hcs:cs'[p]? = some cs'[p]:=List.getElem?_eq_getElem (by omega)
      rw [hcs] at h8
      refine ⟨cs'[p],?_,g5 _ (List.getElem_mem _),(QBv.1 g4).2 p y _ hy hcs⟩
      rw [← h8]
      show w.cell? _ = w.cell? _
      congr 1
      unfold Addr.add
      by_cases z1:j * P.cellsOf e = 0
      ·by_cases z2:p = 0
       ·simp [z1,z2]
       ·simp [z1,z2]
      ·by_cases z2:p = 0
       ·simp [z1,z2]
       ·simp [z1,z2]
  ·rename_i fs ht
   obtain ⟨ys,q,rfl,rfl,h3,h4,h5⟩:=DataW.trod_struct ht h
   obtain ⟨xs,g1,g2,g3,g4⟩:=QLe n (P.cellsOf t) (QVM n) cs h3 q fs.toList 0 ys (by omega) hok (by simpa using h4) fun i f hf=>h5 i f (by simpa using hf)
   exact ⟨xs,by simp only [Rd,ht]; exact ⟨_,rfl,g1⟩,by simpa using g2,by simpa using g3,by simpa using g4⟩
  ·cases hok

def RdV (P:Program) (m:Nat) (t:TypeId) (d:DataW H) (y:AV):Prop:=match P.underlying t with
 | some (.struct _)=>∃ xs,y = .agg xs ∧ Rd P m t d xs
 | _=>Rd P m t d [y]
def QHC (P:Program) (m:Nat):List TypeId → List (DataW H) → List AV → Prop
 | [],[],[]=>True
 | t :: ts,d :: ds,y :: ys=>RdV P m t d y ∧ QHC P m ts ds ys
 | _,_,_=>False

theorem QYY {m:Nat} {t:TypeId} {v:Value} {d:DataW H} {ps:List MemPlace} {base:Nat} {r:Reach} (hok:QOo P m t = true) (hval:Value.okWide P w r base t v) (h:DataW.Trod enc P w 0 sp held t v d ps):
  ∃ y,RdV P m t d y ∧ Val (QGd w) y v:=by
 obtain ⟨k,hk⟩:=h
 obtain ⟨xs,h1,h2,h3,h4⟩:=QVM m t v.cells.toList (d,ps) hok ⟨k,hk⟩
 have hc:∀ n,P.underlying t = some (.struct n) → ∃ cs,v = .agg cs:=fun n hn=>by
  simp only [Value.okWide,hn] at hval
  obtain ⟨cs,h,_⟩:=hval; exact ⟨cs,h⟩
 unfold RdV
 split
 ·rename_i fs ht
  obtain ⟨cs,rfl⟩:=hc fs ht
  refine ⟨.agg xs,⟨xs,rfl,h1⟩,?_⟩
  simp only [Val]
  exact ⟨cs,rfl,h2,h4⟩
 ·rename_i hns
  have hone:P.cellsOf t = 1 ∧ ∀ cs,v ≠ .agg cs:=by
   cases m with
   | zero=>simp [QOo] at hok
   | succ n=>
    unfold QOo at hok
    split at hok
    ·rename_i ht; refine ⟨by simpa using hok,fun cs e=>?_⟩; subst e; simp [Value.okWide,ht,Cell.okWide,Cell.ok] at hval
    ·rename_i ht; refine ⟨by simpa using hok,fun cs e=>?_⟩; subst e; simp [Value.okWide,ht,Cell.okWide,Cell.ok] at hval
    ·rename_i ht; refine ⟨by simpa using hok,fun cs e=>?_⟩; subst e; simp [Value.okWide,ht,Cell.okWide,Cell.ok] at hval
    ·rename_i e ht
     simp only [Bool.and_eq_true,decide_eq_true_eq] at hok
     refine ⟨hok.1.1,fun cs e=>?_⟩; subst e; simp [Value.okWide,ht,Cell.okWide,Cell.ok] at hval
    ·rename_i fs ht; exact absurd ht (hns fs)
    ·cases hok
  rw [hone.1] at h3
  obtain ⟨y,rfl⟩:=List.length_eq_one_iff.1 h3
  have hv:v.cells.toList = [v]:=by
   cases v <;> first | rfl | exact absurd rfl (hone.2 _)
  rw [hv] at h2
  simp only [QA3] at h2
  obtain ⟨_,_,h5,h6,h7⟩:=h2
  simp only [List.cons.injEq] at h5
  obtain ⟨rfl,rfl⟩:=h5
  exact ⟨y,h1,h6⟩

theorem QTY {m:Nat} {base:Nat} {r:Reach}:∀ {ts:List TypeId} {vs:List Value} {ds:List (DataW H)} {ps:List MemPlace},ts.all (QOo P m) = true →
  (∀ (j:Nat) t v,ts[j]? = some t → vs[j]? = some v → Value.okWide P w r base t v) → DataW.TrodAll enc P w 0 sp held ts vs ds ps → ∃ ys,QHC P m ts ds ys ∧ QA3 (QGd w) ys vs
 | [],vs,ds,ps,_,_,h=>by
  obtain ⟨rfl,rfl,rfl⟩:=trodAll_nil h
  exact ⟨[],trivial,by simp [QA3]⟩
 | t :: ts,vs,ds,ps,hok,hval,h=>by
  obtain ⟨v,vs',d,ds',p,q,rfl,rfl,rfl,h1,h2⟩:=trodAll_cons h
  simp only [List.all_cons,Bool.and_eq_true] at hok
  obtain ⟨y,g1,g2⟩:=QYY hok.1 (hval 0 t v rfl rfl) h1
  obtain ⟨ys,g3,g4⟩:=QTY hok.2 (fun j t' v' ht hv=>hval (j + 1) t' v' (by simpa using ht) (by simpa using hv)) h2
  exact ⟨y :: ys,⟨g1,g3⟩,by simp only [QA3]; exact ⟨v,vs',rfl,g2,g4⟩⟩

theorem QGe {W W':World} (hl:laidOutB P = true) {sp':Nat → Bool}:∀ {ts:List TypeId} {vs:List Value} {ds:List (DataW H)} {ps:List MemPlace},ts.all (fun t=>P.readableRec t && decide (t < P.types.size)) = true →
  DataW.TrodAll enc P W 0 (fun _=>true) true ts vs ds ps → (∀ p ∈ ps,W.sameAt W' p) → (∀ p ∈ ps,sp' p.block = true) → DataW.TrodAll enc P W' 0 sp' true ts vs ds ps
 | [],vs,ds,ps,_,h,_,_=>by
  obtain ⟨rfl,rfl,rfl⟩:=trodAll_nil h
  exact trodAll_mk0
 | t :: ts,vs,ds,ps,hr,h,hs,hp=>by
  obtain ⟨v,vs',d,ds',p,q,rfl,rfl,rfl,h1,h2⟩:=trodAll_cons h
  simp only [List.all_cons,Bool.and_eq_true,decide_eq_true_eq] at hr
  refine trodAll_cons_mk (WideElems.Trod_stays hl hr.1.1 hr.1.2 h1 (fun x hx=>hs x (List.mem_append_left _ hx)) fun x hx=>hp x (List.mem_append_left _ hx)) ?_
  exact QGe hl (by simpa using hr.2) h2 (fun x hx=>hs x (List.mem_append_right _ hx)) fun x hx=>hp x (List.mem_append_right _ hx)

theorem QHe {m:Nat}:∀ {ts:List TypeId} {ds:List (DataW H)} {ys:List AV},QHC P m ts ds ys → ds.length = ts.length
 | [],[],[],_=>rfl
 | _ :: _,_ :: _,_ :: _,h=>by simp [QHe h.2]
 | [],_ :: _,_,h=>h.elim
 | _ :: _,[],_,h=>h.elim
 | [],[],_ :: _,h=>h.elim
 | _ :: _,_ :: _,[],h=>h.elim

theorem QCx {fid:Nat} {f:Func} {s:ChangeSpec} {W:World} {args:Array Value} {ds gs:List (DataW H)} {before:List MemPlace} {base:Nat} {r:Reach} (m:Nat) {tb:TypeId}
  (hvars:s.vars = []) (hr:f.resultTypes = #[tb]) (htb:P.underlying tb = some .bool) (hl:laidOutB P = true)
  (hread:f.params.toList.all (fun t=>P.readableRec t && decide (t < P.types.size)) = true) (hok:f.params.toList.all (QOo P m) = true)
  (hfn:∀ xs:List (DataW H),xs.length = f.params.toList.length → s.fn H xs = { results:=[.lit (.bool true)],args:=xs })
  (hval:∀ (j:Nat) t v,f.params[j]? = some t → args[j]? = some v → Value.okWide P W r base t v)
  (hW:DataW.Whole enc P f.params.toList s.vars false W args.toList ds gs before) (hg:Glob.ok W) (hb:Glob.bound ≤ W.heap.size)
  (law:∀ ys,QHC P m f.params.toList ds ys → ACalls P fid ys [] (.bool true) []):
  Calls P fid args W fun e W'=>∃ v,e = .returned v ∧ s.post enc P f false true false false W args v W':=by
 have hW0:=hW
 obtain ⟨p,q,hA,hV,rfl,hfz,hnd⟩:=hW
 obtain ⟨ys,h1,h2⟩:=QTY hok (fun j t v ht hv=>hval j t v (by simpa using ht) (by simpa using hv)) hA
 have h3:=(law ys h1).2 (QGd W) args.toList rfl (QYW W hg hb) h2
 rw [show args.toList.toArray = args by simp] at h3
 refine h3.mono fun e W' ⟨v,c',he,hw,_,_,hE,hv⟩=>?_
 subst he hw
 simp only [Val] at hv
 subst hv
 have hno:∀ o b,¬ QBi (QGd W) o b:=fun o b h=>by obtain ⟨x,v,h1,_⟩:=h; simp [QGd] at h1
 have hB:Below W.heap.size W c'.w:=⟨hE.os,hE.tape,hE.output,hE.size,fun b hb=>hE.keep b hb fun o=>hno o b⟩
 rw [hvars] at hV
 have hq:gs = [] ∧ q = []:=by
  cases gs with
  | nil=>exact ⟨rfl,hV⟩
  | cons g r=>exact hV.elim
 obtain ⟨rfl,rfl⟩:=hq
 have hlen:=QHe h1
 have hlt:=hW0.lt
 have hs:s.fn H (ds ++ []) = { results:=[.lit (.bool true)],args:=ds }:=by rw [List.append_nil]; exact hfn ds hlen
 refine ⟨.bool true,rfl,ds,[],p ++ [],[],p,[],hW0,?_,?_,?_,?_,fun h=>by cases h⟩
 ·rw [hs,hr]
  show DataW.TrodAll enc P c'.w W.heap.size (fun _=>false) false [tb] ((Value.bool true).resultList 1) [.lit (.bool true)] []
  exact trodAll_cons_mk (p:=[]) (p':=[]) ⟨1,by simp [DataW.trod,Value.cells,htb]⟩ trodAll_mk0
 ·rw [hs]
  exact QGe hl hread hA (fun x hx=>hB.same (hlt x (by simpa using hx))) fun x hx=>by simpa using hlt x (by simpa using hx)
 ·rw [hs,hvars]
  exact rfl
 ·exact World.keptBut_mono (fun x hx=>hx) (hB.frame _)

theorem QYZ {n:Nat} {t:TypeId} {k:IntKind} {d:DataW H} {xs:List AV} (ht:P.underlying t = some (.int k)) (h:Rd P (n + 1) t d xs):∃ i,d = .lit (.int k i) ∧ xs = [.int k i] ∧ (Lit.int k i).wf = true:=by
 unfold Rd at h; rw [ht] at h; exact h
theorem QYa {n:Nat} {t:TypeId} {d:DataW H} {xs:List AV} (ht:P.underlying t = some .string) (h:Rd P (n + 1) t d xs):∃ s,d = .lit (.string s) ∧ xs = [.str s] ∧ s.length ≤ maxLen:=by
 unfold Rd at h; rw [ht] at h; exact h
theorem QSQ {n:Nat} {t e:TypeId} {d:DataW H} {xs:List AV} (ht:P.underlying t = some (.slice e)) (h:Rd P (n + 1) t d xs):
  (d = .nil ∧ xs = [.imm []]) ∨ ∃ ds sp rows,d = .slice ds sp ∧ xs = [.imm rows] ∧ ds.length ≤ maxLen ∧ RdL (Rd P n e) ds rows:=by
 unfold Rd at h; rw [ht] at h; exact h
theorem QLf {n:Nat} {t:TypeId} {d:DataW H} {y:AV} (ht:∀ fs,P.underlying t ≠ some (.struct fs)) (h:RdV P n t d y):Rd P n t d [y]:=by
 unfold RdV at h
 split at h
 ·rename_i fs hfs; exact absurd hfs (ht fs)
 ·exact h
theorem QNa {α:Type} {R:DataW H → List AV → Prop} {f:α → List AV} (hR:∀ d r,R d r → ∃ a,r = f a):∀ {ds:List (DataW H)} {rows:List (List AV)},RdL R ds rows → ∃ l:List α,rows = l.map f ∧ l.length = ds.length
 | [],[],_=>⟨[],rfl,rfl⟩
 | d :: ds,r :: rs,h=>by
  obtain ⟨l,rfl,hl⟩:=QNa hR h.2
  obtain ⟨a,rfl⟩:=hR d r h.1
  exact ⟨a :: l,rfl,by simp [hl]⟩
 | [],_ :: _,h=>h.elim
 | _ :: _,[],h=>h.elim
theorem QQM {α:Type} {n:Nat} {t e:TypeId} {d:DataW H} {y:AV} {f:α → List AV} (ht:P.underlying t = some (.slice e)) (hR:∀ (d:DataW H) (r:List AV),Rd P n e d r → ∃ a,r = f a) (h:RdV P (n + 1) t d y):
  ∃ l:List α,y = .imm (l.map f) ∧ l.length ≤ maxLen:=by
 have h1:=QLf (fun fs e=>by rw [ht] at e; cases e) h
 rcases QSQ ht h1 with ⟨_,h2⟩ | ⟨ds,sp,rows,_,h2,h3,h4⟩
 ·exact ⟨[],by simpa using h2,by simp⟩
 ·obtain ⟨l,rfl,hl⟩:=QNa hR h4
  exact ⟨l,by simpa using h2,by omega⟩
theorem QFY {n:Nat} {t e:TypeId} {k:IntKind} {d:DataW H} {y:AV} (ht:P.underlying t = some (.slice e)) (he:P.underlying e = some (.int k)) (h:RdV P (n + 2) t d y):∃ l:List Int,y = .imm (l.map fun v=>[.int k v]) ∧ l.length ≤ maxLen:=
 QQM (f:=fun v=>[AV.int k v]) ht (fun _ _ h=>by obtain ⟨i,_,h2,_⟩:=QYZ he h; exact ⟨i,h2⟩) h
theorem QEQ {m:Nat} {ds:List (DataW H)} {ys:List AV} (h:QHC P m [] ds ys):ys = []:=by
 match ds,ys,h with | [],[],_=>rfl
theorem QDI {m:Nat} {t:TypeId} {ts:List TypeId} {ds:List (DataW H)} {ys:List AV} (h:QHC P m (t :: ts) ds ys):∃ d ds' y ys',ds = d :: ds' ∧ ys = y :: ys' ∧ RdV P m t d y ∧ QHC P m ts ds' ys':=by
 match ds,ys,h with | d :: ds,y :: ys,h=>exact ⟨d,ds,y,ys,rfl,rfl,h.1,h.2⟩
end rd
end Go.Ab
namespace Go.Ab
open Go Go.ChangeShapes Go.WideShapes Go.RowKit Go.Deep
set_option linter.unusedSectionVars false
variable [Glob]

mutual
def AV.small (B:Nat):AV → Prop
 | .str s=>s.length ≤ B
 | .imm l=>l.length ≤ B ∧ QQO B l
 | .agg cs=>QQN B cs
 | _=>True
def QQN (B:Nat):List AV → Prop
 | []=>True
 | x :: r=>x.small B ∧ QQN B r
def QQO (B:Nat):List (List AV) → Prop
 | []=>True
 | x :: r=>QQN B x ∧ QQO B r
end
structure Bulk {H:Type} (b:DataW H → Nat) (bA:List (DataW H) → Nat):Prop where
 str:∀ s,s.length ≤ b (.lit (.string s))
 slice:∀ e s,bA e ≤ b (.slice e s) ∧ e.length ≤ b (.slice e s)
 agg:∀ ds,bA ds ≤ b (.agg ds)
 cons:∀ d r,bA (d :: r) = b d + bA r

variable {H:Type} {P:Program} {b:DataW H → Nat} {bA:List (DataW H) → Nat}
end Go.Ab
namespace Go.Ab
open Go
set_option linter.unusedSectionVars false
variable [Glob]

def QaT (k:Nat) (T:List AV) (H:List AObj) (R:St):Prop:=Wk k ⟨T,H⟩ R
def QZf (k:Nat) (R:St) (Q:Exit → St → Prop):Exit → St → Prop
 | .normal,s=>QaT k s.T s.H R
 | e,s=>Q e s
@[go_sem ↓] theorem QZg {k:Nat} {R:St} {Q:Exit → St → Prop} {T:List AV} {H:List AObj}:QZf k R Q .normal ⟨T,H⟩ = QaT k T H R:=rfl
@[go_sem ↓] theorem QZh {k:Nat} {R:St} {Q:Exit → St → Prop} {s:St}:QZf k R Q .ret s = Q .ret s:=rfl
@[go_sem ↓] theorem QZi {k:Nat} {R:St} {Q:Exit → St → Prop} {s:St} {i:Nat}:QZf k R Q (.exit i) s = Q (.exit i) s:=rfl

theorem QAP {P:Program} {k:Nat} {a b:ACode} {Q:Exit → St → Prop} {σ:St} (R:St) (h1:awp P k a (QZf k R Q) σ) (h2:awp P k b Q R):awp P k (.seq a b) Q σ:=
 QJu (QDM h1 fun e s h=>by
  cases e with
  | normal=>exact QFj h h2
  | _=>exact h)
theorem QAD {P:Program} {k:Nat} {a:ACode} {Q:Exit → St → Prop} {σ:St} (h:QGR P k a Q σ):awp P k a Q σ:=QDg h
theorem QA2 {P:Program} {own:List Nat} {f:Nat} {fn:AFn} {as:List AV} {H H':List AObj} {av:AV} (hf:QAg P own f = some fn) (hk:H.length = H'.length)
  (h:awp P H.length fn.body (QY4 H.length fn.res av H') ⟨as ++ List.replicate (fn.nt - as.length) .junk,H⟩):ACalls P f as H av H':=
 QHQ hf (QDM h fun e s hs=>by
  cases e with
  | normal=>exact (QG0 hk hs.1 hs.2).2
  | ret=>exact (QG0 hk hs.1 hs.2).1
  | _=>exact hs.elim)
theorem QFE {P:Program} {own:List Nat} {f:Nat} {fn:AFn} {xs:List AV} {H:List AObj} (R:AV → List AObj → Prop) (n:Nat) (hf:QAg P own f = some fn)
  (h:awp P H.length fn.body (QZe H.length fn.res R) ⟨xs ++ List.replicate (fn.nt - xs.length) .junk,H ++ List.replicate n .unborn⟩):ACallsR P f xs H R:=
 QJy hf (QFj (Wk.pushN n) (QDM h fun e s hs=>by
  have key:QWd H.length fn.res R s.T s.H .mk → ∃ av H',R av H' ∧ QSp H.length fn.res av H' .ret s ∧ QSp H.length fn.res av H' .normal s:=fun ⟨av,H',h1,h2,h3⟩=>⟨av,H',h1,QG0 h2.symm h3.1 h3.2⟩
  cases e with
  | normal=>obtain ⟨av,H',h1,h2,h3⟩:=key hs; exact ⟨av,H',h1,h3⟩
  | ret=>obtain ⟨av,H',h1,h2,h3⟩:=key hs; exact ⟨av,H',h1,h2⟩
  | _=>exact hs.elim))
theorem QBH {S:Type} {P:Program} {k:Nat} {body:ACode} {Q:Exit → St → Prop} {T:List AV} {H:List AObj} {u:QCh (body,Q)} (I:S → St) (m:S → Nat) (ok:S → Prop) (s0:S) (h0:ok s0) (hw:Wk k ⟨T,H⟩ (I s0))
  (h:∀ s,ok s → awp P k body (QJt (QVI k I m ok s) Q) (I s)):QT9 P k body Q T H u:=
 QM1 I m ok s0 h0 hw h
theorem QAN {k:Nat} {T T':List AV} {H H':List AObj} (hk:k ≤ H'.length) (h:cvT H H'.length T T' ∧ cvH H H'.length H H'):QaT k T H ⟨T',H'⟩:=QAC hk h
end Go.Ab
namespace Go.Ab
open Go
variable [Glob]
def goE (P:Program) (k:Nat) (b:ACode) (Q:Exit → St → Prop) (T:List AV) (H:List AObj):Prop:=awp P k b Q ⟨T,H⟩
def goQ (P:Program) (k:Nat) (b:ACode) (Q:Exit → St → Prop):Exit → St → Prop
 | .normal,s=>goE P k b Q s.T s.H
 | e,s=>Q e s
@[go_sem ↓] theorem QaU {P:Program} {k:Nat} {b:ACode} {Q:Exit → St → Prop} {T:List AV} {H:List AObj}:goQ P k b Q .normal ⟨T,H⟩ = goE P k b Q T H:=rfl
@[go_sem ↓] theorem QaV {P:Program} {k:Nat} {b:ACode} {Q:Exit → St → Prop} {s:St}:goQ P k b Q .ret s = Q .ret s:=rfl
@[go_sem ↓] theorem QaW {P:Program} {k:Nat} {b:ACode} {Q:Exit → St → Prop} {s:St} {i:Nat}:goQ P k b Q (.exit i) s = Q (.exit i) s:=rfl
theorem QBU {P:Program} {k:Nat} {a b:ACode} {Q:Exit → St → Prop} {σ:St} (h:QGR P k a (goQ P k b Q) σ):awp P k (.seq a b) Q σ:=
 QJu (QDM (QDg h) fun e s h=>by cases e <;> exact h)
end Go.Ab
namespace Go.Ab
open Go
set_option linter.unusedSectionVars false
variable [Glob]

def rnT (is:List Nat):List AV → List AV → Prop
 | [],[]=>True
 | x :: xs,y :: ys=>(y = .junk ∨ x = ren is y) ∧ rnT is xs ys
 | _,_=>False
theorem QNb {is:List Nat}:∀ {T T':List AV},rnT is T T' → T.length = T'.length ∧ ∀ (n:Nat) (y:AV),T'[n]? = some y → y = .junk ∨ T[n]? = some (ren is y)
 | [],[],_=>⟨rfl,by simp⟩
 | x :: xs,y :: ys,h=>by
  obtain ⟨h1,h2⟩:=QNb h.2
  refine ⟨by simp [h1],fun n z hz=>?_⟩
  cases n with
  | zero=>
   simp at hz; subst hz
   exact h.1.imp id fun e=>by simp [e]
  | succ n=>simp at hz ⊢; exact h2 n z hz
 | [],_ :: _,h=>h.elim
 | _ :: _,[],h=>h.elim

theorem Wk.ren {k:Nat} {T T':List AV} {H H':List AObj} (is:List Nat) (hnd:is.Nodup) (hle:H'.length = is.length) (_hk:k ≤ is.length) (hid:∀ j,j < k → is[j]? = some j)
  (hni:∀ (j m s:Nat) (l:List Nat),j < k → H'[j]? = some (.iter m s l) → m < k) (hH:∀ p ∈ is.zip (H'.map (QBP is)),H[p.1]? = some p.2) (hT:rnT is T T'):Wk k ⟨T,H⟩ ⟨T',H'⟩:=fun c a hr hHc hF=>by
 have hHc':c.H = H:=hHc
 subst hHc'
 have hH2:∀ (j p:Nat) (x:AObj),is[j]? = some p → H'[j]? = some x → c.H[p]? = some (QBP is x):=fun j p x hj hx=>
  hH (p,QBP is x) (List.mem_of_getElem? (i:=j) (by rw [List.getElem?_zip_eq_some]; exact ⟨hj,by rw [List.getElem?_map,hx]; rfl⟩))
 have hex:∀ {j p:Nat},is[j]? = some p → ∃ x,H'[j]? = some x ∧ c.H[p]? = some (QBP is x):=fun {j p} hj=>by
  have hlt:j < H'.length:=by rw [hle]; exact (List.getElem?_eq_some_iff.1 hj).1
  exact ⟨H'[j],List.getElem?_eq_getElem hlt,hH2 j p _ hj (List.getElem?_eq_getElem hlt)⟩
 have hisl:∀ {j p:Nat},is[j]? = some p → p < c.H.length:=fun {j p} hj=>by
  obtain ⟨x,_,h2⟩:=hex hj; exact (List.getElem?_eq_some_iff.1 h2).1
 have hat:∀ {j:Nat} {x:AObj},H'[j]? = some x → ∃ p,is[j]? = some p:=fun {j x} hx=>by
  have hlt:j < is.length:=by rw [← hle]; exact (List.getElem?_eq_some_iff.1 hx).1
  exact ⟨_,List.getElem?_eq_getElem hlt⟩
 have hμe:∀ {j p:Nat},is[j]? = some p → (is.map fun p=>(c.μ[p]?).getD (.pointer none))[j]? = c.μ[p]?:=fun {j p} hj=>by
  have hp:=hisl hj
  rw [List.getElem?_map,hj]
  simp [hr.len,hp]
 have hri:QMj is c ⟨c.F,is.map fun p=>(c.μ[p]?).getD (.pointer none),H',c.w⟩:=⟨fun _ h=>h,fun _ _=>rfl,fun j m s l hx=>by
  obtain ⟨p,hp⟩:=hat hx
  have ho:=hr.obj p _ (hH2 j p _ hp hx)
  cases hm:is[m]? with
  | some q=>exact ⟨q,rfl⟩
  | none=>
   simp only [QBP,hm] at ho
   obtain ⟨b,arr,_,_,_,h8⟩:=ho
   simp only [QBN,Val] at h8
   obtain ⟨⟨_,_,_,h9⟩,_⟩:=h8
   exact h9.elim,fun j p hj=>by
  obtain ⟨x,h1,h2⟩:=hex hj
  exact ⟨x,h1,h2,hμe hj⟩⟩
 have hownE:∀ {j b:Nat},QBi ⟨c.F,is.map fun p=>(c.μ[p]?).getD (.pointer none),H',c.w⟩ j b → ∃ p,is[j]? = some p ∧ QBi c p b:=fun {j b} ⟨x,v,h1,h2,h3,h4⟩=>by
  obtain ⟨p,hp⟩:=hat h1
  exact ⟨p,hp,QBP is x,v,hH2 j p x hp h1,by rw [QGH]; exact h2,by rw [← hμe hp]; exact h3,h4⟩
 have hinj:∀ {j k p:Nat},is[j]? = some p → is[k]? = some p → j = k:=fun {j k p} hj hk=>(List.getElem?_inj (List.getElem?_eq_some_iff.1 hj).1 hnd).1 (hj.trans hk.symm)
 have hre:Rel (⟨c.F,is.map fun p=>(c.μ[p]?).getD (.pointer none),H',c.w⟩:Cx):=by
  refine ⟨by simp [hle],fun j x hx=>?_,fun j k b hj hk=>?_,fun j b hj=>?_,hr.lt,hr.gl,hr.gb,fun j b hj=>?_⟩
  ·obtain ⟨p,hp⟩:=hat hx
   have ho:=hr.obj p _ (hH2 j p x hp hx)
   have hm:=hμe hp
   cases x with
   | unborn=>trivial
   | dead=>trivial
   | box e cs=>
    obtain ⟨b,arr,h5,h6,h7,h8⟩:=ho
    exact ⟨b,arr,hm.trans h5,h6,by simpa using h7,QGo hri _ _ _ rfl h8⟩
   | reg e sz l=>
    obtain ⟨v,h5,h6⟩:=ho
    refine ⟨v,hm.trans h5,h6.imp ?_ ?_⟩
    ·rintro ⟨rfl,h7⟩
     refine ⟨rfl,?_⟩
     cases l with
     | nil=>rfl
     | cons r l=>simp [QBL] at h7
    ·rintro ⟨g,o0,cap,cur,rfl,h7,h8,h9,h10,h11⟩
     exact ⟨g,o0,cap,cur,by simp,h7,by simpa using h8,h9,h10,QGp hri _ _ _ _ rfl h11⟩
   | map kvs=>
    obtain ⟨r,es,h5,h6,h7⟩:=ho
    exact ⟨r,es,hm.trans h5,by simpa using h6,QNm hri _ _ _ h7⟩
   | iter m s l=>
    obtain ⟨q,hq⟩:=hri.it j m s l hx
    simp only [QBP,hq] at ho
    obtain ⟨b,r,kvs,h5,h6,h7,h8⟩:=ho
    obtain ⟨z,g1,g2⟩:=hex hq
    rw [h7] at g2
    cases z <;> try simp only [QBP,Option.some.injEq,reduceCtorEq,AObj.map.injEq] at g2
    ·exact ⟨b,r,_,hm.trans h5,h6,g1,(hμe hq).trans h8⟩
    ·split at g2 <;> cases g2
  ·obtain ⟨p,hp,h1⟩:=hownE hj
   obtain ⟨q,hq,h2⟩:=hownE hk
   have:=hr.inj _ _ _ h1 h2
   subst this
   exact hinj hp hq
  ·obtain ⟨p,_,h1⟩:=hownE hj
   exact hr.free _ _ h1
  ·obtain ⟨p,_,h1⟩:=hownE hj
   exact hr.go _ _ h1
 refine ⟨⟨c.F,is.map fun p=>(c.μ[p]?).getD (.pointer none),H',c.w⟩,rfl,hre,⟨fun _ h=>h,fun _ h=>.inl h,fun _ _ _=>rfl,Nat.le_refl _,rfl,rfl,rfl,fun o b h=>?_,fun o x ho hx=>?_⟩,rfl,?_⟩
 ·obtain ⟨p,_,h1⟩:=hownE h
  exact .inr ⟨p,h1⟩
 ·have hj:=hid o ho
  obtain ⟨y,h1,h2⟩:=hex hj
  have hx':c.H[o]? = some x:=hx
  rw [hx'] at h2; cases h2
  refine ⟨y,h1,?_⟩
  show OStep _ _ c.μ[o]? (is.map fun p=>(c.μ[p]?).getD (.pointer none))[o]?
  rw [hμe hj]
  cases y with
  | unborn=>simp only [QBP,OStep]
  | dead=>simp only [QBP,OStep]
  | box e cs=>simp only [QBP,OStep]; exact ⟨trivial,trivial⟩
  | reg e sz l=>simp only [QBP,OStep]; simp
  | map kvs=>simp only [QBP,OStep]
  | iter m s l=>
   have hm:=hid m (hni o m s l ho h1)
   simp only [QBP,hm,OStep]; exact ⟨trivial,trivial,trivial⟩
 ·obtain ⟨h1,h2⟩:=QNb hT
  refine ⟨by rw [← hF.1]; exact h1.symm,hF.2.1,fun n=>?_⟩
  cases hn:T'[n]? with
  | none=>exact QDN _ _
  | some y=>
   rcases h2 n y hn with rfl | h3
   ·exact QDN _ _
   ·have:=hF.2.2 n
    show Val _ y _
    simp only [h3,Option.getD_some] at this
    exact QJj hri y _ this

def QVN (k:Nat) (res:List QIv) (R:AV → List AObj → Prop) (T:List AV) (H:List AObj) (_:QCh R):Prop:=∃ T' H',Wk k ⟨T,H⟩ ⟨T',H'⟩ ∧ QH9 T' H' res fun xs=>R (QBG xs) H'
def QYb (k:Nat) (res:List QIv) (R:AV → List AObj → Prop):Exit → St → Prop
 | .normal,σ | .ret,σ=>QVN k res R σ.T σ.H .mk
 | _,_=>False
@[go_sem ↓] theorem q_retW {k0:Nat} {res:List QIv} {R:AV → List AObj → Prop} {T:List AV} {H:List AObj}:QYb k0 res R .ret ⟨T,H⟩ = QVN k0 res R T H .mk:=rfl
@[go_sem ↓] theorem QaX {k0:Nat} {res:List QIv} {R:AV → List AObj → Prop} {T:List AV} {H:List AObj}:QYb k0 res R .normal ⟨T,H⟩ = QVN k0 res R T H .mk:=rfl
theorem QAj {k:Nat} {res:List QIv} {R:AV → List AObj → Prop} {T:List AV} {H:List AObj} {u:QCh R} (T':List AV) (H':List AObj) (hw:Wk k ⟨T,H⟩ ⟨T',H'⟩) (h:QH9 T' H' res fun xs=>R (QBG xs) H'):QVN k res R T H u:=⟨T',H',hw,h⟩

theorem QCn {P:Program} {own:List Nat} {f:Nat} {fn:AFn} {as:List AV} {H:List AObj} (R:AV → List AObj → Prop) (hf:QAg P own f = some fn)
  (h:awp P H.length fn.body (QYb H.length fn.res R) ⟨as ++ List.replicate (fn.nt - as.length) .junk,H⟩):ACallsR P f as H R:=by
 unfold QAg at hf
 split at hf
 ·rename_i g hg
  split at hf
  ·cases hf
  ·rename_i hname
   split at hf
   ·rename_i code hcode
    split at hf
    ·rename_i b r hb hres
     cases hf
     refine ⟨by simp [QEH,hg,hname,hcode],fun c vs hH hr hv=>?_⟩
     have hlen:=QCN hv
     have hF:Fr c (as ++ List.replicate (g.ntmps - as.length) .junk) { tmps:=vs.toArray ++ Array.replicate (g.ntmps - vs.toArray.size) undef,defers:=[] }:=by
      refine ⟨by simp [hlen],rfl,fun n=>?_⟩
      by_cases hn:n < as.length
      ·have hn':n < vs.length:=by omega
       have:=(QBv.1 hv).2 n _ _ (List.getElem?_eq_getElem hn) (List.getElem?_eq_getElem hn')
       simp only [Array.getD_eq_getD_getElem?]
       rw [List.getElem?_append_left hn,List.getElem?_eq_getElem hn,Array.getElem?_append_left (by simpa using hn')]
       simpa [hn'] using this
      ·rw [List.getElem?_append_right (by omega)]
       have:((List.replicate (g.ntmps - as.length) AV.junk)[n - as.length]?).getD .junk = .junk:=by
        rw [List.getElem?_replicate]; split <;> rfl
       rw [this]
       exact QDN _ _
     have key:∀ (σ':St) (c':Cx) (a':Act),QVN H.length r R σ'.T σ'.H .mk → Rel c' → ExtN H.length c c' → c'.H = σ'.H → Fr c' σ'.T a' →
       a'.defers = [] ∧ ∃ v,(results g a'.tmps).run P c'.w = .ok v c'.w ∧ ∃ v' c2 av,Ending.returned v = .returned v' ∧ c2.w = c'.w ∧ R av c2.H ∧ Rel c2 ∧ Ext c c2 ∧ Val c2 av v':=by
      rintro σ' c' a' ⟨T',H',hw,hres'⟩ h1 h2 h3 h4
      obtain ⟨c2,k1,k2,k3,k4,k5⟩:=hw c' a' h1 h3 h4
      have k4':c2.H = H':=k4
      rw [← k4'] at hres'
      obtain ⟨xs,us,hR,h8,h9⟩:=QGG k2 k5 _ _ _ hres hres'
      have hE2:=h2.trans k3
      refine ⟨h4.2.1,if h:us.toArray.size = 1 then us.toArray[0] else .tuple us.toArray,?_,?_⟩
      ·have e:results g a'.tmps = (do let vs ← g.results.mapM (QKw a'); Pure.pure (if h:vs.size = 1 then vs[0] else .tuple vs)):=rfl
       rw [k1] at h9
       rw [e,Array.mapM_eq_mapM_toList]
       simp only [Sem.run_bind,Sem.run_map,h9,Result.andThen_ok,Sem.run_pure]
      ·refine ⟨_,c2,QBG xs,rfl,k1,hR,k2,⟨hE2.fr,hE2.frn,hE2.keep,hE2.size,hE2.os,hE2.tape,hE2.output,hE2.own,fun o x hx=>hE2.obj o x (by rw [← hH]; exact (List.getElem?_eq_some_iff.1 hx).1) hx⟩,?_⟩
       have hxl:=QCN h8
       match xs,us,h8,hxl with
       | [],[],h8,_=>simp only [QBG,Val]; exact ⟨_,by simp; rfl,by simpa using h8⟩
       | [x],[u],h8,_=>
        simp only [QA3] at h8
        obtain ⟨v,vs',h10,h11,_⟩:=h8
        cases h10
        simpa [QBG] using h11
       | x :: y :: r',u :: u' :: us',h8,_=>simp only [QBG,Val]; exact ⟨_,by simp; rfl,by simpa using h8⟩
     refine calls_of_wp hg hcode (h own code hb c _ hr hH hF _ fun e σ' c' a' hQ h1 h2 h3 h4=>?_)
     cases e with
     | normal=>exact key σ' c' a' hQ h1 h2 h3 h4
     | ret=>exact key σ' c' a' hQ h1 h2 h3 h4
     | _=>exact hQ.elim
    ·cases hf
   ·cases hf
 ·cases hf
theorem QDd {P:Program} {own:List Nat} {f:Nat} {fn:AFn} {as:List AV} {H:List AObj} (R:AV → List AObj → Prop) (hf:QAg P own f = some fn)
  (h:QGR P H.length fn.body (QYb H.length fn.res R) ⟨as ++ List.replicate (fn.nt - as.length) .junk,H⟩):ACallsR P f as H R:=
 QCn R hf (QDg h)
theorem QER {P:Program} {own:List Nat} {f:Nat} {fn:AFn} {as:List AV} {H H':List AObj} {av:AV} (hf:QAg P own f = some fn)
  (h:QGR P H.length fn.body (QYb H.length fn.res fun v G=>v = av ∧ G = H') ⟨as ++ List.replicate (fn.nt - as.length) .junk,H⟩):ACalls P f as H av H':=
 (QDd _ hf h).one

theorem ACallsR.unbornG {P:Program} {f:Nat} {as:List AV} {R:AV → List AObj → Prop} {He:List AObj} (n:Nat) (h:ACallsR P f as He R) (hlen:∀ v G,R v G → He.length + n ≤ G.length):ACallsR P f as (He ++ List.replicate n .unborn) R:=by
 refine ⟨h.1,fun c vs hHc hr hvs=>?_⟩
 have hget:∀ {o:Nat} {x:AObj},He[o]? = some x → c.H[o]? = some x ∧ (c.μ.take He.length)[o]? = c.μ[o]?:=fun {o x} hx=>by
  have hl:=(List.getElem?_eq_some_iff.1 hx).1
  exact ⟨by rw [hHc,List.getElem?_append_left hl]; exact hx,List.getElem?_take_of_lt hl⟩
 have hback:∀ {o:Nat} {x:AObj},c.H[o]? = some x → He[o]? = some x ∨ (x = .unborn ∧ o < He.length + n):=fun {o x} hx=>by
  rw [hHc] at hx
  by_cases hl:o < He.length
  ·rw [List.getElem?_append_left hl] at hx; exact .inl hx
  ·rw [List.getElem?_append_right (by omega),List.getElem?_replicate] at hx
   split at hx
   ·exact .inr ⟨(Option.some.inj hx).symm,by omega⟩
   ·cases hx
 have hv0:QIx c ⟨c.F,c.μ.take He.length,He,c.w⟩:=⟨fun _ h=>h,fun _ _=>rfl,fun o x hne hx=>by
  rcases hback hx with h | ⟨h,_⟩
  ·exact ⟨x,h,by show OStep x x _ (c.μ.take He.length)[o]?; rw [(hget h).2]; exact OStep.refl _ _⟩
  ·exact (hne h).elim⟩
 have QVr:∀ {o b:Nat},QBi c o b → QBi ⟨c.F,c.μ.take He.length,He,c.w⟩ o b:=fun {o b} ⟨x,v,h1,h2,h3,h4⟩=>by
  rcases hback h1 with h | ⟨rfl,_⟩
  ·exact ⟨x,v,h,h2,by show (c.μ.take He.length)[o]? = _; rw [(hget h).2]; exact h3,h4⟩
  ·cases h2
 have own2:∀ {o b:Nat},QBi ⟨c.F,c.μ.take He.length,He,c.w⟩ o b → QBi c o b:=fun {o b} ⟨x,v,h1,h2,h3,h4⟩=>by
  have h1':He[o]? = some x:=h1
  have h3':(c.μ.take He.length)[o]? = some v:=h3
  rw [(hget h1').2] at h3'
  exact ⟨x,v,(hget h1').1,h2,h3',h4⟩
 have hr0:Rel ⟨c.F,c.μ.take He.length,He,c.w⟩:=by
  refine ⟨?_,fun o x hx=>?_,fun o o' b h1 h2=>hr.inj o o' b (own2 h1) (own2 h2),fun o b h1=>hr.free o b (own2 h1),hr.lt,hr.gl,hr.gb,fun o b h1=>hr.go o b (own2 h1)⟩
  ·show (c.μ.take He.length).length = He.length
   rw [List.length_take,hr.len,hHc]; simp
  ·have hx':He[o]? = some x:=hx
   exact QDn hv0 (hr.obj o x (hget hx').1) (hget hx').1 (hget hx').2 fun _ _=>rfl
 refine (h.2 _ vs rfl hr0 (QD5 hv0 _ _ hvs)).mono fun e w' hq=>?_
 obtain ⟨v,ce,av,h1,h2,h3,h4,h5,h6⟩:=hq
 have hl:=hlen _ _ h3
 refine ⟨v,ce,av,h1,h2,h3,h4,⟨h5.fr,fun b hb=>?_,fun b hb hno=>h5.keep b hb fun o ho=>hno o (own2 ho),h5.size,h5.os,h5.tape,h5.output,fun o b ho=>?_,fun o x hx=>?_⟩,h6⟩
 ·rcases h5.frn b hb with h | h | ⟨o,h⟩
  ·exact .inl h
  ·exact .inr (.inl h)
  ·exact .inr (.inr ⟨o,own2 h⟩)
 ·rcases h5.own o b ho with h | ⟨p,h⟩
  ·exact .inl h
  ·exact .inr ⟨p,own2 h⟩
 ·rcases hback hx with h | ⟨rfl,hlt⟩
  ·obtain ⟨y,hy,hs⟩:=h5.obj o x h
   refine ⟨y,hy,?_⟩
   have hs':OStep x y (c.μ.take He.length)[o]? ce.μ[o]?:=hs
   rwa [(hget h).2] at hs'
  ·exact ⟨_,List.getElem?_eq_getElem (by omega),trivial⟩

theorem ACallsR.pushN {P:Program} {f:Nat} {as:List AV} {R:AV → List AObj → Prop}:∀ (n:Nat) {H:List AObj},ACallsR P f as (H ++ List.replicate n .unborn) R → ACallsR P f as H R
 | 0,H,h=>by simpa using h
 | n + 1,H,h=>by
  refine ACallsR.pushN n (ACallsR.push ?_)
  rwa [List.append_assoc,show List.replicate n AObj.unborn ++ [AObj.unborn] = List.replicate (n + 1) .unborn from List.replicate_succ'.symm]

theorem QHD {P:Program} {f:Nat} {ys xs:List AV} {R:AV → List AObj → Prop} {He H:List AObj} {K:List AObj → AV → Prop} {u:QCh K} (is:List Nat) (n:Nat) (h:ACallsR P f ys He R) (hle:He.length = is.length) (hlen:∀ v G,R v G → G.length = is.length + n)
  (hnd:(is ++ List.range' H.length n).Nodup) (hx:xs = QBt (is ++ List.range' H.length n) ys) (hH:∀ p ∈ is.zip (He.map (QBP (is ++ List.range' H.length n))),H[p.1]? = some p.2)
  (hK:∀ v G,R v G → K (QBd (H ++ List.replicate n .unborn) (is ++ List.range' H.length n) (G.map (QBP (is ++ List.range' H.length n)))) (ren (is ++ List.range' H.length n) v)):QKI P f xs H K u:=by
 subst hx
 have h1:=ACallsR.unbornG n h (fun v G hR=>by rw [hlen v G hR,hle]; exact Nat.le_refl _)
 have h2:=ACallsR.frame (H:=H ++ List.replicate n .unborn) (is ++ List.range' H.length n) h1 (by simp [hle]) (fun v G hR=>by simp [hlen v G hR]) hnd fun j p x hj hx=>by
  by_cases hl:j < is.length
  ·rw [List.getElem?_append_left hl] at hj
   rw [List.getElem?_append_left (by rw [hle]; exact hl)] at hx
   have:=hH (p,QBP (is ++ List.range' H.length n) x) (List.mem_of_getElem? (i:=j) (by rw [List.getElem?_zip_eq_some]; exact ⟨hj,by rw [List.getElem?_map,hx]; rfl⟩))
   rw [List.getElem?_append_left (List.getElem?_eq_some_iff.1 this).1]
   exact this
  ·rw [List.getElem?_append_right (by omega)] at hj
   rw [List.getElem?_append_right (by rw [hle]; omega),List.getElem?_replicate] at hx
   split at hx
   ·cases hx
    rw [List.getElem?_range'] at hj
    ·rename_i hlt
     simp at hj
     subst hj
     rw [List.getElem?_append_right (by omega),List.getElem?_replicate,if_pos (by omega)]
     rfl
    ·omega
   ·cases hx
 exact (ACallsR.pushN n h2).mono fun v G ⟨av,He',h3,h4,h5⟩=>by subst h4; subst h5; exact hK av He' h3
def QaY {S:Type} (k:Nat) (ok:S → Prop) (R:S → St) (T:List AV) (H:List AObj) (_:QCh R):Prop:=∃ s,ok s ∧ Wk k ⟨T,H⟩ (R s)
def QSR {S:Type} (k:Nat) (ok:S → Prop) (R:S → St) (Q:Exit → St → Prop):Exit → St → Prop
 | .normal,s=>QaY k ok R s.T s.H .mk
 | e,s=>Q e s
@[go_sem ↓] theorem QYc {S:Type} {k:Nat} {ok:S → Prop} {R:S → St} {Q:Exit → St → Prop} {T:List AV} {H:List AObj}:QSR k ok R Q .normal ⟨T,H⟩ = QaY k ok R T H .mk:=rfl
@[go_sem ↓] theorem QYd {S:Type} {k:Nat} {ok:S → Prop} {R:S → St} {Q:Exit → St → Prop} {s:St}:QSR k ok R Q .ret s = Q .ret s:=rfl
@[go_sem ↓] theorem QYe {S:Type} {k:Nat} {ok:S → Prop} {R:S → St} {Q:Exit → St → Prop} {s:St} {i:Nat}:QSR k ok R Q (.exit i) s = Q (.exit i) s:=rfl
theorem QA6 {S:Type} {P:Program} {k:Nat} {a b:ACode} {Q:Exit → St → Prop} {σ:St} (R:S → St) (ok:S → Prop) (h1:awp P k a (QSR k ok R Q) σ) (h2:∀ s,ok s → awp P k b Q (R s)):awp P k (.seq a b) Q σ:=
 QJu (QDM h1 fun e s h=>by
  cases e with
  | normal=>obtain ⟨x,hx,hw⟩:=h; exact QFj hw (h2 x hx)
  | _=>exact h)
theorem QAs {S:Type} {k:Nat} {ok:S → Prop} {R:S → St} {T:List AV} {H:List AObj} {u:QCh R} (s:S) (hs:ok s) (h:Wk k ⟨T,H⟩ (R s)):QaY k ok R T H u:=⟨s,hs,h⟩
end Go.Ab
namespace Go.Ab
open Go
abbrev QAy (β:Type):=List (Option (List UInt8 × β))
variable {β:Type}
def QES (f:β → AV):Option (List UInt8 × β) → AV × AV
 | none=>(.junk,.junk)
 | some p=>(.str p.1,f p.2)
def smK (f:β → AV) (m:QAy β):List (AV × AV):=m.map (QES f)
def QAo (k:List UInt8):QAy β → Option β
 | []=>none
 | none :: r=>QAo k r
 | some p :: r=>if p.1 = k then some p.2 else QAo k r
def QBT (k:List UInt8) (v:β):QAy β → QAy β
 | []=>[some (k,v)]
 | none :: r=>none :: QBT k v r
 | some p :: r=>if p.1 = k then some (p.1,v) :: r else some p :: QBT k v r
def QDC (k:List UInt8):QAy β → QAy β
 | []=>[]
 | none :: r=>none :: QDC k r
 | some p :: r=>if p.1 = k then none :: r else some p :: QDC k r
def QEG:QAy β → Nat
 | []=>0
 | none :: r=>QEG r
 | some _ :: r=>QEG r + 1
def QBI:QAy β → Prop
 | []=>True
 | none :: r=>QBI r
 | some p :: r=>QAo p.1 r = none ∧ QBI r
theorem QKZ (k j:List UInt8):QOD (.str k) (.str j) = decide (k = j):=by
 simp only [QOD,QC4,Option.getD_some]
 by_cases h:k = j <;> simp [h]
theorem QEl (k:List UInt8):QOD (.str k) .junk = false:=rfl
theorem QCd (f:β → AV) (k:List UInt8):∀ m:QAy β,QDT (.str k) (smK f m) = (QAo k m).map f
 | []=>rfl
 | none :: r=>by
  have:=QCd f k r
  simp only [smK,List.map_cons,QES,QDT,QEl,Bool.false_eq_true,if_false,QAo] at this ⊢; exact this
 | some p :: r=>by
  have:=QCd f k r
  simp only [smK,List.map_cons,QES,QDT,QKZ,decide_eq_true_eq,QAo] at this ⊢
  by_cases h:p.1 = k
  ·simp [h]
  ·rw [if_neg (fun e=>h e.symm),if_neg h]; exact this
theorem QDv (f:β → AV) (k:List UInt8) (v:β):∀ m:QAy β,QCt (.str k) (f v) (smK f m) = smK f (QBT k v m)
 | []=>rfl
 | none :: r=>by
  have:=QDv f k v r
  simp only [smK,List.map_cons,QES,QCt,QEl,Bool.false_eq_true,if_false,QBT] at this ⊢; rw [this]
 | some p :: r=>by
  have:=QDv f k v r
  simp only [smK,List.map_cons,QES,QCt,QKZ,decide_eq_true_eq,QBT] at this ⊢
  by_cases h:p.1 = k
  ·simp [h,QES]
  ·rw [if_neg (fun e=>h e.symm),if_neg h,this]; simp [QES]
theorem QKa (f:β → AV) (k:List UInt8):∀ m:QAy β,QDx (.str k) (smK f m) = smK f (QDC k m)
 | []=>rfl
 | none :: r=>by
  have:=QKa f k r
  simp only [smK,List.map_cons,QES,QDx,QEl,Bool.false_eq_true,if_false,QDC] at this ⊢; rw [this]
 | some p :: r=>by
  have:=QKa f k r
  simp only [smK,List.map_cons,QES,QDx,QKZ,decide_eq_true_eq,QDC] at this ⊢
  by_cases h:p.1 = k
  ·simp [h,QES]
  ·rw [if_neg (fun e=>h e.symm),if_neg h,this]; simp [QES]
theorem QBy (f:β → AV) (k:List UInt8) (m:QAy β):QHg .str (.str k) (smK f m):=by
 refine ⟨rfl,fun p hp=>?_⟩
 obtain ⟨x,_,rfl⟩:=List.mem_map.1 hp
 cases x <;> rfl
theorem QKb (f:β → AV):∀ m:QAy β,QIk (smK f m) = QEG m
 | []=>rfl
 | none :: r=>by have:=QKb f r; simpa [smK,QIk,QES,QB7,QEG] using this
 | some p :: r=>by have:=QKb f r; simp only [smK,List.map_cons,QIk,QES,QB7,QEG] at this ⊢; simp [this]
@[simp] theorem QDh (f:β → AV) (m:QAy β):(smK f m).length = m.length:=by simp [smK]
theorem QLg {f:β → AV} {m:QAy β} {j:Nat} {k x:AV} (h:(smK f m)[j]? = some (k,x)) (hg:QB7 k = false):∃ p,m[j]? = some (some p) ∧ k = .str p.1 ∧ x = f p.2:=by
 simp only [smK,List.getElem?_map,Option.map_eq_some_iff] at h
 obtain ⟨o,h1,h2⟩:=h
 cases o with
 | none=>simp only [QES,Prod.mk.injEq] at h2; rw [← h2.1] at hg; cases hg
 | some p=>simp only [QES,Prod.mk.injEq] at h2; exact ⟨p,h1,h2.1.symm,h2.2.symm⟩
theorem QIh {f:β → AV} {m:QAy β} {j:Nat} {p:List UInt8 × β} (h:m[j]? = some (some p)):(smK f m)[j]? = some (.str p.1,f p.2) ∧ QB7 (AV.str p.1) = false:=by
 simp [smK,h,QES,QB7]
theorem QCM (k j:List UInt8) (v:β):∀ m:QAy β,QAo k (QBT j v m) = if j = k then some v else QAo k m
 | []=>by simp [QBT,QAo]
 | none :: r=>by simp only [QBT,QAo]; exact QCM k j v r
 | some p :: r=>by
  simp only [QBT]
  by_cases h:p.1 = j
  ·rw [if_pos h]; simp only [QAo,h]
   by_cases h2:j = k <;> simp [h2]
  ·rw [if_neg h]; simp only [QAo,QCM k j v r]
   by_cases h2:p.1 = k
   ·rw [if_pos h2,if_neg (fun e=>h (by rw [h2,e]))]; simp [h2]
   ·simp [h2]
theorem QEm (k j:List UInt8):∀ {m:QAy β},QBI m → QAo k (QDC j m) = if j = k then none else QAo k m
 | [],_=>by simp [QDC,QAo]
 | none :: r,h=>by simp only [QDC,QAo]; exact QEm k j (m:=r) h
 | some p :: r,h=>by
  simp only [QBI] at h
  simp only [QDC]
  by_cases hj:p.1 = j
  ·rw [if_pos hj]; simp only [QAo]
   by_cases h2:j = k
   ·rw [if_pos h2,← h2,← hj]; exact h.1
   ·rw [if_neg h2,if_neg (fun e=>h2 (by rw [← hj,e]))]
  ·rw [if_neg hj]; simp only [QAo,QEm k j h.2]
   by_cases h2:p.1 = k
   ·rw [if_pos h2,if_neg (fun e=>hj (by rw [h2,e]))]; simp [h2]
   ·simp [h2]
theorem QDw (k:List UInt8) (v:β):∀ {m:QAy β},QBI m → QBI (QBT k v m)
 | [],_=>by simp [QBT,QBI,QAo]
 | none :: r,h=>by simp only [QBT,QBI]; exact QDw k v (m:=r) h
 | some p :: r,h=>by
  simp only [QBI] at h
  simp only [QBT]
  by_cases hk:p.1 = k
  ·rw [if_pos hk]; exact h
  ·rw [if_neg hk]; exact ⟨by rw [QCM,if_neg (fun e=>hk e.symm)]; exact h.1,QDw k v h.2⟩
theorem QIi (k:List UInt8):∀ {m:QAy β},QBI m → QBI (QDC k m)
 | [],_=>trivial
 | none :: r,h=>by simp only [QDC,QBI]; exact QIi k (m:=r) h
 | some p :: r,h=>by
  simp only [QBI] at h
  simp only [QDC]
  by_cases hk:p.1 = k
  ·rw [if_pos hk]; exact h.2
  ·rw [if_neg hk]
   refine ⟨?_,QIi k h.2⟩
   rw [QEm _ _ h.2]; split
   ·rfl
   ·exact h.1
theorem QFF {k:List UInt8} {v:β}:∀ {m:QAy β} {j:Nat},QBI m → m[j]? = some (some (k,v)) → QAo k m = some v
 | [],_,_,h=>by simp at h
 | none :: r,0,_,h=>by simp at h
 | none :: r,j + 1,ho,h=>by simp only [QAo]; exact QFF (m:=r) (j:=j) ho (by simpa using h)
 | some p :: r,0,ho,h=>by simp at h; subst h; simp [QAo]
 | some p :: r,j + 1,ho,h=>by
  simp only [QBI] at ho
  have:=QFF ho.2 (j:=j) (by simpa using h)
  simp only [QAo]
  by_cases hp:p.1 = k
  ·rw [hp] at ho; rw [ho.1] at this; cases this
  ·rw [if_neg hp]; exact this
theorem QHf {k:List UInt8} {v:β}:∀ {m:QAy β},QAo k m = some v → ∃ j:Nat,m[j]? = some (some (k,v))
 | [],h=>by simp [QAo] at h
 | none :: r,h=>by
  simp only [QAo] at h
  obtain ⟨j,hj⟩:=QHf h
  exact ⟨j + 1,by simpa using hj⟩
 | some p :: r,h=>by
  simp only [QAo] at h
  split at h
  ·rename_i hp; cases h; exact ⟨0,by simp [← hp]⟩
  ·obtain ⟨j,hj⟩:=QHf h
   exact ⟨j + 1,by simpa using hj⟩
end Go.Ab
