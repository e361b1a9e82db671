/- The law DatabaseKeeps. -/
import Derived.Test.YtpknaffdaemlbaaGreatDoorKN
import Derived.Test.YtpknaffdaemlbaaGreatDoorW9
import Derived.Test.YtpknaffdaemlbaaGreatDoorW3
import Derived.Test.YtpknaffdaemlbaaGreatDoorC3
namespace Go.Ab
open Go Go.Proofs
theorem QG3:∀ (n:Nat) (l:List Nat),l.Nodup → (∀ x ∈ l,x < n) → l.length ≤ n
 | 0,l,_,h=>by
  cases l with
  | nil=>simp
  | cons x r=>have:=h x (by simp); omega
 | n + 1,l,hn,h=>by
  have h1:=QG3 n (l.erase n) (hn.erase n) fun x hx=>by
   have h2:=(hn.mem_erase_iff).1 hx
   have:=h x h2.2
   omega
  have h3:l.length ≤ (l.erase n).length + 1:=by rw [List.length_erase]; split <;> omega
  omega
theorem QFG {β:Type} (f:β → AV):smK f ([]:QB1 β) = []:=rfl
def rV (r:Rcd):AV:=.agg (QAU r)
theorem QXg (k:Nat) (r:Rcd):QAM k (rV r) = true:=by simp [rV,QAM,QAg]
theorem QVr (is:List Nat) (r:Rcd):ren is (rV r) = rV r:=by simp [rV,ren,QA5]
def QMN (l:List Int):AV:=.imm (l.map fun v=>[.int .i64 v])
theorem QVs (l:List Int):AObj.box 25 [.imm (l.map fun v=>[.int .i64 v]),.int .i64 0] = QAK l 0:=rfl
structure KS where
 i:Nat
 k:Nat
 dur:QAs
 seen:QAs
 pend:List Wr
 syn:QB1 Rcd
 tch:QB1 Bool
 now:QB1 Rcd
def KS.H (l:List Int) (s:KS):List AObj:=[QAK l s.k,dbB 2 3 4 s.pend.length,mO s.dur,mO s.seen,.reg 88 1 (s.pend.map QCG),.map (smK rV s.syn),.map (smK .bool s.tch),.map (smK rV s.now)]
def KS.T (keep:Int) (n:Nat) (s:KS):List AV:=tmps 123 [(1,.int .i64 keep),(5,.ptr 0 0),(6,.ptr 1 0),(7,.map 5),(8,.map 6),(9,.map 7),(10,.int .i64 ((n - s.i:Nat):Int))]
structure KS.ok (n:Nat) (s:KS):Prop where
 hi:s.i ≤ n
 inv:Inv s.dur s.seen s.pend s.syn s.now s.tch
 hk:s.k ≤ 1 + 200 * s.i
 hp:s.pend.length ≤ s.i
 hc:QGM s.seen ≤ s.i
structure Cpd (now:QB1 Rcd) (vis:List Nat) (m:QB1 Rcd):Prop where
 nd:vis.Nodup
 lt:∀ j ∈ vis,j < now.length
 o:QAx m
 onto:∀ (j:Nat) (p:List UInt8) (r:Rcd),j ∈ vis → now[j]? = some (some (p,r)) → QAv p m = some r
 fr:∀ p r,QAv p m = some r → QAv p now = some r
theorem Cpd.step {now:QB1 Rcd} {vis:List Nat} {m:QB1 Rcd} (h:Cpd now vis m) (ho:QAx now) {j:Nat} {p:List UInt8 × Rcd} (hj:now[j]? = some (some p)) (hn:j ∉ vis):Cpd now (vis ++ [j]) (QC4 p.1 p.2 m):=by
 obtain ⟨q,r⟩:=p
 have hg:=QGg ho hj
 refine ⟨?_,fun x hx=>?_,QD8 _ _ h.o,fun x p' r' hx hx2=>?_,fun p' r' hp=>?_⟩
 ·rw [List.nodup_append]
  refine ⟨h.nd,by simp,fun a ha b hb=>?_⟩
  simp at hb; subst hb
  exact fun e=>hn (e ▸ ha)
 ·rcases List.mem_append.1 hx with hx | hx
  ·exact h.lt x hx
  ·simp at hx; subst hx; exact (List.getElem?_eq_some_iff.1 hj).1
 ·rw [QBQ]
  have hg2:=QGg ho hx2
  by_cases e:q = p'
  ·rw [if_pos e,← hg2,← e,hg]
  ·rw [if_neg e]
   rcases List.mem_append.1 hx with hx | hx
   ·exact h.onto x p' r' hx hx2
   ·simp at hx; subst hx; rw [hj] at hx2; cases hx2; exact (e rfl).elim
 ·rw [QBQ] at hp
  split at hp
  ·rename_i e; cases hp; rw [← e]; exact hg
  ·exact h.fr p' r' hp
theorem Cpd.all {now:QB1 Rcd} {vis:List Nat} {m:QB1 Rcd} (h:Cpd now vis m) (hA:∀ (j:Nat) (p:List UInt8 × Rcd),now[j]? = some (some p) → j ∈ vis) (p:List UInt8):QAv p m = QAv p now:=by
 cases h1:QAv p now with
 | some r=>
  obtain ⟨j,hj⟩:=QML h1
  exact h.onto j p r (hA j _ hj) hj
 | none=>
  cases h2:QAv p m with
  | none=>rfl
  | some r=>have:=h.fr p r h2; rw [h1] at this; cases this
theorem QVt {n:Nat} {vis:List Nat} {j:Nat} (h1:vis.Nodup) (h2:∀ x ∈ vis,x < n) (hj:j < n) (hn:j ∉ vis):(vis ++ [j]).length ≤ n:=by
 refine QG3 n _ ?_ fun x hx=>?_
 ·rw [List.nodup_append]
  refine ⟨h1,by simp,fun a ha b hb=>?_⟩
  simp at hb; subst hb
  exact fun e=>hn (e ▸ ha)
 ·rcases List.mem_append.1 hx with hx | hx
  ·exact h2 x hx
  ·simp at hx; omega
end Go.Ab
