/- The abstract operations, fifth part: literals, arithmetic, comparisons, functions, maps. -/
import Derived.Test.YtneghlianebffaaGreatDoorA1
import Derived.MapKept
import Derived.Lib.SliceRun
import Derived.WalkSpells
import Derived.Laws.IdiomStrings
import Derived.Lib.AppendStr
import Derived.Lib.UnsafeStr
import Derived.Lib.IfaceEq
import Derived.Laws.Slices
import Derived.Laws.Pointers
import Derived.Maps.RangeRun
import Derived.Laws.MakeOwn
namespace Go.Ab
open Go
set_option linter.unusedSectionVars false
variable [Glob]
section ops
variable {P:Program} {o:Oper} {T:List AV} {H:List AObj} {nid:Nat} {al:Bool} {K:SK}

/-! ### struct and slice literals -/
theorem QJc {c:Cx} {place:Nat → Option (Nat × Nat)}:∀ (parts:List (Nat × Value)) (aparts:List (Nat × Nat × AV)) (cells:Array Value) (acells:List AV) (KK:List AV → Prop),
  QA3 c acells cells.toList → (∀ u ∈ cells.toList,u.oneCell' = true) →
  parts.length = aparts.length → (∀ (j:Nat) (p:Nat × Value) (q:Nat × Nat × AV),parts[j]? = some p → aparts[j]? = some q → place p.1 = some (q.1,q.2.1) ∧ Val c q.2.2 p.2) →
  QIP acells aparts KK → ∃ (res:Array Value) (ares:List AV),Instr.fill place cells parts = some res ∧ KK ares ∧ QA3 c ares res.toList ∧ (∀ u ∈ res.toList,u.oneCell' = true)
 | [],[],cells,acells,KK,hv,h1,_,_,hk=>⟨cells,acells,rfl,hk,hv,h1⟩
 | [],_ :: _,_,_,_,_,_,hl,_,_=>by simp at hl
 | _ :: _,[],_,_,_,_,_,hl,_,_=>by simp at hl
 | (i,v) :: parts,(off,size,x) :: aparts,cells,acells,KK,hv,h1,hl,hp,hk=>by
  obtain ⟨hx,hsz,hle,hk⟩:=hk
  obtain ⟨hpl,hvx⟩:=hp 0 _ _ rfl rfl
  simp only at hpl hvx
  obtain ⟨hcv,hc1⟩:=QE5 hx hvx
  have hvl:v.cells.size = size:=by have:=QCN hcv; rw [← hsz]; simpa using this
  have hcl:cells.size = acells.length:=by have:=QCN hv; simpa using this
  have hfold:∀ (vs:List Value) (k:Nat) (cs:Array Value),off + k + vs.length ≤ cs.size →
    ((vs.zipIdx k).foldl (fun cs (p:Value × Nat)=>cs.setIfInBounds (off + p.2) p.1) cs).toList = cs.toList.take (off + k) ++ vs ++ cs.toList.drop (off + k + vs.length):=by
   intro vs
   induction vs with
   | nil=>intro k cs _; simp
   | cons u vs ih=>
    intro k cs hb
    simp only [List.length_cons] at hb
    rw [List.zipIdx_cons,List.foldl_cons,ih (k + 1) _ (by simp; omega)]
    simp only [Array.toList_setIfInBounds]
    have:=list_seg_step cs.toList (off + k) u vs (by simp; omega)
    rw [show off + (k + 1) = off + k + 1 from by omega,show off + k + 1 + vs.length = off + k + (vs.length + 1) from by omega] at *
    simpa [List.append_assoc,Nat.add_assoc,Nat.add_comm,Nat.add_left_comm] using this
  have hcells:(v.cells.zipIdx.foldl (fun cs (p:Value × Nat)=>cs.setIfInBounds (off + p.2) p.1) cells).toList = cells.toList.take off ++ v.cells.toList ++ cells.toList.drop (off + size):=by
   have:=hfold v.cells.toList 0 cells (by simp [hvl]; omega)
   rw [← Array.foldl_toList,Array.toList_zipIdx]
   simpa [hvl] using this
  have hnew:QA3 c (acells.take off ++ cellsOf x ++ acells.drop (off + size)) (cells.toList.take off ++ v.cells.toList ++ cells.toList.drop (off + size)):=by
   rw [QBv]
   have ha:=QCN hv
   refine ⟨by simp [hcl,hvl,hsz],fun j y u hj hu=>?_⟩
   have hl1:(acells.take off).length = off:=by rw [List.length_take]; omega
   have hl2:(cells.toList.take off).length = off:=by rw [List.length_take]; omega
   have hl3:v.cells.toList.length = size:=by simpa using hvl
   by_cases h2:j < off
   ·rw [List.append_assoc,List.getElem?_append_left (by omega),List.getElem?_take_of_lt h2] at hj hu
    exact (QBv.1 hv).2 _ _ _ hj hu
   ·by_cases h3:j < off + size
    ·rw [List.append_assoc,List.getElem?_append_right (by omega),List.getElem?_append_left (by omega)] at hj hu
     rw [hl1] at hj; rw [hl2] at hu
     exact (QBv.1 hcv).2 _ _ _ hj hu
    ·rw [List.append_assoc,List.getElem?_append_right (by omega),List.getElem?_append_right (by omega),List.getElem?_drop] at hj hu
     rw [hl1,hsz,show off + size + (j - off - size) = j from by omega] at hj
     rw [hl2,hl3,show off + size + (j - off - size) = j from by omega] at hu
     exact (QBv.1 hv).2 _ _ _ hj hu
  obtain ⟨res,ares,h5,h6,h7,h8⟩:=QJc (place:=place) parts aparts (v.cells.zipIdx.foldl (fun cs (p:Value × Nat)=>cs.setIfInBounds (off + p.2) p.1) cells) _ KK (by rw [hcells]; exact hnew)
   (by
    rw [hcells]
    intro u hu
    rcases List.mem_append.1 hu with hu | hu
    ·rcases List.mem_append.1 hu with hu | hu
     ·exact h1 u (List.mem_of_mem_take hu)
     ·exact hc1 u hu
    ·exact h1 u (List.mem_of_mem_drop hu))
   (by simpa using hl) (fun j p q h h'=>hp (j + 1) p q (by simpa using h) (by simpa using h')) hk
  refine ⟨res,ares,?_,h6,h7,h8⟩
  rw [Instr.fill]
  simp only [hpl]
  have hno:¬ (v.cells.size ≠ size ∨ off + v.cells.size > cells.size):=by omega
  simp only [hno,decide_eq_true_eq,Bool.or_eq_true,if_false]
  simpa using h5

def QCy (P:Program) (fields:Array Field):List (Nat × Operand) → Option (List (Nat × Nat × Opd))
 | []=>some []
 | (j,x) :: r=>match fields[j]? with
  | some f=>(match P.info? f.type with
   | some i=>(QCy P fields r).map fun l=>(f.offset,i.size,opd x) :: l
   | none=>none)
  | none=>none

theorem QFG {fields:Array Field}:∀ {parts:List (Nat × Operand)} {l:List (Nat × Nat × Opd)},QCy P fields parts = some l →
  l.length = parts.length ∧ ∀ (j:Nat) (p:Nat × Operand) (q:Nat × Nat × Opd),parts[j]? = some p → l[j]? = some q → ∃ f i,fields[p.1]? = some f ∧ P.info? f.type = some i ∧ q = (f.offset,i.size,opd p.2)
 | [],l,h=>by simp [QCy] at h; subst h; simp
 | (j,x) :: r,l,h=>by
  unfold QCy at h
  split at h
  ·rename_i f hf
   split at h
   ·rename_i i hi
    cases hb:QCy P fields r with
    | none=>simp [hb] at h
    | some l'=>
     simp [hb] at h
     subst h
     obtain ⟨h1,h2⟩:=QFG hb
     refine ⟨by simp [h1],fun k p q hp hq=>?_⟩
     cases k with
     | zero=>simp at hp hq; subst hp hq; exact ⟨f,i,hf,hi,rfl⟩
     | succ k=>simp at hp hq; exact h2 k p q hp hq
   ·simp at h
  ·simp at h

def QFH (T:List AV) (l:List (Nat × Nat × Opd)):List (Nat × Nat × AV):=l.map fun p=>(p.1,p.2.1,p.2.2.ev T)

theorem QNd:∀ {parts:List (Nat × Nat × AV)} {cells:List AV} {KK:List AV → Prop},QIP cells parts KK → ∃ r,KK r ∧ QIP cells parts (fun x=>x = r)
 | [],cells,KK,h=>⟨cells,h,rfl⟩
 | (off,size,x) :: r,cells,KK,h=>by
  obtain ⟨h1,h2,h3,h4⟩:=h
  obtain ⟨res,h5,h6⟩:=QNd h4
  exact ⟨res,h5,h1,h2,h3,h6⟩

theorem QIj {fields:Array Field} (h:∀ f ∈ fields.toList,(P.info? f.type).isSome = true) (w:World):
  (fields.mapM fun f=>do pure (f.offset,← sizeOf f.type):Sem (Array (Nat × Nat))).run P w = .ok (fields.map fun f=>(f.offset,P.cellsOf f.type)) w:=by
 rw [Array.mapM_eq_mapM_toList]
 have key:∀ l:List Field,(∀ f ∈ l,(P.info? f.type).isSome = true) → (l.mapM (fun f=>do pure (f.offset,← sizeOf f.type)):Sem (List (Nat × Nat))).run P w = .ok (l.map fun f=>(f.offset,P.cellsOf f.type)) w:=by
  intro l
  induction l with
  | nil=>intro _; simp
  | cons f l ih=>
   intro hl
   obtain ⟨i,hi⟩:=Option.isSome_iff_exists.1 (hl f (by simp))
   simp only [List.mapM_cons,Sem.run_bind,QBo hi,Result.andThen_ok,Sem.run_pure,ih fun g hg=>hl g (by simp [hg]),List.map_cons]
   simp [Program.cellsOf,hi]
 rw [Sem.run_map,key _ h]
 have e:(fields.toList.map fun f=>(f.offset,P.cellsOf f.type)).toArray = fields.map fun f=>(f.offset,P.cellsOf f.type):=Array.ext' (by simp)
 simp only [Result.andThen_ok,e]

theorem QQS {t:TypeId} {parts:Array (Nat × Operand)} {fields:Array Field} {i:TypeInfo} {z:Value} {l:List (Nat × Nat × Opd)} (ho:o.op = .build t parts) (ht:P.underlying t = some (.struct fields))
  (hi:P.info? t = some i) (hz:i.zero = some z) (h1:z.cells.all (·.oneCell') = true) (hfs:fields.toList.all (fun f=>(P.info? f.type).isSome) = true) (hl:QCy P fields parts.toList = some l)
  (hs:QIP (z.cells.toList.map QD6) (QFH T l) (fun cs=>K [] [] (.agg cs))):Out P o T H nid al K:=by
 obtain ⟨r,hK,hf⟩:=QNd hs
 refine QAX hK fun c a hr hv=>?_
 obtain ⟨hlen,hspec⟩:=QFG hl
 have hmem:∀ x ∈ parts.toList,x.2 ∈ o.op.operands.toList:=fun x hx=>by simp [ho,Op.operands]; exact ⟨x.1,by simpa using hx⟩
 have hpl:=QIj (P:=P) (fields:=fields) (fun f hf'=>by simpa using (List.all_eq_true.1 hfs) f hf') c.w
 obtain ⟨res,ares,h5,rfl,h7,h8⟩:=QJc (c:=c) (place:=fun j=>(fields.map fun f=>(f.offset,P.cellsOf f.type))[j]?) (parts.toList.map fun p=>(p.1,a.eval p.2)) (QFH T l) z.cells _ _ (QCS c _)
  (fun u hu=>(Array.all_eq_true_iff_forall_mem.1 h1) u (by simpa using hu)) (by simp [QFH,hlen]) (fun j p q hp hq=>by
   rw [List.getElem?_map] at hp
   rw [QFH,List.getElem?_map] at hq
   cases hp':parts.toList[j]? with
   | none=>simp [hp'] at hp
   | some p'=>
    cases hq':l[j]? with
    | none=>simp [hq'] at hq
    | some q'=>
     simp [hp'] at hp; simp [hq'] at hq
     obtain ⟨f,fi,e1,e2,rfl⟩:=hspec j p' q' hp' hq'
     subst hp hq
     exact ⟨by simp [e1,Program.cellsOf,e2],hv _ (hmem p' (List.mem_of_getElem? hp'))⟩) hf
 refine ⟨.agg res,?_,by simp only [Val]; exact ⟨res,rfl,h7,h8⟩⟩
 simp only [execOp,ho,Instr.build,Sem.run_bind,zeroValue,QE3 hi,Result.andThen_ok,hz,Sem.run_pure,run_underlying ht,hpl]
 have e:(parts.map fun x:Nat × Operand=>(x.1,a.eval x.2)).toList = parts.toList.map fun p=>(p.1,a.eval p.2):=by simp
 simp only [e,h5,Sem.run_pure,Result.andThen_ok]

theorem QOU {t e n:TypeId} {parts:Array (Nat × Operand)} {i ie:TypeInfo} {z:Value} (ho:o.op = .build t parts) (ht:P.underlying t = some (.array n e))
  (hi:P.info? t = some i) (hz:i.zero = some z) (hie:P.info? e = some ie) (h1:z.cells.all (·.oneCell') = true) (hp:parts.toList = [])
  (hs:K [] [] (.agg (z.cells.toList.map QD6))):Out P o T H nid al K:=by
 refine QAX hs fun c a hr hv=>?_
 refine ⟨.agg z.cells,?_,by simp only [Val]; exact ⟨z.cells,rfl,QCS c _,fun u hu=>(Array.all_eq_true_iff_forall_mem.1 h1) u (by simpa using hu)⟩⟩
 have e1:(parts.map fun x:Nat × Operand=>(x.1,a.eval x.2)).toList = []:=by simp [hp]
 simp only [execOp,ho,Instr.build,Sem.run_bind,zeroValue,QE3 hi,Result.andThen_ok,hz,Sem.run_pure,run_underlying ht,QBo hie,e1,Instr.fill]

def QFI (e sz:Nat) (own:Bool) (xs:List AV) (nid:Nat) (K:SK):Prop:=
 (∀ x ∈ xs,QCs x = true ∧ (cellsOf x).length = sz) ∧
 if own then K [(nid,.unborn)] [(nid,.reg e sz (xs.map cellsOf))] (.own nid xs.length) else K [] [] (.imm (xs.map cellsOf))

theorem QJd {c:Cx} {sz:Nat}:∀ (vs:List Value) (xs:List AV) (k:Nat) (cells:Array Value),vs.length = xs.length → (k + vs.length) * sz ≤ cells.size →
  (∀ (j:Nat) (v:Value) (x:AV),vs[j]? = some v → xs[j]? = some x → Val c x v ∧ QCs x = true ∧ (cellsOf x).length = sz) →
  ∃ news,Instr.fill (fun i=>some (i * sz,sz)) cells ((List.range' k vs.length).zip vs) = some (cells.toList.take (k * sz) ++ news ++ cells.toList.drop ((k + vs.length) * sz)).toArray ∧ QLH c (xs.map cellsOf) news sz ∧ ∀ u ∈ news,u.oneCell' = true
 | [],[],k,cells,_,_,_=>⟨[],by simp [Instr.fill],by simpa using QCY c sz,by simp⟩
 | [],_ :: _,_,_,hl,_,_=>by simp at hl
 | _ :: _,[],_,_,hl,_,_=>by simp at hl
 | v :: vs,x :: xs,k,cells,hl,hb,h=>by
  obtain ⟨hv,hx,hsz⟩:=h 0 v x rfl rfl
  obtain ⟨hcv,hc1⟩:=QE5 hx hv
  have hvl:v.cells.size = sz:=by have:=QCN hcv; rw [← hsz]; simpa using this
  have hb':k * sz + sz + vs.length * sz ≤ cells.size:=by
   simp only [List.length_cons] at hb
   have:(k + (vs.length + 1)) * sz = k * sz + sz + vs.length * sz:=by simp only [Nat.add_mul,Nat.one_mul]; omega
   omega
  have hfold:∀ (us:List Value) (q:Nat) (cs:Array Value),k * sz + q + us.length ≤ cs.size →
    ((us.zipIdx q).foldl (fun cs (p:Value × Nat)=>cs.setIfInBounds (k * sz + p.2) p.1) cs).toList = cs.toList.take (k * sz + q) ++ us ++ cs.toList.drop (k * sz + q + us.length):=by
   intro us
   induction us with
   | nil=>intro q cs _; simp
   | cons u us ih=>
    intro q cs hq
    simp only [List.length_cons] at hq
    rw [List.zipIdx_cons,List.foldl_cons,ih (q + 1) _ (by simp; omega)]
    simp only [Array.toList_setIfInBounds]
    have:=list_seg_step cs.toList (k * sz + q) u us (by simp; omega)
    rw [show k * sz + (q + 1) = k * sz + q + 1 from by omega,show k * sz + q + 1 + us.length = k * sz + q + (us.length + 1) from by omega] at *
    simpa [List.append_assoc,Nat.add_assoc,Nat.add_comm,Nat.add_left_comm] using this
  have hcells:(v.cells.zipIdx.foldl (fun cs (p:Value × Nat)=>cs.setIfInBounds (k * sz + p.2) p.1) cells).toList = cells.toList.take (k * sz) ++ v.cells.toList ++ cells.toList.drop (k * sz + sz):=by
   have:=hfold v.cells.toList 0 cells (by simp [hvl]; omega)
   rw [← Array.foldl_toList,Array.toList_zipIdx]
   simpa [hvl] using this
  have hlen:(v.cells.zipIdx.foldl (fun cs (p:Value × Nat)=>cs.setIfInBounds (k * sz + p.2) p.1) cells).size = cells.size:=by
   have:=congrArg List.length hcells
   simp only [Array.length_toList,List.length_append,List.length_take,List.length_drop,hvl] at this
   omega
  obtain ⟨news,h1,h2,h3⟩:=QJd (c:=c) vs xs (k + 1) (v.cells.zipIdx.foldl (fun cs (p:Value × Nat)=>cs.setIfInBounds (k * sz + p.2) p.1) cells) (by simpa using hl)
   (by rw [hlen]; simp only [Nat.add_mul,Nat.one_mul]; omega) (fun j u y hu hy=>h (j + 1) u y (by simpa using hu) (by simpa using hy))
  refine ⟨v.cells.toList ++ news,?_,QLI hsz hcv hc1 h2,fun u hu=>(List.mem_append.1 hu).elim (hc1 u) (h3 u)⟩
  rw [List.length_cons,List.range'_succ,List.zip_cons_cons,Instr.fill]
  have hno:¬ (v.cells.size ≠ sz ∨ k * sz + v.cells.size > cells.size):=by omega
  simp only [hno,decide_eq_true_eq,Bool.or_eq_true,if_false]
  rw [h1,hcells]
  have hla:(cells.toList.take (k * sz) ++ v.cells.toList).length = (k + 1) * sz:=by
   have hcs:cells.toList.length = cells.size:=rfl
   have hvs:v.cells.toList.length = sz:=hvl
   rw [List.length_append,List.length_take,hvs,Nat.add_mul,Nat.one_mul]; omega
  rw [List.take_left' hla,show (k + 1 + vs.length) * sz = (cells.toList.take (k * sz) ++ v.cells.toList).length + vs.length * sz from by rw [hla,Nat.add_mul (k + 1)],List.drop_length_add_append,List.drop_drop,show k * sz + sz + vs.length * sz = (k + (vs.length + 1)) * sz from by simp only [Nat.add_mul,Nat.one_mul]; omega]
  simp [List.append_assoc]

theorem QOV {parts:List (Nat × Operand)} {n:Nat} (hidx:parts.map (·.1) = List.range n):n = parts.length ∧ ∀ (a:Act),parts.map (fun p=>(p.1,a.eval p.2)) = (List.range' 0 (parts.map (fun p=>a.eval p.2)).length).zip (parts.map fun p=>a.eval p.2):=by
 have hn:n = parts.length:=by have:=congrArg List.length hidx; simpa using this.symm
 refine ⟨hn,fun a=>?_⟩
 rw [List.length_map,← List.range_eq_range',← hn,← hidx,List.zip_map']

theorem QOW {t e n:Nat} {own:Bool} {parts:Array (Nat × Operand)} {i:TypeInfo} {z:Value} (hal:own = true → al = true) (ho:o.op = .buildSlice t n parts) (ht:P.underlying t = some (.slice e)) (hi:P.info? e = some i) (hz:i.zero = some z)
  (hidx:parts.toList.map (·.1) = List.range n) (hsmall:n * i.size ≤ 2 ^ 24) (hn0:n * i.size ≠ 0 ∨ n = 0) (hnm:n ≤ maxLen)
  (hs:QFI e i.size own (parts.toList.map fun p=>(opd p.2).ev T) nid K):Out P o T H nid al K:=by
 obtain ⟨hn,hpe⟩:=QOV hidx
 unfold QFI at hs
 obtain ⟨hok,hs⟩:=hs
 have hmem:∀ x ∈ parts.toList,x.2 ∈ o.op.operands.toList:=fun x hx=>by simp [ho,Op.operands]; exact ⟨x.1,by simpa using hx⟩
 have main:∀ (c:Cx) (a:Act),(∀ x ∈ o.op.operands.toList,Val c ((opd x).ev T) (a.eval x)) → ∃ news:List Value,news.length = n * i.size ∧
   QLH c ((parts.toList.map fun p=>(opd p.2).ev T).map cellsOf) news i.size ∧ (∀ u ∈ news,u.oneCell' = true) ∧
   (execOp a.eval o).run P c.w = .ok (.value (.slice (some ⟨c.w.heap.size,0,none⟩) n n)) (c.w.alloc (.cells news.toArray e)):=by
  intro c a hv
  rcases hn0 with hn0 | hn0
  case inr=>
   subst hn0
   have hpl:parts.toList = []:=by simpa using hidx
   refine ⟨[],by simp,by simpa [hpl] using QCY c i.size,by simp,?_⟩
   have e1:(parts.map fun x:Nat × Operand=>(x.1,a.eval x.2)).toList = []:=by simp [hpl]
   simp only [execOp,ho,Instr.buildSlice,Sem.run_bind,run_underlying ht,Result.andThen_ok,QBo hi,Sem.run_pure,e1,newRow]
   simp [Instr.fill]
   rw [show (Array.range 0) = #[] from rfl,Array.map_empty]
  obtain ⟨news,h1,h2,h3⟩:=QJd (c:=c) (sz:=i.size) (parts.toList.map fun p=>a.eval p.2) (parts.toList.map fun p=>(opd p.2).ev T) 0 ((Array.range (n * i.size)).map (z.cells[· % z.cells.size]!)) (by simp) (by simp [hn]) (fun j v x hv' hx=>by
   rw [List.getElem?_map] at hv' hx
   cases hp:parts.toList[j]? with
   | none=>simp [hp] at hv'
   | some p=>
    simp [hp] at hv' hx
    subst hv' hx
    have hm:p ∈ parts.toList:=List.mem_of_getElem? hp
    exact ⟨hv _ (hmem p hm),hok _ (List.mem_map.2 ⟨p,hm,rfl⟩)⟩)
  have hnl:news.length = n * i.size:=by rw [h2.1]; simp [hn]
  refine ⟨news,hnl,h2,h3,?_⟩
  have e1:(parts.map fun x:Nat × Operand=>(x.1,a.eval x.2)).toList = parts.toList.map fun p=>(p.1,a.eval p.2):=by simp
  have h48:¬ (n * i.size > 2 ^ 24):=by omega
  simp only [execOp,ho,Instr.buildSlice,Sem.run_bind,run_underlying ht,Result.andThen_ok,QBo hi,h48,if_false,hn0,zeroValue,QE3 hi,hz,Sem.run_pure,e1,hpe,h1,newRow,run_newObj,World.alloc_eq]
  congr 3
  congr 1
  have hlen:(List.map (fun p:Nat × Operand=>a.eval p.2) parts.toList).length = n:=by simp [hn]
  simp [hlen]
 cases own with
 | true=>
  simp only [if_true] at hs
  refine ⟨_,_,_,hs,by simp,by simp,.inr ⟨hal rfl,[],_,rfl,by simp⟩,fun c a hr hv hp=>?_⟩
  have hu:c.H[nid]? = some .unborn:=hp (nid,.unborn) (by simp)
  have hlt:nid < c.H.length:=(List.getElem?_eq_some_iff.1 hu).1
  obtain ⟨news,h1,h2,h3,h4⟩:=main c a hv
  have hlen:((parts.toList.map fun p=>(opd p.2).ev T).map cellsOf).length = n:=by simp [hn]
  have hN:=QFx (c:=c) hr (nid:=nid) (x':=.reg e i.size ((parts.toList.map fun p=>(opd p.2).ev T).map cellsOf)) (v':=.slice (some ⟨c.w.heap.size,0,none⟩) n n) (.cells news.toArray e) hu (fun b hb=>by simpa [blk] using hb.symm)
   (fun F hE hm=>⟨_,hm,.inr ⟨c.w.heap.size,0,n,news.toArray,by rw [hlen],QCT c.w _,by omega,hnm,⟨by simp [h1],fun _=>rfl⟩,QCH (QC5 hE h2) fun j u hj=>by
    rw [Nat.zero_add]
    show (c.w.alloc _).cell? _ = _
    rw [World.cell?_alloc_new]; simpa using hj⟩⟩)
  refine ⟨_,_,hN.1,hN.2,rfl,?_,.value h4⟩
  simp only [Val]
  exact ⟨⟨_,_,_,rfl⟩,.inl ⟨e,i.size,_,set_getElem?_self hu,by simp,fun _=>by simp [hr.len,hlt]⟩⟩
 | false=>
  simp only [Bool.false_eq_true,if_false] at hs
  refine ⟨_,_,_,hs,by simp,by simp,.inl (by simp),fun c a hr hv hp=>?_⟩
  obtain ⟨news,h1,h2,h3,h4⟩:=main c a hv
  have hlen:((parts.toList.map fun p=>(opd p.2).ev T).map cellsOf).length = n:=by simp [hn]
  have hN:=QEf hr (F':=fun b=>c.F b ∨ b = c.w.heap.size) (w':=c.w.alloc (.cells news.toArray e)) (fun b h=>.inl h) (fun b h=>h.imp id fun h=>⟨by omega,by simp; omega⟩) (fun b hb=>QDS c.w _ b hb) (by simp) rfl rfl rfl
  refine ⟨_,_,hN.1,hN.2,rfl,?_,.value h4⟩
  simp only [Val]
  refine .inl ⟨c.w.heap.size,0,n,i.size,by rw [hlen],.inr rfl,by omega,QCH (QC5 (hN.2.vext hr) h2) fun j u hj=>?_⟩
  rw [Nat.zero_add]
  show (c.w.alloc _).cell? _ = _
  rw [World.cell?_alloc_new]; simpa using hj

end ops
end Go.Ab
namespace Go.Ab
open Go
set_option linter.unusedSectionVars false
variable [Glob]
section ops
variable {P:Program} {o:Oper} {T:List AV} {H:List AObj} {nid:Nat} {al:Bool} {K:SK}

theorem QSX {fn:Fn} {first caps:Array Operand} (ho:o.op = .makeFunc fn first caps) (hK:K [] [] (.fn fn (first.toList.map fun x=>(opd x).ev T) (caps.toList.map fun x=>(opd x).ev T))):Out P o T H nid al K:=by
 refine QAX hK fun c a hr hv=>⟨_,by simp only [execOp,ho,Instr.makeFunc]; rfl,?_⟩
 simp only [Val]
 have key:∀ l:List Operand,(∀ x ∈ l,x ∈ o.op.operands.toList) → QA3 c (l.map fun x=>(opd x).ev T) (l.map a.eval):=by
  intro l
  induction l with
  | nil=>intro _; simp [QA3]
  | cons x l ih=>intro h; simp only [List.map_cons,QA3]; exact ⟨_,_,rfl,hv x (h x (by simp)),ih fun y hy=>h y (by simp [hy])⟩
 refine ⟨_,_,rfl,?_,?_⟩
 ·have:=key first.toList (fun x hx=>by simp [ho,Op.operands]; exact .inl (by simpa using hx))
  simpa using this
 ·have:=key caps.toList (fun x hx=>by simp [ho,Op.operands]; exact .inr (by simpa using hx))
  simpa using this

theorem QMc {x:Operand} {j:Nat} (ho:o.op = .extract x j) (hs:QFS ((opd x).ev T) j K):Out P o T H nid al K:=by
 unfold QFS at hs
 split at hs
 ·rename_i vs hb
  split at hs
  ·rename_i v hj
   refine QAX hs fun c a hr hv=>?_
   have h1:=hv x (by simp [ho,Op.operands])
   rw [hb] at h1; simp only [Val] at h1
   obtain ⟨us,h2,h3⟩:=h1
   obtain ⟨hl,h3⟩:=QBv.1 h3
   have hjl:j < us.toList.length:=by rw [hl]; exact (List.getElem?_eq_some_iff.1 hj).1
   refine ⟨us.toList[j],?_,h3 j v _ hj (List.getElem?_eq_getElem hjl)⟩
   have:us[j]? = some us.toList[j]:=by rw [← Array.getElem?_toList]; exact List.getElem?_eq_getElem hjl
   simp [execOp,ho,h2,Instr.extract,this]
  ·exact hs.elim
 ·exact hs.elim

theorem QYk {op:UnOp} {t:TypeId} {x:Operand} (ho:o.op = .unOp op t x) (hs:sUn op ((opd x).ev T) K):Out P o T H nid al K:=by
 unfold sUn at hs
 split at hs
 ·rename_i b hb
  refine QAX hs fun c a hr hv=>?_
  have h1:=hv x (by simp [ho,Op.operands])
  rw [hb] at h1; simp only [Val] at h1
  exact ⟨.bool (!b),by simp [execOp,ho,h1,Op.unary],by simp only [Val]⟩
 ·rename_i k n hb
  refine QAX hs fun c a hr hv=>?_
  have h1:=hv x (by simp [ho,Op.operands])
  rw [hb] at h1; simp only [Val] at h1
  exact ⟨.int k (k.wrap (0 - n)),by simp [execOp,ho,h1,Op.unary,Op.intArith],by simp only [Val]⟩
 ·exact hs.elim

theorem QSY {s d:TypeId} {k k':IntKind} {x:Operand} (ho:o.op = .convert s d x) (hsrc:P.underlying s = some (.int k')) (hd:P.underlying d = some (.int k)) (hs:QOC k ((opd x).ev T) K):Out P o T H nid al K:=by
 unfold QOC at hs
 split at hs
 ·rename_i k0 n hb
  refine QAX hs fun c a hr hv=>?_
  have h1:=hv x (by simp [ho,Op.operands])
  rw [hb] at h1; simp only [Val] at h1
  exact ⟨.int k (k.wrap n),by simp [execOp,ho,h1,convert,run_underlying hsrc,run_underlying hd,Conv.intToInt],by simp only [Val]⟩
 ·exact hs.elim

theorem QB9 {op:BinOp} {t:TypeId} {x y:Operand} {u v:Value} (hu:(∀ cs,u ≠ .agg cs) ∧ u ≠ .nilIface) (w:World):(eqGuard op t x y u v).run P w = .ok () w:=by
 obtain ⟨h1,h2⟩:=hu
 unfold eqGuard
 cases op <;> simp <;> split <;> first | rfl | exact absurd rfl h2 | exact absurd rfl (h1 _)

theorem QQT {op:BinOp} {t t':TypeId} {x y:Operand} (ho:o.op = .binOp op t x y t') (hop:op ≠ .shl ∧ op ≠ .shr) (hs:QEW op ((opd x).ev T) ((opd y).ev T) K):Out P o T H nid al K:=by
 have hxy:∀ (c:Cx) (a:Act),(∀ x ∈ o.op.operands.toList,Val c ((opd x).ev T) (a.eval x)) → Val c ((opd x).ev T) (a.eval x) ∧ Val c ((opd y).ev T) (a.eval y):=
  fun c a hv=>⟨hv x (by simp [ho,Op.operands]),hv y (by simp [ho,Op.operands])⟩
 unfold QEW at hs
 split at hs
 ·rename_i k m hx
  split at hs
  ·rename_i k' n hy
   obtain ⟨rfl,hs⟩:=hs
   have mk:∀ (val:AV) (v:Value),K [] [] val → (∀ c,Val c val v) → (∀ w,(binOp op t (.int k m) (.int k n)).run P w = .ok v w) → Out P o T H nid al K:=fun val v hK hV hr=>
    QAX hK fun c a _ hv=>by
     obtain ⟨h1,h2⟩:=hxy c a hv
     rw [hx] at h1; rw [hy] at h2; simp only [Val] at h1 h2
     exact ⟨v,by simp [execOp,ho,h1,h2,QB9 (P:=P) (u:=.int k m) ⟨fun _=>by simp,by simp⟩,hr],hV c⟩
   cases op <;> simp only at hs
   case add=>exact mk _ (.int k (k.wrap (m + n))) hs (fun c=>by simp only [Val]) fun w=>by simp [binOp,Op.intArith]
   case sub=>exact mk _ (.int k (k.wrap (m - n))) hs (fun c=>by simp only [Val]) fun w=>by simp [binOp,Op.intArith]
   case mul=>exact mk _ (.int k (k.wrap (m * n))) hs (fun c=>by simp only [Val]) fun w=>by simp [binOp,Op.intArith]
   case quo=>exact mk _ (.int k (k.wrap (m.tdiv n))) hs.2 (fun c=>by simp only [Val]) fun w=>by simp [binOp,Op.intDiv,hs.1]
   case rem=>exact mk _ (.int k (m.tmod n)) hs.2 (fun c=>by simp only [Val]) fun w=>by simp [binOp,Op.intDiv,hs.1]
   case eql=>exact mk _ (.bool (m == n)) hs (fun c=>by simp only [Val]) fun w=>by simp [binOp,Op.intCmp]
   case neq=>exact mk _ (.bool (m != n)) hs (fun c=>by simp only [Val]) fun w=>by simp [binOp,Op.intCmp]
   case lss=>exact mk _ (.bool (decide (m < n))) hs (fun c=>by simp only [Val]) fun w=>by simp [binOp,Op.intCmp]
   case leq=>exact mk _ (.bool (decide (m ≤ n))) hs (fun c=>by simp only [Val]) fun w=>by simp [binOp,Op.intCmp]
   case gtr=>exact mk _ (.bool (decide (m > n))) hs (fun c=>by simp only [Val]) fun w=>by simp [binOp,Op.intCmp]
   case geq=>exact mk _ (.bool (decide (m ≥ n))) hs (fun c=>by simp only [Val]) fun w=>by simp [binOp,Op.intCmp]
   case and=>exact mk _ (.int k (bits .and k m n)) hs (fun c=>by simp only [Val]) fun w=>by simp [binOp,intBits_and]
   case or=>exact mk _ (.int k (bits .or k m n)) hs (fun c=>by simp only [Val]) fun w=>by simp [binOp,intBits_or]
   case xor=>exact mk _ (.int k (bits .xor k m n)) hs (fun c=>by simp only [Val]) fun w=>by simp [binOp,intBits_xor]
  ·exact hs.elim
 ·rename_i m hx
  split at hs
  ·rename_i n hy
   have mk:∀ (val:AV) (v:Value),K [] [] val → (∀ c,Val c val v) → (∀ w,(binOp op t (.string ⟨m.toArray⟩) (.string ⟨n.toArray⟩)).run P w = .ok v w) → Out P o T H nid al K:=fun val v hK hV hr=>
    QAX hK fun c a _ hv=>by
     obtain ⟨h1,h2⟩:=hxy c a hv
     rw [hx] at h1; rw [hy] at h2; simp only [Val] at h1 h2
     exact ⟨v,by simp [execOp,ho,h1,h2,QB9 (P:=P) (u:=.string ⟨m.toArray⟩) ⟨fun _=>by simp,by simp⟩,hr],hV c⟩
   cases op <;> simp only at hs
   case add=>
    refine mk _ (.string ⟨(m ++ n).toArray⟩) hs.2 (fun c=>by simp only [Val]) fun w=>?_
    have h63:¬ ((m.length:Int) + (n.length:Int) > IntKind.i64.max):=by
     have:IntKind.i64.max = 9223372036854775807:=by decide
     rw [this]; omega
    have e:(ByteArray.mk m.toArray ++ ByteArray.mk n.toArray) = ByteArray.mk (m ++ n).toArray:=by
     apply ByteArray.ext
     simp
    have s1:(ByteArray.mk m.toArray).size = m.length:=by simp [ByteArray.size]
    have s2:(ByteArray.mk n.toArray).size = n.length:=by simp [ByteArray.size]
    simp only [binOp,Op.stringOp,s1,s2,e]
    rw [if_neg (by simpa using h63)]
    rfl
   case eql=>exact mk _ (.bool (m == n)) hs (fun c=>by simp only [Val]) fun w=>by simp [binOp,Op.stringOp]
   case neq=>exact mk _ (.bool (!(m == n))) hs (fun c=>by simp only [Val]) fun w=>by simp [binOp,Op.stringOp]
   case lss=>exact mk _ (.bool (Op.bytesLess m n)) hs (fun c=>by simp only [Val]) fun w=>by simp [binOp,Op.stringOp]
   case leq=>exact mk _ (.bool (Op.bytesLess m n || m == n)) hs (fun c=>by simp only [Val]) fun w=>by simp [binOp,Op.stringOp]
   case gtr=>exact mk _ (.bool (!(Op.bytesLess m n || m == n))) hs (fun c=>by simp only [Val]) fun w=>by simp [binOp,Op.stringOp]
   case geq=>exact mk _ (.bool (!Op.bytesLess m n)) hs (fun c=>by simp only [Val]) fun w=>by simp [binOp,Op.stringOp]
  ·exact hs.elim
 ·exact hs.elim

theorem QNe {op:BinOp} {t t':TypeId} {x y:Operand} {neg:Bool} (ho:o.op = .binOp op t x y t') (hop:op = if neg then .neq else .eql) (ht:P.underlying t = some .bool) (hs:QOB neg ((opd x).ev T) ((opd y).ev T) K):Out P o T H nid al K:=by
 unfold QOB at hs
 split at hs
 ·rename_i m n hx hy
  refine QAX hs fun c a _ hv=>?_
  have h1:=hv x (by simp [ho,Op.operands])
  have h2:=hv y (by simp [ho,Op.operands])
  rw [hx] at h1; rw [hy] at h2; simp only [Val] at h1 h2
  refine ⟨.bool (if neg then !(m == n) else m == n),?_,by simp only [Val]⟩
  have hg:=QB9 (P:=P) (op:=op) (t:=t) (x:=x) (y:=y) (u:=.bool m) (v:=.bool n) ⟨fun _=>by simp,by simp⟩
  cases neg
  ·simp only [Bool.false_eq_true,if_false] at hop ⊢
   subst hop
   simp [execOp,ho,h1,h2,hg,run_eql_bool (P:=P) c.w t m n ht]
  ·simp only [if_true] at hop ⊢
   subst hop
   simp [execOp,ho,h1,h2,hg,run_neq_bool (P:=P) c.w t m n ht]
 ·exact hs.elim

end ops
end Go.Ab
namespace Go.Ab
open Go Go.MapKept
set_option linter.unusedSectionVars false
variable [Glob]

inductive KD where
 | int (k:IntKind)
 | str
 | bool
 deriving DecidableEq

def KD.desc:KD → TypeDesc
 | .int k=>.int k
 | .str=>.string
 | .bool=>.bool

def QL5 (P:Program) (t:TypeId):Option KD:=
 match P.underlying t with
 | some (.int k)=>some (.int k)
 | some .string=>some .str
 | some .bool=>some .bool
 | _=>none

theorem QFJ {P:Program} {t:TypeId} {d:KD} (h:QL5 P t = some d):P.underlying t = some d.desc:=by
 unfold QL5 at h
 split at h <;> simp at h <;> subst h <;> assumption

def QFK (d:KD):AV → Bool
 | .int k _=>d = .int k
 | .str _=>d = .str
 | .bool _=>d = .bool
 | _=>false

def QHg (d:KD) (k:AV) (kvs:List (AV × AV)):Prop:=QFK d k = true ∧ ∀ p ∈ kvs,(QFK d p.1 || QB7 p.1) = true

def QDe (d:KD) (zero:AV) (ok:Bool) (m k:AV) (H:List AObj) (K:SK):Prop:=
 match m with
 | .map o=>(match H[o]? with
  | some (.map kvs)=>QHg d k kvs ∧ K [(o,.map kvs)] [] (if ok then .tup [(QDT k kvs).getD zero,.bool (QDT k kvs).isSome] else (QDT k kvs).getD zero)
  | _=>False)
 | .nilm=>QFK d k = true ∧ K [] [] (if ok then .tup [zero,.bool false] else zero)
 | _=>False

def QFb (d:KD) (m k x:AV) (H:List AObj) (K:SK):Prop:=
 match m with
 | .map o=>(match H[o]? with
  | some (.map kvs)=>QHg d k kvs ∧ K [(o,.map kvs)] [(o,.map (QCt k x kvs))] .junk
  | _=>False)
 | _=>False

theorem QGf {c:Cx} {d:KD} {k x:AV} {kv xv:Value} (hk:QFK d k = true) (hx:QFK d x = true) (hkv:Val c k kv) (hxv:Val c x xv):
  IsKey d.desc kv ∧ IsKey d.desc xv ∧ (QOD k x = true ↔ kv = xv):=by
 cases k <;> simp only [QFK,Bool.false_eq_true] at hk <;> cases x <;> simp only [QFK,Bool.false_eq_true] at hx <;>
  simp only [decide_eq_true_eq] at hk hx <;> subst hk <;> simp only [Val] at hkv hxv <;> subst hkv <;> subst hxv
 case int.int=>cases hx; simp [KD.desc,IsKey,QOD,QC4]
 case int.bool=>cases hx
 case int.str=>cases hx
 case bool.int=>cases hx
 case bool.bool=>simp [KD.desc,IsKey,QOD,QC4]
 case bool.str=>cases hx
 case str.int=>cases hx
 case str.bool=>cases hx
 case str.str=>
  refine ⟨trivial,trivial,?_⟩
  simp [QOD,QC4]

theorem QSZ {k x:AV} (h:QB7 x = true):QOD k x = false:=by
 cases x <;> simp only [QB7,Bool.false_eq_true] at h
 cases k <;> rfl
def QDx (k:AV):List (AV × AV) → List (AV × AV)
 | []=>[]
 | p :: r=>if QOD k p.1 then (.junk,.junk) :: r else p :: QDx k r
@[simp] theorem QFL (k:AV):∀ l:List (AV × AV),(QDx k l).length = l.length
 | []=>rfl
 | p :: r=>by unfold QDx; split <;> simp [QFL k r]
def QIk:List (AV × AV) → Nat
 | []=>0
 | p :: r=>if QB7 p.1 then QIk r else QIk r + 1
theorem QIl {c:Cx} {d:KD} {k:AV} {kv:Value} (hk:QFK d k = true) (hkv:Val c k kv):∀ (kvs:List (AV × AV)) (n:Nat) (es:List MapEntry) (i:Nat),Kvs c kvs n es → (∀ p ∈ kvs,(QFK d p.1 || QB7 p.1) = true) →
  (Instr.findNow d.desc kv es i = some none ∧ QDT k kvs = none ∧ (∀ x,QCt k x kvs = kvs ++ [(k,x)]) ∧ QDx k kvs = kvs) ∨
  ∃ j e xa,Instr.findNow d.desc kv es i = some (some (i + j,e.val)) ∧ es[j]? = some e ∧ e.key = kv ∧ QDT k kvs = some xa ∧ Val c xa e.val ∧
   (∀ c',QIx c c' → ∀ x xv,Val c' x xv → Kvs c' (QCt k x kvs) n (es.modify j fun e=>{ e with key:=kv,val:=xv })) ∧ (∀ x,(QCt k x kvs).length = kvs.length) ∧
   ∀ c',QIx c c' → Kvs c' (QDx k kvs) n (es.eraseIdx j)
 | [],n,es,i,h,_=>by
  simp only [Kvs] at h
  subst h
  exact .inl ⟨rfl,rfl,fun _=>rfl,rfl⟩
 | p :: r,n,es,i,h,hd=>by
  simp only [Kvs] at h
  by_cases hg:QB7 p.1 = true
  ·rw [if_pos hg] at h
   have hkb:=QSZ (k:=k) hg
   rcases QIl hk hkv r (n + 1) es i h (fun p hp=>hd p (by simp [hp])) with ⟨h4,h5,h6,h7⟩ | ⟨j,e',xa,h4,h5,h6,h7,h8,h9,h10,h11⟩
   ·exact .inl ⟨h4,by simp [QDT,hkb,h5],fun x=>by simp [QCt,hkb,h6],by simp [QDx,hkb,h7]⟩
   ·refine .inr ⟨j,e',xa,h4,h5,h6,by simp [QDT,hkb,h7],h8,fun c' hE x xv hx=>?_,fun x=>by simp [QCt,hkb,h10],fun c' hE=>?_⟩
    ·simp only [QCt,hkb,Bool.false_eq_true,if_false,Kvs,hg,if_true]
     exact h9 c' hE x xv hx
    ·simp only [QDx,hkb,Bool.false_eq_true,if_false,Kvs,hg,if_true]
     exact h11 c' hE
  rw [if_neg hg] at h
  have hg':QB7 p.1 = false:=by simpa using hg
  obtain ⟨e,es',rfl,h1,h2,hbn,h3⟩:=h
  obtain ⟨i1,i2,hiff⟩:=QGf hk (by have:=hd p (by simp); rwa [hg',Bool.or_false] at this) hkv h1
  obtain ⟨q,hq,hqiff⟩:=sameNow_of_keys i1 i2
  cases q with
  | true=>
   have he:kv = e.key:=hqiff.1 rfl
   have hkb:=hiff.2 he
   refine .inr ⟨0,e,p.2,by simp [Instr.findNow,hq],rfl,he.symm,by simp [QDT,hkb],h2,fun c' hE x xv hx=>?_,fun x=>by simp [QCt,hkb],fun c' hE=>?_⟩
   ·simp only [QCt,hkb,if_true,List.modify_zero_cons,Kvs,hg',Bool.false_eq_true,if_false]
    exact ⟨_,_,rfl,by simp only [he]; exact QB1 hE _ _ h1,hx,hbn,QEe hE _ _ _ h3⟩
   ·simp only [QDx,hkb,if_true,List.eraseIdx_cons_zero,Kvs,QB7]
    exact QEe hE _ _ _ h3
  | false=>
   have hne:¬ kv = e.key:=fun q=>by have:=hqiff.2 q; cases this
   have hkb:QOD k p.1 = false:=by cases hb:QOD k p.1; rfl; exact absurd (hiff.1 hb) hne
   rcases QIl hk hkv r (n + 1) es' (i + 1) h3 (fun p hp=>hd p (by simp [hp])) with ⟨h4,h5,h6,h7⟩ | ⟨j,e',xa,h4,h5,h6,h7,h8,h9,h10,h11⟩
   ·exact .inl ⟨by simp [Instr.findNow,hq,h4],by simp [QDT,hkb,h5],fun x=>by simp [QCt,hkb,h6],by simp [QDx,hkb,h7]⟩
   ·refine .inr ⟨j + 1,e',xa,by simp [Instr.findNow,hq,h4]; omega,by simpa using h5,h6,by simp [QDT,hkb,h7],h8,fun c' hE x xv hx=>?_,fun x=>by simp [QCt,hkb,h10],fun c' hE=>?_⟩
    ·simp only [QCt,hkb,Bool.false_eq_true,if_false,List.modify_succ_cons,Kvs,hg']
     exact ⟨_,_,rfl,QB1 hE _ _ h1,QB1 hE _ _ h2,hbn,h9 c' hE x xv hx⟩
    ·simp only [QDx,hkb,Bool.false_eq_true,if_false,List.eraseIdx_cons_succ,Kvs,hg']
     exact ⟨_,_,rfl,QB1 hE _ _ h1,QB1 hE _ _ h2,hbn,h11 c' hE⟩

theorem QI4 {a b:AV} {q:Bool} (h:QC4 a b = some q):(∃ k m n,a = .int k m ∧ b = .int k n ∧ q = (m == n)) ∨ (∃ m n,a = .str m ∧ b = .str n ∧ q = (m == n)) ∨ (∃ m n,a = .bool m ∧ b = .bool n ∧ q = (m == n)):=by
 cases a <;> cases b <;> simp only [QC4] at h <;> try cases h
 ·split at h
  ·rename_i hk; cases h; subst hk; exact .inl ⟨_,_,_,rfl,rfl,rfl⟩
  ·cases h
 ·exact .inr (.inr ⟨_,_,rfl,rfl,rfl⟩)
 ·exact .inr (.inl ⟨_,_,rfl,rfl,rfl⟩)

section ops
variable {P:Program} {o:Oper} {T:List AV} {H:List AObj} {nid:Nat} {al:Bool} {K:SK}

theorem QGg {fields:List Field} {c:Cx} {xs ys:Array Value} (w:World):∀ (fs:List Field) (k:Nat) (as bs:List AV) (r:Bool),fs = fields.drop k → QBp as bs = some r →
  QA3 c as (xs.toList.drop k) → QA3 c bs (ys.toList.drop k) → fs.length = as.length →
  (∀ (j:Nat) (f:Field),fields[j]? = some f → f.offset = j ∧ f.name ≠ "_" ∧ QDo P f.type = some none ∧ (QL5 P f.type).isSome = true) →
  (∀ (j:Nat) (f:Field) (a:AV) (d:KD),fields[k + j]? = some f → as[j]? = some a → QL5 P f.type = some d → QFK d a = true) →
  (Op.eqFields 9999 xs ys fs).run P w = .ok r w
 | [],k,as,bs,r,hfs,h,ha,hb,hl,hf,_=>by
  have:as = []:=List.eq_nil_of_length_eq_zero (by simpa using hl.symm)
  subst this
  cases bs with
  | nil=>simp [QBp] at h; subst h; rfl
  | cons b bs=>simp [QBp] at h
 | f :: fs,k,as,bs,r,hfs,h,ha,hb,hl,hf,hkd=>by
  cases as with
  | nil=>simp at hl
  | cons a as=>
   cases bs with
   | nil=>simp [QBp] at h
   | cons b bs=>
    simp only [QA3] at ha hb
    obtain ⟨u,us,hu,hau,haus⟩:=ha
    obtain ⟨v,vs,hv,hbv,hbvs⟩:=hb
    have hfk:fields[k]? = some f:=by
     have:=congrArg (·[0]?) hfs
     simpa using this.symm
    obtain ⟨hoff,hname,hagg,hkds⟩:=hf k f hfk
    obtain ⟨d,hd⟩:=Option.isSome_iff_exists.1 hkds
    have hxu:xs[k]? = some u:=by
     have:=congrArg (·[0]?) hu
     simpa using this
    have hyv:ys[k]? = some v:=by
     have:=congrArg (·[0]?) hv
     simpa using this
    have hka:QFK d a = true:=hkd 0 f a d (by simpa using hfk) rfl hd
    have hp1:=QIR (P:=P) hagg (w:=w) (cs:=xs) (off:=f.offset) (v:=u) (by rw [hoff]; exact hxu)
    have hp2:=QIR (P:=P) hagg (w:=w) (cs:=ys) (off:=f.offset) (v:=v) (by rw [hoff]; exact hyv)
    simp only [QBp] at h
    cases hs:QC4 a b with
    | none=>simp [hs] at h
    | some q=>
     simp only [hs,Option.bind_some] at h
     cases hs2:QBp as bs with
     | none=>simp [hs2] at h
     | some q2=>
      simp only [hs2,Option.map_some,Option.some.injEq] at h
      have heq:(Op.equalIn 9999 f.type u v).run P w = .ok q w:=by
       have hdt:=QFJ hd
       rcases QI4 hs with ⟨k1,n1,n2,rfl,rfl,rfl⟩ | ⟨n1,n2,rfl,rfl,rfl⟩ | ⟨n1,n2,rfl,rfl,rfl⟩ <;> simp only [QFK,decide_eq_true_eq] at hka <;> subst hka <;> simp only [Val] at hau hbv <;> subst hau <;> subst hbv
       ·exact run_equalIn_int (P:=P) w 9998 f.type _ _ _ _ hdt
       ·rw [run_equalIn_string (P:=P) w 9998 f.type _ _ hdt]; simp
       ·exact run_equalIn_bool' (P:=P) w 9998 f.type _ _ hdt
      have hrec:=QGg (fields:=fields) (c:=c) (xs:=xs) (ys:=ys) w fs (k + 1) as bs q2 (by
        have:=congrArg List.tail hfs
        simpa using this) hs2 (by
        have:=congrArg List.tail hu
        simp at this; rw [this]; exact haus) (by
        have:=congrArg List.tail hv
        simp at this; rw [this]; exact hbvs) (by simpa using hl) hf (fun j f' a' d' h1 h2 h3=>hkd (j + 1) f' a' d' (by rwa [show k + (j + 1) = k + 1 + j from by omega]) (by simpa using h2) h3)
      simp only [Op.eqFields,ne_eq,hname,not_false_eq_true,if_true,Sem.run_bind,hp1,hp2,heq,Result.andThen_ok]
      cases q
      ·simp at h; subst h; simp
      ·simp at h; subst h; simpa using hrec

def QHF (P:Program) (t:TypeId):Bool:=
 match P.underlying t with
 | some (.struct fs)=>(fs.toList.zipIdx.all fun p=>p.1.offset == p.2 && p.1.name != "_" && (QDo P p.1.type == some none) && (QL5 P p.1.type).isSome) && !P.stoodInHeld t && !P.eqGuardType P.depth t
 | _=>false

def QH1 (P:Program) (t:TypeId):List (Option KD):=
 match P.underlying t with
 | some (.struct fs)=>fs.toList.map fun f=>QL5 P f.type
 | _=>[]

def QED:List (Option KD) → List AV → Bool
 | [],[]=>true
 | some d :: ds,a :: as=>QFK d a && QED ds as
 | _,_=>false

theorem QHh:∀ {ds:List (Option KD)} {as:List AV},QED ds as = true → ds.length = as.length ∧ ∀ (j:Nat) (a:AV) (d:KD),ds[j]? = some (some d) → as[j]? = some a → QFK d a = true
 | [],[],_=>by simp
 | [],_ :: _,h=>by simp [QED] at h
 | none :: _,_,h=>by simp [QED] at h
 | some d :: ds,[],h=>by simp [QED] at h
 | some d :: ds,a :: as,h=>by
  simp only [QED,Bool.and_eq_true] at h
  obtain ⟨h1,h2⟩:=QHh h.2
  refine ⟨by simp [h1],fun j a' d' hd ha=>?_⟩
  cases j with
  | zero=>simp at hd ha; subst hd ha; exact h.1
  | succ j=>simp at hd ha; exact h2 j a' d' hd ha

def QOX (neg:Bool) (ds:List (Option KD)) (x y:AV) (K:SK):Prop:=
 match x,y with
 | .agg xs,.agg ys=>QED ds xs = true ∧ (match QBp xs ys with | some b=>K [] [] (.bool (if neg then !b else b)) | none=>False)
 | _,_=>False

theorem QQU {op:BinOp} {t t':TypeId} {x y:Operand} {neg:Bool} (ho:o.op = .binOp op t x y t') (hop:op = if neg then .neq else .eql) (ht:QHF P t = true) (hs:QOX neg (QH1 P t) ((opd x).ev T) ((opd y).ev T) K):Out P o T H nid al K:=by
 unfold QOX at hs
 split at hs
 ·rename_i xs ys hx hy
  obtain ⟨hk,hs⟩:=hs
  split at hs
  ·rename_i b hb
   refine QAX hs fun c a _ hv=>?_
   have h1:=hv x (by simp [ho,Op.operands])
   have h2:=hv y (by simp [ho,Op.operands])
   rw [hx] at h1; rw [hy] at h2; simp only [Val] at h1 h2
   obtain ⟨us,hu,hu1,_⟩:=h1
   obtain ⟨vs,hv',hv1,_⟩:=h2
   unfold QHF at ht
   unfold QH1 at hk
   split at ht
   ·rename_i fs hfs
    rw [hfs] at hk
    simp only [Bool.and_eq_true,Bool.not_eq_true'] at ht
    obtain ⟨⟨hall,hst⟩,hgd⟩:=ht
    have hfo:P.fieldsOf t = fs:=by simp [Program.fieldsOf,hfs]
    obtain ⟨hkl,hks⟩:=QHh hk
    have hfields:∀ (j:Nat) (f:Field),fs.toList[j]? = some f → f.offset = j ∧ f.name ≠ "_" ∧ QDo P f.type = some none ∧ (QL5 P f.type).isSome = true:=by
     intro j f hj
     have:=(List.all_eq_true.1 hall) (f,j) (by rw [List.mem_zipIdx_iff_getElem?]; exact hj)
     simp at this
     exact ⟨this.1.1.1,by simpa using this.1.1.2,by simpa using this.1.2,this.2⟩
    have hrun:=QGg (P:=P) (fields:=fs.toList) (c:=c) (xs:=us) (ys:=vs) c.w fs.toList 0 xs ys b rfl hb (by simpa using hu1) (by simpa using hv1) (by simpa using hkl) hfields
     (fun j f a' d h3 h4 h5=>hks j a' d (by rw [List.getElem?_map,show fs.toList[j]? = some f from by simpa using h3]; simp [h5]) h4)
    have hstr:=run_equalIn_struct (P:=P) c.w 9999 t us vs (by rw [hfo]; exact hfs) hst
    rw [hfo,hrun] at hstr
    have hg:=run_eqGuard_agg (P:=P) c.w op t x y us vs hgd
    refine ⟨.bool (if neg then !b else b),?_,by simp only [Val]⟩
    cases neg
    ·simp only [Bool.false_eq_true,if_false] at hop ⊢
     subst hop
     simp [execOp,ho,hu,hv',hg,run_eql_struct (P:=P) c.w t us vs,hstr]
    ·simp only [if_true] at hop ⊢
     subst hop
     simp [execOp,ho,hu,hv',hg,run_neq_struct (P:=P) c.w t us vs,hstr]
   ·cases ht
  ·exact hs.elim
 ·exact hs.elim

theorem QVQ {t:TypeId} {x y:Operand} (ho:o.op = .index t x y) (ht:P.underlying t = some .string) (hs:QVu ((opd x).ev T) ((opd y).ev T) K):Out P o T H nid al K:=by
 unfold QVu at hs
 split at hs
 ·rename_i s k n hx hy
  obtain ⟨h0,hs⟩:=hs
  split at hs
  ·rename_i b hb
   refine QAX hs fun c a _ hv=>?_
   have h1:=hv x (by simp [ho,Op.operands])
   have h2:=hv y (by simp [ho,Op.operands])
   rw [hx] at h1; rw [hy] at h2; simp only [Val] at h1 h2
   refine ⟨.int .u8 b.toNat,?_,by simp only [Val]⟩
   have:(ByteArray.mk s.toArray)[n.toNat]? = some b:=by
    have hlt:=(List.getElem?_eq_some_iff.1 hb)
    obtain ⟨hlt,he⟩:=hlt
    rw [getElem?_pos _ _ (by simpa [ByteArray.size] using hlt)]
    simp [ByteArray.getElem_eq_getElem_data,he]
   simp [execOp,ho,h1,h2,Instr.index,asIntOf,run_underlying ht,h0,this]
  ·exact hs.elim
 ·exact hs.elim

end ops
end Go.Ab
namespace Go.Ab
open Go Go.MapKept
set_option linter.unusedSectionVars false
variable [Glob]

inductive LK where
 | str | sl | mp
 deriving DecidableEq

def QHr (lk:LK) (x:AV) (H:List AObj) (K:SK):Prop:=
 match lk with
 | .str=>(match x with | .str s=>K [] [] (.int .i64 s.length) | _=>False)
 | .sl=>(match x with
  | .nils=>K [] [] (.int .i64 0)
  | .imm l=>K [] [] (.int .i64 l.length)
  | .own o n=>(match H[o]? with | some (.reg e sz l)=>n = l.length ∧ K [(o,.reg e sz l)] [] (.int .i64 n) | _=>False)
  | .pre o _ n m=>(match H[o]? with | some (.reg e sz l)=>m = l.length ∧ K [(o,.reg e sz l)] [] (.int .i64 n) | _=>False)
  | _=>False)
 | .mp=>(match x with
  | .nilm=>K [] [] (.int .i64 0)
  | .map o=>(match H[o]? with | some (.map kvs)=>K [(o,.map kvs)] [] (.int .i64 (QIk kvs)) | _=>False)
  | _=>False)

theorem QHG {c:Cx}:∀ {l:List (AV × AV)} {n:Nat} {es:List MapEntry},Kvs c l n es → es.length = QIk l
 | [],_,es,h=>by simp only [Kvs] at h; subst h; rfl
 | p :: r,n,es,h=>by
  simp only [Kvs] at h
  unfold QIk
  split at h
  ·rename_i hg; rw [if_pos hg]; exact QHG h
  ·rename_i hg; rw [if_neg hg]; obtain ⟨e,es',rfl,_,_,_,h⟩:=h; simp [QHG h]

theorem QHH {c:Cx}:∀ {l:List (AV × AV)} {n:Nat} {es:List MapEntry} {k x:AV} {e:MapEntry},Kvs c l n es → QB7 k = false → Val c k e.key → Val c x e.val → e.born = n + l.length → Kvs c (l ++ [(k,x)]) n (es ++ [e])
 | [],n,es,k,x,e,h,hg,h1,h2,hb=>by simp only [Kvs] at h; subst h; simp only [List.nil_append,Kvs,hg,Bool.false_eq_true,if_false]; exact ⟨e,[],rfl,h1,h2,by simpa using hb,rfl⟩
 | p :: r,n,es,k,x,e,h,hg,h1,h2,hb=>by
  simp only [Kvs] at h
  simp only [List.cons_append,Kvs]
  have hb':e.born = n + 1 + r.length:=by rw [hb,List.length_cons]; omega
  split at h
  ·rename_i hp; rw [if_pos hp]; exact QHH h hg h1 h2 hb'
  ·rename_i hp; rw [if_neg hp]
   obtain ⟨e',es',rfl,h3,h4,h5,h6⟩:=h
   exact ⟨e',es' ++ [e],rfl,h3,h4,h5,QHH h6 hg h1 h2 hb'⟩

theorem QSa (s:List UInt8):(ByteArray.mk s.toArray).size = s.length:=rfl

section ops
variable {P:Program} {o:Oper} {T:List AV} {H:List AObj} {nid:Nat} {al:Bool} {K:SK}

theorem QQV {c:Cx} (hr:Rel c) {ob m e sz:Nat} {l:List (List AV)} {v:Value} (hv:Val c (.own ob m) v) (hc:c.H[ob]? = some (.reg e sz l)) (hm:m = l.length):∃ a cap,v = .slice a m cap:=by
 obtain ⟨_,h⟩:=QFm hr hv hc hm
 rcases h with ⟨rfl,rfl⟩ | ⟨g,o0,cap,cur,rfl,_⟩
 ·exact ⟨none,0,by rw [hm]; rfl⟩
 ·exact ⟨_,cap,by rw [hm]⟩

def QZj (P:Program) (t:TypeId):Option LK:=
 match P.underlying t with
 | some .string=>some .str
 | some (.slice _)=>some .sl
 | some (.map _ _)=>some .mp
 | _=>none

theorem QLk {op:BinOp} {t e t':TypeId} {x:Operand} {neg:Bool} (ho:o.op = .binOp op t x (.const (.slice none 0 0)) t') (hop:op = if neg then .neq else .eql) (ht:P.underlying t = some (.slice e)) (hs:QFl neg ((opd x).ev T) H K):Out P o T H nid al K:=by
 have hx:∀ (c:Cx) (a:Act),(∀ x ∈ o.op.operands.toList,Val c ((opd x).ev T) (a.eval x)) → Val c ((opd x).ev T) (a.eval x):=fun c a hv=>hv x (by simp [ho,Op.operands])
 have hrun:∀ (a:Act) (w:World) (p:Option Addr) (n cp:Nat),a.eval x = .slice p n cp → (execOp a.eval o).run P w = .ok (.value (.bool (if neg then !p.isNone else p.isNone))) w:=fun a w p n cp h1=>by
  have hg:=QB9 (P:=P) (op:=op) (t:=t) (x:=x) (y:=.const (.slice none 0 0)) (u:=.slice p n cp) (v:=.slice none 0 0) ⟨fun _=>by simp,by simp⟩
  have e2:a.eval (.const (.slice none 0 0)) = .slice none 0 0:=rfl
  cases neg
  ·simp only [Bool.false_eq_true,if_false] at hop ⊢
   subst hop
   simp [execOp,ho,h1,e2,hg,Lib.run_eql_slice_nil w t e p n cp 0 0 ht]
  ·simp only [if_true] at hop ⊢
   subst hop
   simp [execOp,ho,h1,e2,hg,run_neq_slice_nil_any w t e p n cp 0 0 ht]
 unfold QFl at hs
 split at hs
 ·rename_i hb
  refine QAX hs fun c a _ hv=>?_
  have h1:=hx c a hv
  rw [hb] at h1; simp only [Val] at h1
  exact ⟨_,hrun a c.w _ _ _ h1,by cases neg <;> simp [Val]⟩
 ·rename_i l hb
  obtain ⟨hl,hs⟩:=hs
  refine QAX hs fun c a _ hv=>?_
  have h1:=hx c a hv
  rw [hb] at h1; simp only [Val] at h1
  rcases h1 with ⟨b,off,cap,sz,h1,_⟩ | ⟨rfl,_⟩
  ·exact ⟨_,hrun a c.w _ _ _ h1,by cases neg <;> simp [Val]⟩
  ·exact (hl rfl).elim
 ·rename_i ob n hb
  split at hs
  ·rename_i e sz l hH
   obtain ⟨hn,hl,hs⟩:=hs
   refine QBs hH hs fun c a hr hv hc=>?_
   have h1:=hx c a hv
   rw [hb] at h1
   obtain ⟨_,h⟩:=QFm hr h1 hc hn
   rcases h with ⟨_,rfl⟩ | ⟨g,o0,cap,cur,h2,_⟩
   ·exact (hl rfl).elim
   ·exact ⟨_,hrun a c.w _ _ _ h2,by cases neg <;> simp [Val]⟩
  ·exact hs.elim
 ·rename_i ob lo n m hb
  split at hs
  ·rename_i e sz l hH
   obtain ⟨hn,hl,hs⟩:=hs
   refine QBs hH hs fun c a hr hv hc=>?_
   have h1:=hx c a hv
   rw [hb] at h1
   obtain ⟨_,h⟩:=QSx hr h1 hc hn
   rcases h with ⟨g,o0,cp,h2,_⟩ | ⟨h2,_⟩
   ·exact ⟨_,hrun a c.w _ _ _ h2,by cases neg <;> simp [Val]⟩
   ·exact (hl h2).elim
  ·exact hs.elim
 ·rename_i p n cp hb
  refine QAX hs fun c a _ hv=>?_
  have h1:=hx c a hv
  rw [hb] at h1; simp only [Val] at h1
  exact ⟨_,hrun a c.w _ _ _ h1,by cases neg <;> simp [Val]⟩
 ·exact hs.elim

theorem QVR {t:TypeId} {x:Operand} {lk:LK} (ho:o.op = .call { callee:=.builtin .len,args:=#[x],argTypes:=#[t] }) (ht:QZj P t = some lk) (hs:QHr lk ((opd x).ev T) H K):Out P o T H nid al K:=by
 have hx:∀ (c:Cx) (a:Act),(∀ x ∈ o.op.operands.toList,Val c ((opd x).ev T) (a.eval x)) → Val c ((opd x).ev T) (a.eval x):=fun c a hv=>hv x (by simp [ho,Op.operands,Call.operands])
 have hrun:∀ (a:Act) (w:World) (v r:Value),a.eval x = v → (Builtin.len_ #[t] o.type #[v]).run P w = .ok r w → (execOp a.eval o).run P w = .ok (.value r) w:=fun a w v r h1 h=>by
  subst h1
  simp [execOp,ho,resolve,invoke,builtin,h]
 unfold QZj at ht
 split at ht <;> simp at ht <;> subst ht <;> rename_i htu <;> unfold QHr at hs <;> simp only at hs
 ·split at hs
  ·rename_i s hb
   refine QAX hs fun c a _ hv=>?_
   have h1:=hx c a hv
   rw [hb] at h1; simp only [Val] at h1
   exact ⟨.int .i64 s.length,hrun a c.w _ _ h1 (by simp [Builtin.len_,run_underlying htu,goInt,QSa]),by simp only [Val]⟩
  ·exact hs.elim
 ·split at hs
  ·rename_i hb
   refine QAX hs fun c a _ hv=>?_
   have h1:=hx c a hv
   rw [hb] at h1; simp only [Val] at h1
   exact ⟨.int .i64 0,hrun a c.w _ _ h1 (by simp [Builtin.len_,run_underlying htu,goInt]),by simp only [Val]⟩
  ·rename_i l hb
   refine QAX hs fun c a _ hv=>?_
   have h1:=hx c a hv
   rw [hb] at h1; simp only [Val] at h1
   have:∃ b cap,a.eval x = .slice b l.length cap:=by
    rcases h1 with ⟨b,off,cap,sz,h1,_⟩ | ⟨rfl,b,cp,h1⟩
    ·exact ⟨_,cap,h1⟩
    ·exact ⟨b,cp,h1⟩
   obtain ⟨b,cap,h1⟩:=this
   exact ⟨.int .i64 l.length,hrun a c.w _ _ h1 (by simp [Builtin.len_,run_underlying htu,goInt]),by simp only [Val]⟩
  ·rename_i ob n hb
   split at hs
   ·rename_i e sz l hH
    obtain ⟨hn,hs⟩:=hs
    refine QBs hH hs fun c a hr hv hc=>?_
    have h1:=hx c a hv
    rw [hb] at h1
    obtain ⟨b,cap,h2⟩:=QQV hr h1 hc hn
    exact ⟨.int .i64 n,hrun a c.w _ _ h2 (by simp [Builtin.len_,run_underlying htu,goInt]),by simp only [Val]⟩
   ·exact hs.elim
  ·rename_i ob lo n m hb
   split at hs
   ·rename_i e sz l hH
    obtain ⟨hm,hs⟩:=hs
    refine QBs hH hs fun c a hr hv hc=>?_
    have h1:=hx c a hv
    rw [hb] at h1; simp only [Val] at h1
    have:∃ b cap,a.eval x = .slice b n cap:=by
     rcases h1.2 with ⟨e2,sz2,l2,g1,_,g3⟩ | g1
     ·rw [hc] at g1; simp at g1; obtain ⟨rfl,rfl,rfl⟩:=g1
      rcases (g3 hm).2 with ⟨g,len,cap,o0,cp,_,k4⟩ | ⟨rfl,k4 | ⟨g,len,cap,o0,d,_,k4,_⟩⟩
      ·exact ⟨_,_,k4.1⟩
      ·exact ⟨_,_,k4⟩
      ·exact ⟨_,_,k4⟩
     ·rw [hc] at g1; cases g1
    obtain ⟨b,cap,h2⟩:=this
    exact ⟨.int .i64 n,hrun a c.w _ _ h2 (by simp [Builtin.len_,run_underlying htu,goInt]),by simp only [Val]⟩
   ·exact hs.elim
  ·exact hs.elim
 ·split at hs
  ·rename_i hb
   refine QAX hs fun c a _ hv=>?_
   have h1:=hx c a hv
   rw [hb] at h1; simp only [Val] at h1
   exact ⟨.int .i64 0,hrun a c.w _ _ h1 (by simp [Builtin.len_,run_underlying htu,goInt]),by simp only [Val]⟩
  ·rename_i ob hb
   split at hs
   ·rename_i kvs hH
    refine QBs hH hs fun c a hr hv hc=>?_
    have h1:=hx c a hv
    rw [hb] at h1; simp only [Val] at h1
    obtain ⟨kvs',r,h2,h3,h4⟩:=h1
    obtain ⟨r',es,h5,h6,h7⟩:=hr.obj _ _ hc
    rw [h3] at h5; simp at h5; subst h5
    have hl:=QHG h7
    exact ⟨.int .i64 (QIk kvs),hrun a c.w _ _ h4 (by simp [Builtin.len_,run_underlying htu,goInt,MapKept.run_getObj_map h6,← hl]),by simp only [Val]⟩
   ·exact hs.elim
  ·exact hs.elim

theorem QQW {t:TypeId} (hal:al = true) (ho:o.op = .makeMap t none) (hK:K [(nid,.unborn)] [(nid,.map [])] (.map nid)):Out P o T H nid al K:=
 ⟨_,_,_,hK,by simp,by simp,.inr ⟨hal,[],_,rfl,by simp⟩,fun c a hr hv hp=>by
  have hu:c.H[nid]? = some .unborn:=hp (nid,.unborn) (by simp)
  have hlt:nid < c.H.length:=(List.getElem?_eq_some_iff.1 hu).1
  have hN:=QFx (c:=c) hr (nid:=nid) (x':=.map []) (v':=.map (some c.w.heap.size)) (.map #[] 0) hu (fun b hb=>by simpa [blk] using hb.symm) (fun F hE hm=>
   ⟨c.w.heap.size,#[],hm,QCT c.w _,by simp [Kvs]⟩)
  refine ⟨_,_,hN.1,hN.2,rfl,?_,.value (v:=.map (some c.w.heap.size)) (by simp [execOp,ho,Instr.makeMap])⟩
  simp only [Val]
  exact ⟨_,c.w.heap.size,set_getElem?_self hu,by simp [hr.len,hlt],rfl⟩⟩

theorem QOY {t kt et:TypeId} {m k:Operand} {ok:Bool} {d:KD} {i:TypeInfo} {z:Value} (ho:o.op = .lookup t m k ok) (ht:P.underlying t = some (.map kt et)) (hd:QL5 P kt = some d) (hi:P.info? et = some i) (hz:i.zero = some z)
  (hs:QDe d (ofValue z) ok ((opd m).ev T) ((opd k).ev T) H K):Out P o T H nid al K:=by
 unfold QDe at hs
 split at hs
 ·rename_i ob hb
  split at hs
  ·rename_i kvs hH
   obtain ⟨⟨hk,hks⟩,hs⟩:=hs
   refine QBs hH hs fun c a hr hv hc=>?_
   have h1:=hv m (by simp [ho,Op.operands])
   have h2:=hv k (by simp [ho,Op.operands])
   rw [hb] at h1; simp only [Val] at h1
   obtain ⟨kvs',r,_,h3,h4⟩:=h1
   obtain ⟨r',es,h5,h6,h7⟩:=hr.obj _ _ hc
   rw [h3] at h5; simp at h5; subst h5
   have hdd:=QFJ hd
   have hkey:=(QGf hk hk h2 h2).1
   have hck:=run_checkKey (P:=P) (w:=c.w) hdd hkey es.isEmpty 9999
   have hzero:∀ w,(zeroValue et).run P w = .ok z w:=fun w=>by simp [zeroValue,typeInfo,hi,hz]
   rcases QIl hk h2 kvs 0 es.toList 0 h7 hks with ⟨h8,h9,_⟩ | ⟨j,e,xa,h8,h9,h10,h11,h12,_⟩
   ·have hf:=run_findKey (P:=P) (w:=c.w) hdd h8
    rw [h9]
    refine ⟨if ok then .tuple #[z,.bool false] else z,?_,?_⟩
    ·simp only [execOp,ho,h4,Instr.lookup,Sem.run_bind,run_underlying ht,Result.andThen_ok,MapKept.run_getObj_map h6,Sem.run_pure,hck,hf,hzero]
    ·cases ok
     ·simpa using QDE c z
     ·simp only [if_true,Option.getD_none,Option.isSome_none,Val]
      exact ⟨_,rfl,by simp only [QA3]; exact ⟨_,_,rfl,QDE c z,_,_,rfl,by simp only [Val],rfl⟩⟩
   ·have hf:=run_findKey (P:=P) (w:=c.w) hdd h8
    rw [h11]
    refine ⟨if ok then .tuple #[e.val,.bool true] else e.val,?_,?_⟩
    ·simp only [execOp,ho,h4,Instr.lookup,Sem.run_bind,run_underlying ht,Result.andThen_ok,MapKept.run_getObj_map h6,Sem.run_pure,hck,hf]
    ·cases ok
     ·simpa using h12
     ·simp only [if_true,Option.getD_some,Option.isSome_some,Val]
      exact ⟨_,rfl,by simp only [QA3]; exact ⟨_,_,rfl,h12,_,_,rfl,by simp only [Val],rfl⟩⟩
  ·exact hs.elim
 ·rename_i hb
  obtain ⟨hk,hs⟩:=hs
  refine QAX hs fun c a hr hv=>?_
  have h1:=hv m (by simp [ho,Op.operands])
  have h2:=hv k (by simp [ho,Op.operands])
  rw [hb] at h1; simp only [Val] at h1
  have hdd:=QFJ hd
  have hkey:=(QGf hk hk h2 h2).1
  have hck:=run_checkKey (P:=P) (w:=c.w) hdd hkey (#[]:Array MapEntry).isEmpty 9999
  have hzero:∀ w,(zeroValue et).run P w = .ok z w:=fun w=>by simp [zeroValue,typeInfo,hi,hz]
  have hf:=run_findKey (P:=P) (w:=c.w) (l:=[]) (a:=none) (k:=a.eval k) hdd rfl
  have hf:(Instr.findKey kt (a.eval k) (#[]:Array MapEntry).toList).run P c.w = .ok none c.w:=hf
  refine ⟨if ok then .tuple #[z,.bool false] else z,?_,?_⟩
  ·simp only [execOp,ho,h1,Instr.lookup,Sem.run_bind,run_underlying ht,Result.andThen_ok,Sem.run_pure,hck,hf,hzero]
  ·cases ok
   ·simpa using QDE c z
   ·simp only [if_true,Val]
    exact ⟨_,rfl,by simp only [QA3]; exact ⟨_,_,rfl,QDE c z,_,_,rfl,by simp only [Val],rfl⟩⟩
 ·exact hs.elim

theorem QLl {d:KD} {v:Value} (h:IsKey d.desc v):Instr.sameBits 10000 v v = true:=by
 cases d <;> cases v <;> simp [KD.desc,IsKey] at h <;> simp [Instr.sameBits]
 exact (bytes_beq _ _).2 rfl

theorem QJe {t kt et:TypeId} {m k x:Operand} {d:KD} (ho:o.op = .mapUpdate t m k x ∨ o.op = .insert t m k x) (ht:P.underlying t = some (.map kt et)) (hd:QL5 P kt = some d)
  (hs:QFb d ((opd m).ev T) ((opd k).ev T) ((opd x).ev T) H K):Out P o T H nid al K:=by
 have hmem:m ∈ o.op.operands.toList ∧ k ∈ o.op.operands.toList ∧ x ∈ o.op.operands.toList:=by rcases ho with h | h <;> simp [h,Op.operands]
 unfold QFb at hs
 split at hs
 ·rename_i ob hb
  split at hs
  ·rename_i kvs hH
   obtain ⟨⟨hk,hks⟩,hs⟩:=hs
   refine ⟨[(ob,.map kvs)],_,_,hs,fun p hp=>.inl (by simp at hp; subst hp; exact hH),by simp,.inl (fun p hp=>by simp at hp; subst hp; exact hH),fun c a hr hv hp=>?_⟩
   have hc:c.H[ob]? = some (.map kvs):=hp (ob,.map kvs) (by simp)
   have hlt:ob < c.H.length:=(List.getElem?_eq_some_iff.1 hc).1
   have h1:=hv m hmem.1
   have h2:=hv k hmem.2.1
   have hx:=hv x hmem.2.2
   rw [hb] at h1; simp only [Val] at h1
   obtain ⟨kvs',r,_,h3,h4⟩:=h1
   obtain ⟨r',es,h5,h6,h7⟩:=hr.obj _ _ hc
   rw [h3] at h5; simp at h5; subst h5
   have hdd:=QFJ hd
   have hkey:=(QGf hk hk h2 h2).1
   have hck:=run_checkKey (P:=P) (w:=c.w) hdd hkey false 9999
   have hexec:∀ w',(Instr.mapUpdate t (.map (some r)) (a.eval k) (a.eval x)).run P c.w = .ok () w' → (execOp a.eval o).run P c.w = .ok .skip w':=fun w' h=>by
    rcases ho with ho | ho <;> simp [execOp,ho,h4,h]
   have main:∀ (es':Array MapEntry) (clk':Nat),clk' = (QCt ((opd k).ev T) ((opd x).ev T) kvs).length → (execOp a.eval o).run P c.w = .ok .skip { c.w with heap:=c.w.heap.setIfInBounds r (.map es' clk') } → (∀ c',QIx c c' → Kvs c' (QCt ((opd k).ev T) ((opd x).ev T) kvs) 0 es'.toList) →
     ∃ v c',Rel c' ∧ Ext c c' ∧ c'.H = QGC c.H [(ob,.map (QCt ((opd k).ev T) ((opd x).ev T) kvs))] ∧ Val c' .junk v ∧ StepTo P o a c.w v c'.w:=fun es' clk' hlen he hkv=>by
    subst hlen
    obtain ⟨hs1,hs2⟩:=heap_set (o':=.map es' (QCt ((opd k).ev T) ((opd x).ev T) kvs).length) h6
    have hN:=QC3 hr (o:=ob) (x':=.map (QCt ((opd k).ev T) ((opd x).ev T) kvs)) (v':=.map (some r)) (F':=c.F) (w':={ c.w with heap:=c.w.heap.setIfInBounds r (.map es' (QCt ((opd k).ev T) ((opd x).ev T) kvs).length) }) hc (by simp [OStep,h3]) (fun _ h=>h) (fun _ h=>.inl h)
     (fun b hb' hnb=>hs2 b (fun e=>hnb ⟨_,_,hc,rfl,h3,by simp [blk,e]⟩)) (by simp) rfl rfl rfl (fun b _ hb'=>.inr ⟨_,_,hc,rfl,h3,hb'⟩)
     (fun hE=>⟨r,es',by simp [hr.len,hlt],hs1,hkv _ (hE.vext hr)⟩)
    exact ⟨undef,_,hN.1,hN.2,rfl,QDN _ _,.skip he⟩
   have hgk:QB7 ((opd k).ev T) = false:=by
    cases hx:(opd k).ev T <;> first | rfl | (rw [hx] at hk; cases hk)
   rcases QIl hk h2 kvs 0 es.toList 0 h7 hks with ⟨h8,h9,h10,_⟩ | ⟨j,e,xa,h8,h9,h10,h11,h12,h13,h14,_⟩
   ·have hf:=run_findKey (P:=P) (w:=c.w) hdd h8
    refine main (es.push { key:=a.eval k,val:=a.eval x,born:=kvs.length }) (kvs.length + 1) (by rw [h10]; simp) (hexec _ ?_) fun c' hE=>?_
    ·simp only [Instr.mapUpdate,Sem.run_bind,run_underlying ht,Result.andThen_ok,MapKept.run_getObj_map h6,hck,hf,MapKept.run_setObj_map _ h6]
    ·rw [h10,Array.toList_push]
     exact QHH (QEe hE _ _ _ h7) hgk (QB1 hE _ _ h2) (QB1 hE _ _ hx) (by simp)
   ·rw [Nat.zero_add] at h8
    have hf:=run_findKey (P:=P) (w:=c.w) hdd h8
    refine main (es.modify j fun e=>{ e with key:=a.eval k,val:=a.eval x }) kvs.length (h14 _).symm (hexec _ ?_) fun c' hE=>?_
    ·have hej:es[j]? = some e:=by rw [← Array.getElem?_toList]; exact h9
     have hkt:(Instr.keyThatStays (((es[j]?).map (·.key)).getD (a.eval k)) (a.eval k)).run P c.w = .ok (a.eval k) c.w:=by
      simp only [hej,Option.map_some,Option.getD_some,h10,Instr.keyThatStays,QLl hkey,if_true,Sem.run_pure]
     simp only [Instr.mapUpdate,Sem.run_bind,run_underlying ht,Result.andThen_ok,MapKept.run_getObj_map h6,hck,hf,hkt,MapKept.run_setObj_map _ h6]
    ·have:=h13 c' hE _ _ (QB1 hE _ _ hx)
     simpa using this
  ·exact hs.elim
 ·exact hs.elim

end ops
end Go.Ab
namespace Go.Ab
open Go
set_option linter.unusedSectionVars false
variable [Glob]

def bdK (o:Option AV) (d:Nat) (K:Nat → Prop):Prop:=match o with
 | none=>K d
 | some (.int _ n)=>0 ≤ n ∧ K n.toNat
 | _=>False
def QFp (lk:LK) (sz:Nat) (x:AV) (lo hi:Option AV) (H:List AObj) (K:SK):Prop:=match lk,x with
 | .sl,.imm l=>bdK lo 0 fun a=>bdK hi l.length fun b=>a ≤ b ∧ b ≤ l.length ∧ (∀ r ∈ l,r.length = sz) ∧ K [] [] (.imm ((l.take b).drop a))
 | .str,.str s=>bdK lo 0 fun a=>bdK hi s.length fun b=>a ≤ b ∧ b ≤ s.length ∧ K [] [] (.str ((s.take b).drop a))
 | .sl,.nils=>bdK lo 0 fun a=>bdK hi 0 fun b=>a ≤ b ∧ b ≤ 0 ∧ K [] [] .nils
 | .sl,.own o n=>(match H[o]? with
  | some (.reg e sz' l)=>n = l.length ∧ sz' = sz ∧ bdK lo 0 fun a=>bdK hi n fun b=>a ≤ b ∧ b ≤ n ∧ K [(o,.reg e sz' l)] [] (.pre o a (b - a) n)
  | _=>False)
 | .sl,.pre o p q m=>(match H[o]? with
  | some (.reg e sz' l)=>m = l.length ∧ sz' = sz ∧ bdK lo 0 fun a=>bdK hi q fun b=>a ≤ b ∧ b ≤ q ∧ K [(o,.reg e sz' l)] [] (.pre o (p + a) (b - a) m)
  | _=>False)
 | _,_=>False

theorem QFq {o:Option AV} {d:Nat} {K:Nat → Prop} (h:bdK o d K):∃ n,K n ∧ ((o = none ∧ n = d) ∨ ∃ k,o = some (.int k n)):=by
 unfold bdK at h
 split at h
 ·exact ⟨d,h,.inl ⟨rfl,rfl⟩⟩
 ·rename_i k n
  refine ⟨n.toNat,h.2,.inr ⟨k,?_⟩⟩
  rw [Int.toNat_of_nonneg h.1]
 ·exact h.elim

def bdV (v:Option Value) (d n:Nat):Prop:=(v = none ∧ n = d) ∨ ∃ k,v = some (.int k n)
theorem QDi {P:Program} {w:World} {sl:Bool} {len cap:Nat} {lo hi:Option Value} {a b:Nat} (h1:bdV lo 0 a) (h2:bdV hi len b) (hab:a ≤ b) (hb:b ≤ cap):
  (Instr.sliceBounds sl len cap lo hi none).run P w = .ok (a,b,cap) w:=by
 have bd:∀ (k:IntKind) (i y:Nat) (code:BoundsCode),i ≤ y → (Instr.sliceBound (.int k i) y code).run P w = .ok i w:=fun k i y code h=>by
  have h':0 ≤ (i:Int) ∧ (i:Int) ≤ y:=⟨by omega,by omega⟩
  simp [Instr.sliceBound,asIntOf,h]
 unfold Instr.sliceBounds
 rcases h2 with ⟨rfl,rfl⟩ | ⟨k2,rfl⟩ <;> rcases h1 with ⟨rfl,rfl⟩ | ⟨k1,rfl⟩
 ·simp
 ·simp [bd _ _ _ _ hab]
 ·simp [bd _ _ _ _ hb]
 ·simp [bd _ _ _ _ hab,bd _ _ _ _ hb]

theorem QOZ {c:Cx} {l:List (List AV)} {b off sz:Nat} (i j:Nat) (h:QAh c l b off sz):QAh c ((l.take j).drop i) b (off + i * sz) sz:=by
 rw [QA9] at h ⊢
 intro k r hr
 rw [List.getElem?_drop,List.getElem?_take] at hr
 split at hr
 ·have:=h (i + k) r hr
  refine ⟨this.1,?_⟩
  rw [show off + i * sz + k * sz = off + (i + k) * sz by rw [Nat.add_mul]; omega]
  exact this.2
 ·cases hr

section ops
variable {P:Program} {o:Oper} {T:List AV} {H:List AObj} {nid:Nat} {al:Bool} {K:SK}
theorem QLm {t:TypeId} {x:Operand} {lo hi:Option Operand} {lk:LK} {sz:Nat} (ho:o.op = .slice t x lo hi none) (hts:lk = .str → P.underlying t = some .string) (ht:lk = .sl → ∃ e i,P.underlying t = some (.slice e) ∧ P.info? e = some i ∧ i.size = sz)
  (hs:QFp lk sz ((opd x).ev T) (lo.map fun y=>(opd y).ev T) (hi.map fun y=>(opd y).ev T) H K):Out P o T H nid al K:=by
 have hx:∀ (c:Cx) (a:Act),(∀ x ∈ o.op.operands.toList,Val c ((opd x).ev T) (a.eval x)) → Val c ((opd x).ev T) (a.eval x):=fun c a hv=>hv x (by simp [ho,Op.operands])
 have hlo:∀ (c:Cx) (a:Act),(∀ x ∈ o.op.operands.toList,Val c ((opd x).ev T) (a.eval x)) → ∀ y,lo = some y → Val c ((opd y).ev T) (a.eval y):=fun c a hv y hy=>hv y (by subst hy; simp [ho,Op.operands])
 have hhi:∀ (c:Cx) (a:Act),(∀ x ∈ o.op.operands.toList,Val c ((opd x).ev T) (a.eval x)) → ∀ y,hi = some y → Val c ((opd y).ev T) (a.eval y):=fun c a hv y hy=>hv y (by subst hy; simp [ho,Op.operands])
 have bd:∀ (c:Cx) (a:Act) (z:Option Operand),(∀ y,z = some y → Val c ((opd y).ev T) (a.eval y)) → ∀ d n:Nat,((z.map fun y=>(opd y).ev T) = none ∧ n = d ∨ ∃ k,(z.map fun y=>(opd y).ev T) = some (.int k n)) → bdV (z.map a.eval) d n:=fun c a z hz d n h=>by
  rcases h with ⟨h1,h2⟩ | ⟨k,h1⟩
  ·cases z with
   | none=>exact .inl ⟨rfl,h2⟩
   | some y=>simp at h1
  ·cases z with
   | none=>simp at h1
   | some y=>
    simp only [Option.map_some,Option.some.injEq] at h1
    have:=hz y rfl
    rw [h1] at this; simp only [Val] at this
    exact .inr ⟨k,by simp [this]⟩
 have hrun:∀ (a:Act) (w:World) (r:Value),(Instr.sliceAt t (a.eval x) (lo.map a.eval) (hi.map a.eval) none).run P w = .ok r w → (execOp a.eval o).run P w = .ok (.value r) w:=fun a w r h=>by
  simp [execOp,ho,h]
 unfold QFp at hs
 split at hs
 ·rename_i l hb
  obtain ⟨i,hs,hi1⟩:=QFq hs
  obtain ⟨j,⟨h1,h2,h3,hs⟩,hj1⟩:=QFq hs
  refine QAX hs fun c a hr hv=>?_
  have h4:=hx c a hv
  rw [hb] at h4
  have b1:=bd c a lo (hlo c a hv) 0 i hi1
  have b2:=bd c a hi (hhi c a hv) l.length j hj1
  -- the type is a slice's
  have key:∀ (ad:Option Addr) (cap:Nat),a.eval x = .slice ad l.length cap → l.length ≤ cap → (∃ e i,P.underlying t = some (.slice e) ∧ P.info? e = some i ∧ i.size = sz) →
    (Instr.sliceAt t (a.eval x) (lo.map a.eval) (hi.map a.eval) none).run P c.w = .ok (.slice (if cap = i then ad else ad.map (·.add (i * sz))) (j - i) (cap - i)) c.w:=fun ad cap he hcap ⟨e,inf,g1,g2,g3⟩=>by
   rw [he]
   simp only [Instr.sliceAt,Instr.slice,Sem.run_bind,run_underlying g1,Result.andThen_ok,QDi b1 b2 h1 (Nat.le_trans h2 hcap),QBo g2,g3,Sem.run_pure]
  have ht':=ht rfl
  simp only [Val] at h4
  have hlen:((l.take j).drop i).length = j - i:=by simp; omega
  rcases h4 with ⟨b,off,cap,sz',g1,g2,g3,g4⟩ | ⟨g1,ad,cap,g2⟩
  ·refine ⟨_,hrun a c.w _ (key _ _ g1 g3 ht'),?_⟩
   simp only [Val]
   by_cases h0:j - i = 0
   ·right
    refine ⟨List.eq_nil_of_length_eq_zero (by omega),_,_,by rw [h0]⟩
   ·left
    have hsz:sz' = sz:=by
     have hl:0 < l.length:=by omega
     have:=(QA9.1 g4 0 l[0] (List.getElem?_eq_getElem hl)).1
     rw [← this]; exact h3 _ (List.getElem_mem hl)
    subst hsz
    refine ⟨b,off + i * sz',cap - i,sz',?_,g2,by rw [hlen]; omega,QOZ i j g4⟩
    rw [hlen,if_neg (by omega)]
    simp only [Option.map_some]
    congr 2
    unfold Addr.add
    by_cases h5:i * sz' = 0
    ·simp [h5]
    ·simp [h5]
  ·subst g1
   simp only [List.length_nil,Nat.le_zero_eq] at h2
   subst h2
   have hi0:i = 0:=by omega
   subst hi0
   refine ⟨_,hrun a c.w _ (key ad cap g2 (Nat.zero_le _) ht'),?_⟩
   simp only [Val]
   exact .inr ⟨by simp,_,_,rfl⟩
 ·rename_i s hb
  obtain ⟨i,hs,hi1⟩:=QFq hs
  obtain ⟨j,⟨h1,h2,hs⟩,hj1⟩:=QFq hs
  refine QAX hs fun c a hr hv=>?_
  have h4:=hx c a hv
  rw [hb] at h4
  simp only [Val] at h4
  have b1:=bd c a lo (hlo c a hv) 0 i hi1
  have b2:=bd c a hi (hhi c a hv) s.length j hj1
  refine ⟨.string ((ByteArray.mk s.toArray).extract i j),hrun a c.w _ ?_,?_⟩
  ·rw [h4]
   simp only [Instr.sliceAt,Instr.slice,Sem.run_bind,run_underlying (hts rfl),Result.andThen_ok,QSa,QDi b1 b2 h1 h2,Sem.run_pure,Option.isSome_none,Bool.false_eq_true,if_false]
  ·simp only [Val]
   congr 1
   apply ByteArray.ext
   rw [ByteArray.data_extract]
   apply Array.toList_inj.1
   simp [List.extract_eq_take_drop,List.drop_take]
 ·rename_i hb
  obtain ⟨i,hs,hi1⟩:=QFq hs
  obtain ⟨j,⟨h1,h2,hs⟩,hj1⟩:=QFq hs
  refine QAX hs fun c a hr hv=>?_
  have h4:=hx c a hv
  rw [hb] at h4
  simp only [Val] at h4
  have b1:=bd c a lo (hlo c a hv) 0 i hi1
  have b2:=bd c a hi (hhi c a hv) 0 j hj1
  have hj:j = 0:=by omega
  have hi0:i = 0:=by omega
  subst hj hi0
  obtain ⟨e,inf,g1,g2,g3⟩:=ht rfl
  refine ⟨.slice none 0 0,hrun a c.w _ ?_,by simp only [Val]⟩
  rw [h4]
  simp only [Instr.sliceAt,Instr.slice,Sem.run_bind,run_underlying g1,Result.andThen_ok,QDi b1 b2 h1 (Nat.le_refl _),QBo g2,g3,Sem.run_pure,if_true,Nat.sub_self]
 ·rename_i ob n hb
  split at hs
  ·rename_i e sz' l hH
   obtain ⟨hn,rfl,hs⟩:=hs
   obtain ⟨i,hs,hi1⟩:=QFq hs
   obtain ⟨j,⟨h1,h2,hs⟩,hj1⟩:=QFq hs
   refine QBs hH hs fun c a hr hv hc=>?_
   have h4:=hx c a hv
   rw [hb] at h4
   have b1:=bd c a lo (hlo c a hv) 0 i hi1
   have b2:=bd c a hi (hhi c a hv) n j hj1
   obtain ⟨e',inf,g1,g2,g3⟩:=ht rfl
   have key:∀ (ad:Option Addr) (cap:Nat),a.eval x = .slice ad n cap → n ≤ cap →
     (Instr.sliceAt t (a.eval x) (lo.map a.eval) (hi.map a.eval) none).run P c.w = .ok (.slice (if cap = i then ad else ad.map (·.add (i * sz'))) (j - i) (cap - i)) c.w:=fun ad cap he hcap=>by
    rw [he]
    simp only [Instr.sliceAt,Instr.slice,Sem.run_bind,run_underlying g1,Result.andThen_ok,QDi b1 b2 h1 (Nat.le_trans h2 hcap),QBo g2,g3,Sem.run_pure]
   obtain ⟨hm,h5⟩:=QFm hr h4 hc hn
   rcases h5 with ⟨h6,rfl⟩ | ⟨g,o0,cap,cur,h6,_,h7,_⟩
   ·simp only [List.length_nil] at hn
    subst hn
    refine ⟨_,hrun a c.w _ (key none 0 h6 (Nat.le_refl _)),?_⟩
    simp only [Val]
    have hj0:j - i = 0:=by omega
    refine ⟨⟨_,_,_,rfl⟩,.inl ⟨_,_,_,hc,by simp,fun _=>⟨by omega,.inr ⟨hj0,.inl ?_⟩⟩⟩⟩
    rw [hj0]; simp
   ·refine ⟨_,hrun a c.w _ (key _ cap (by rw [h6,hn]) (by omega)),?_⟩
    simp only [Val]
    refine ⟨⟨_,_,_,rfl⟩,.inl ⟨_,_,_,hc,by omega,fun _=>⟨by omega,?_⟩⟩⟩
    by_cases hci:cap = i
    ·have hj0:j - i = 0:=by omega
     exact .inr ⟨hj0,.inr ⟨g,_,cap,o0,0,by rw [hm,h6],by rw [hj0,if_pos hci,hci]; simp,by omega⟩⟩
    ·refine .inl ⟨g,_,cap,o0,cap - i,by rw [hm,h6],?_,by omega,by omega⟩
     rw [if_neg hci]
     simp only [Option.map_some,Addr.add_mid]
  ·exact hs.elim
 ·rename_i ob p q m hb
  split at hs
  ·rename_i e sz' l hH
   obtain ⟨hn,rfl,hs⟩:=hs
   obtain ⟨i,hs,hi1⟩:=QFq hs
   obtain ⟨j,⟨h1,h2,hs⟩,hj1⟩:=QFq hs
   refine QBs hH hs fun c a hr hv hc=>?_
   have h4:=hx c a hv
   rw [hb] at h4
   have b1:=bd c a lo (hlo c a hv) 0 i hi1
   have b2:=bd c a hi (hhi c a hv) q j hj1
   obtain ⟨e',inf,g1,g2,g3⟩:=ht rfl
   have key:∀ (ad:Option Addr) (cap:Nat),a.eval x = .slice ad q cap → q ≤ cap →
     (Instr.sliceAt t (a.eval x) (lo.map a.eval) (hi.map a.eval) none).run P c.w = .ok (.slice (if cap = i then ad else ad.map (·.add (i * sz'))) (j - i) (cap - i)) c.w:=fun ad cap he hcap=>by
    rw [he]
    simp only [Instr.sliceAt,Instr.slice,Sem.run_bind,run_underlying g1,Result.andThen_ok,QDi b1 b2 h1 (Nat.le_trans h2 hcap),QBo g2,g3,Sem.run_pure]
   simp only [Val] at h4
   rcases h4.2 with ⟨e2,sz2,l2,f1,f2,f3⟩ | f1
   ·rw [hc] at f1; cases f1
    obtain ⟨f4,f5⟩:=f3 hn
    rcases f5 with ⟨g,len,cap,o0,cp,k3,k4,k5,k6⟩ | ⟨rfl,k4⟩
    ·refine ⟨_,hrun a c.w _ (key _ cp k4 k5),?_⟩
     simp only [Val]
     refine ⟨⟨_,_,_,rfl⟩,.inl ⟨_,_,_,hc,by omega,fun _=>⟨by omega,?_⟩⟩⟩
     by_cases hci:cp = i
     ·have hj0:j - i = 0:=by omega
      exact .inr ⟨hj0,.inr ⟨g,_,cap,o0,p,k3,by rw [hj0,if_pos hci,hci]; simp,by omega⟩⟩
     ·refine .inl ⟨g,_,cap,o0,cp - i,k3,?_,by omega,by omega⟩
      rw [if_neg hci]
      simp only [Option.map_some,Addr.add_mid,Nat.add_mul,Nat.add_assoc]
    ·have hi0:i = 0:=by omega
     have hj0:j = 0:=by omega
     subst hi0 hj0
     rcases k4 with k4 | ⟨g,len,cap,o0,d,k3,k4,k5⟩
     ·refine ⟨_,hrun a c.w _ (key _ 0 k4 (Nat.le_refl _)),?_⟩
      simp only [Val]
      exact ⟨⟨_,_,_,rfl⟩,.inl ⟨_,_,_,hc,by omega,fun _=>⟨by omega,.inr ⟨trivial,.inl (by simp)⟩⟩⟩⟩
     ·refine ⟨_,hrun a c.w _ (key _ 0 k4 (Nat.le_refl _)),?_⟩
      simp only [Val]
      exact ⟨⟨_,_,_,rfl⟩,.inl ⟨_,_,_,hc,by omega,fun _=>⟨by omega,.inr ⟨trivial,.inr ⟨g,_,cap,o0,d,k3,by simp,k5⟩⟩⟩⟩⟩
   ·rw [hc] at f1; cases f1
  ·exact hs.elim
 ·exact hs.elim
end ops
end Go.Ab
namespace Go.Ab
open Go
set_option linter.unusedSectionVars false
variable [Glob]

def QF9 (b:UInt8):List AV:=[.int .u8 b.toNat]
def QLn:List AV → Option UInt8
 | [.int .u8 n]=>if 0 ≤ n ∧ n < 256 then some (UInt8.ofNat n.toNat) else none
 | _=>none
def unb:List (List AV) → Option (List UInt8)
 | []=>some []
 | r :: rs=>(match QLn r,unb rs with | some b,some s=>some (b :: s) | _,_=>none)

theorem QMd (b:UInt8):QLn (QF9 b) = some b:=by
 have h:b.toNat < 256:=b.toNat_lt
 have h2:((b.toNat:Int)) < 256:=by omega
 simp [QLn,QF9,h2]
theorem QQX (s:List UInt8):unb (s.map QF9) = some s:=by
 induction s with
 | nil=>rfl
 | cons b s ih=>simp [unb,QMd,ih]
theorem QMe {r:List AV} {b:UInt8} (h:QLn r = some b):r = QF9 b:=by
 unfold QLn at h
 split at h
 ·rename_i n
  split at h
  ·rename_i hn
   cases h
   have:(UInt8.ofNat n.toNat).toNat = n.toNat:=by
    rw [UInt8.toNat_ofNat']; apply Nat.mod_eq_of_lt; omega
   simp only [QF9,this]
   rw [Int.toNat_of_nonneg hn.1]
  ·cases h
 ·cases h
theorem QGh:∀ {l:List (List AV)} {s:List UInt8},unb l = some s → l = s.map QF9
 | [],s,h=>by simp [unb] at h; subst h; rfl
 | r :: rs,s,h=>by
  simp only [unb] at h
  split at h
  ·rename_i b t hb ht
   cases h
   rw [QMe hb,QGh ht]; rfl
  ·cases h
inductive XK where
 | b2s
 | s2b
 | shift (left:Bool)
 | appStr (e:Nat)
 | least
 | ifnil (neg:Bool)
 | sdata
 | ustr (e:Nat)
 | mkif (t:Nat)
 | ifeq (neg:Bool) (ts:List Nat)
 | stop
 | cut (n:Nat)
 | pnil (neg:Bool)
 | most

def onS (x:Option (List UInt8)) (K:List UInt8 → Prop):Prop:=match x with | some s=>K s | none=>False
theorem QNf {x:Option (List UInt8)} {K:List UInt8 → Prop} (h:onS x K):∃ s,x = some s ∧ K s:=by
 cases x with
 | none=>exact h.elim
 | some s=>exact ⟨s,rfl,h⟩

def Qab (x:AV) (H:List AObj) (K:SK):Prop:=
 match x with
 | .nils=>K [] [] (.str [])
 | .imm l=>onS (unb l) fun s=>K [] [] (.str s)
 | .own o n=>(match H[o]? with
  | some (.reg e sz l)=>n = l.length ∧ onS (unb l) fun s=>K [(o,.reg e sz l)] [] (.str s)
  | _=>False)
 | .win o lo n=>(match H[o]? with
  | some (.box e cs)=>lo + n ≤ cs.length ∧ onS (unb (((cs.drop lo).take n).map fun x=>[x])) fun s=>K [(o,.box e cs)] [] (.str s)
  | _=>False)
 | _=>False
def Qac (x:AV) (K:SK):Prop:=match x with | .str s=>K [] [] (.imm (s.map QF9)) | _=>False
def QQY (left:Bool) (x y:AV) (K:SK):Prop:=
 match x,y with
 | .int k a,.int _ n=>0 ≤ n ∧ K [] [] (.int k (if left then k.wrap (a * 2 ^ (min n.toNat k.bits)) else a.fdiv (2 ^ (min n.toNat k.bits))))
 | _,_=>False
def QMf (e:Nat) (x y:AV) (H:List AObj) (K:SK):Prop:=
 match x,y with
 | .own o n,.str s=>(match H[o]? with
  | some (.reg e' sz' l)=>n = l.length ∧ e' = e ∧ sz' = 1 ∧ QOA 1 (l.length + s.length) ∧ K [(o,.reg e' sz' l)] [(o,.reg e 1 (l ++ s.map QF9))] (.own o (l.length + s.length))
  | _=>False)
 | _,_=>False
def QQZ (x y:AV) (K:SK):Prop:=match x,y with | .int k a,.int _ b=>K [] [] (.int k (if b < a then b else a)) | _,_=>False
def QQa (neg:Bool) (x:AV) (K:SK):Prop:=
 match x with
 | .raw .nilIface=>K [] [] (.bool (!neg))
 | .raw (.iface _ _)=>K [] [] (.bool neg)
 | .ifc=>K [] [] (.bool neg)
 | _=>False
def QQb (x:AV) (H:List AObj) (K:SK):Prop:=
 match x with
 | .own o n=>(match H[o]? with
  | some (.reg e sz l)=>n = l.length ∧ l ≠ [] ∧ K [(o,.reg e sz l)] [] (.eptr o n 0 0)
  | _=>False)
 | _=>False
def QVS (e0:Nat) (x y:AV) (H:List AObj) (K:SK):Prop:=
 match x,y with
 | .eptr o n 0 0,.int .i64 m=>(match H[o]? with
  | some (.reg e sz l)=>e = e0 ∧ n = l.length ∧ m = l.length ∧ sz = 1 ∧ l ≠ [] ∧ onS (unb l) fun s=>K [(o,.reg e sz l)] [(o,.dead)] (.str s)
  | _=>False)
 | _,_=>False

def QVT (t:Nat) (x:AV) (K:SK):Prop:=match x with
 | .int k n=>K [] [] (.raw (.iface t (.int k n)))
 | .own o n=>K [] [] (.ifv t (.own o n))
 | _=>K [] [] .ifc
def QVU (neg:Bool) (ts:List Nat) (x y:AV) (K:SK):Prop:=match x,y with
 | .raw (.iface t (.int k a)),.raw (.iface u (.int k' b))=>t = u ∧ k = k' ∧ ts.contains t = true ∧ K [] [] (.bool ((a == b) != neg))
 | _,_=>False
def Qad (n:Nat) (x lo hi:AV) (H:List AObj) (K:SK):Prop:=match x,lo,hi with
 | .ptr o 0,.int _ a,.int _ b=>(match H[o]? with
  | some (.box e cs)=>cs.length = n ∧ 0 ≤ a ∧ a ≤ b ∧ a < n ∧ b ≤ n ∧ K [(o,.box e cs)] [] (.win o a.toNat (b - a).toNat)
  | _=>False)
 | _,_,_=>False
def QVV (neg:Bool) (x:AV) (K:SK):Prop:=
 match x with
 | .nilp=>K [] [] (.bool (!neg))
 | .ptr _ _=>K [] [] (.bool neg)
 | .iptr _=>K [] [] (.bool neg)
 | _=>False
def QVW (x y:AV) (K:SK):Prop:=
 match x,y with
 | .int k a,.int _ b=>K [] [] (.int k (if b > a then b else a))
 | _,_=>False
def QFr (k:XK) (xs:List AV) (H:List AObj) (K:SK):Prop:=
 match k,xs with
 | .b2s,[x]=>Qab x H K
 | .s2b,[x]=>Qac x K
 | .shift left,[x,y]=>QQY left x y K
 | .appStr e,[x,y]=>QMf e x y H K
 | .least,[x,y]=>QQZ x y K
 | .ifnil neg,[x]=>QQa neg x K
 | .sdata,[x]=>QQb x H K
 | .ustr e,[x,y]=>QVS e x y H K
 | .mkif t,[x]=>QVT t x K
 | .ifeq neg ts,[x,y]=>QVU neg ts x y K
 | .stop,_=>False
 | .cut n,[x,lo,hi]=>Qad n x lo hi H K
 | .pnil neg,[x]=>QVV neg x K
 | .most,[x,y]=>QVW x y K
 | _,_=>False

section ops
variable {P:Program} {o:Oper} {T:List AV} {H:List AObj} {nid:Nat} {al:Bool} {K:SK}

theorem QNg {c:Cx}:∀ {s:List UInt8} {b off:Nat},QAh c (s.map QF9) b off 1 → ∀ j (hj:j < s.length),c.w.cell? ⟨b,off + j,none⟩ = some (.int .u8 (s[j].toNat:Int)):=by
 intro s b off h j hj
 rw [QA9] at h
 have h1:=h j (QF9 s[j]) (by simp [hj])
 have h2:=h1.2
 simp only [QF9,QBN,Val] at h2
 obtain ⟨⟨v,h3,h4,rfl⟩,_⟩:=h2
 rw [Nat.mul_one] at h3
 exact h3

theorem QNh {c:Cx} {s:List UInt8} {b off sz:Nat} (h:QAh c (s.map QF9) b off sz):QAh c (s.map QF9) b off 1:=by
 cases s with
 | nil=>simp [QAh]
 | cons x s=>
  have:=h
  simp only [List.map_cons,QAh] at this
  have hsz:sz = 1:=this.1.symm
  subst hsz
  exact h

theorem QVX {s d e:TypeId} {x:Operand} (ho:o.op = .convert s d x) (hs:P.underlying s = some (.slice e)) (he:P.underlying e = some (.int .u8)) (hd:P.underlying d = some .string)
  (hK:Qab ((opd x).ev T) H K):Out P o T H nid al K:=by
 have hx:∀ (c:Cx) (a:Act),(∀ x ∈ o.op.operands.toList,Val c ((opd x).ev T) (a.eval x)) → Val c ((opd x).ev T) (a.eval x):=fun c a h=>h x (by simp [ho,Op.operands])
 have hrun:∀ {a:Act} {w:World} {u v:Value},a.eval x = u → (convert s d u).run P w = .ok v w → (execOp a.eval o).run P w = .ok (.value v) w:=fun h1 h=>by simp [execOp,ho,h1,h]
 have hemp:∀ (w:World) (a:Option Addr) (cp:Nat),(convert s d (.slice a 0 cp)).run P w = .ok (.string ⟨#[]⟩) w:=fun w a cp=>by
  cases a with
  | none=>simp [convert,run_underlying hs,run_underlying he,run_underlying hd,Conv.bytesToString]; rfl
  | some ad=>exact run_convert_bytes_back w s d e ad cp [] hs he hd (by simp)
 have hback:∀ (c:Cx) (t:List UInt8) (b off cap:Nat),QAh c (t.map QF9) b off 1 → (convert s d (.slice (some ⟨b,off,none⟩) t.length cap)).run P c.w = .ok (.string ⟨t.toArray⟩) c.w:=fun c t b off cap h=>
  run_convert_bytes_back c.w s d e ⟨b,off,none⟩ cap t hs he hd fun j hj=>by rw [Addr.add_mid]; exact QNg h j hj
 unfold Qab at hK
 split at hK
 ·rename_i hb
  refine QAX hK fun c a hr hv=>?_
  have h1:=hx c a hv
  rw [hb] at h1; simp only [Val] at h1
  exact ⟨_,hrun h1 (hemp c.w none 0),by simp [Val]⟩
 ·rename_i l hb
  obtain ⟨t,ht,hK2⟩:=QNf hK
  obtain rfl:=QGh ht
  refine QAX hK2 fun c a hr hv=>?_
  have h1:=hx c a hv
  rw [hb] at h1; simp only [Val,List.length_map] at h1
  rcases h1 with ⟨b,off,cap,sz,h1,h2,h3,h4⟩ | ⟨h0,b,cp,h1⟩
  ·exact ⟨_,hrun h1 (hback c t b off cap (QNh h4)),by simp [Val]⟩
  ·have h0':t = []:=by simpa using h0
   subst h0'
   exact ⟨_,hrun h1 (hemp c.w b cp),by simp [Val]⟩
 ·rename_i ob n hb
  split at hK
  ·rename_i e' sz l hH
   obtain ⟨hn,hK⟩:=hK
   obtain ⟨t,ht,hK2⟩:=QNf hK
   obtain rfl:=QGh ht
   refine QBs hH hK2 fun c a hr hv hc=>?_
   have h1:=hx c a hv
   rw [hb] at h1
   obtain ⟨_,h⟩:=QFm hr h1 hc hn
   rcases h with ⟨h2,h3⟩ | ⟨g,o0,cap,cur,h2,h3,h4,h5,h6,h7⟩
   ·have h0':t = []:=by simpa using h3
    subst h0'
    exact ⟨_,hrun h2 (hemp c.w none 0),by simp [Val]⟩
   ·rw [List.length_map] at h2
    exact ⟨_,hrun h2 (hback c t g o0 cap (QNh h7)),by simp [Val]⟩
  ·exact hK.elim
 ·rename_i ob lo n hb
  split at hK
  ·rename_i e' cs hH
   obtain ⟨hn,hK⟩:=hK
   obtain ⟨t,ht,hK2⟩:=QNf hK
   have hl:=QGh ht
   refine QBs hH hK2 fun c a hr hv hc=>?_
   have h1:=hx c a hv
   rw [hb] at h1; simp only [Val] at h1
   obtain ⟨e2,cs2,b,cap,h2,h3,h4⟩:=h1
   obtain ⟨b',arr,h5,h6,h7,h8⟩:=hr.obj _ _ hc
   rw [h3] at h5; simp at h5; subst h5
   have hlen:t.length = n:=by
    have:=congrArg List.length hl
    simp at this
    omega
   subst hlen
   refine ⟨_,hrun h4 (run_convert_bytes_back c.w s d e ⟨b,lo,none⟩ cap t hs he hd fun j hj=>?_),by simp [Val]⟩
   rw [Addr.add_mid]
   have h9:((((cs.drop lo).take t.length).map fun x=>[x]))[j]? = (t.map QF9)[j]?:=by rw [hl]
   simp only [List.getElem?_map,List.getElem?_eq_getElem hj,Option.map_some,List.getElem?_take_of_lt hj,List.getElem?_drop] at h9
   cases h10:cs[lo + j]? with
   | none=>rw [h10] at h9; simp at h9
   | some y=>
    rw [h10] at h9
    simp [QF9] at h9
    subst h9
    have h11:=QCE.1 h8 (lo + j) _ h10
    obtain ⟨v,h12,_,h13⟩:=h11
    simp only [Val] at h13
    subst h13
    rw [Nat.zero_add] at h12
    exact h12
  ·exact hK.elim
 ·exact hK.elim

theorem QVY {s d e:TypeId} {x:Operand} (ho:o.op = .convert s d x) (hs:P.underlying s = some .string) (hd:P.underlying d = some (.slice e)) (he:P.underlying e = some (.int .u8))
  (hK:Qac ((opd x).ev T) K):Out P o T H nid al K:=by
 unfold Qac at hK
 split at hK
 ·rename_i t hb
  refine ⟨_,_,_,hK,by simp,by simp,.inl (by simp),fun c a hr hv hp=>?_⟩
  have h1:=hv x (by simp [ho,Op.operands])
  rw [hb] at h1; simp only [Val] at h1
  have hrun:=run_bytes_of_string (P:=P) c.w s d e ⟨t.toArray⟩ hs hd he
  have hN:=QEf hr (F':=fun b=>c.F b ∨ b = c.w.heap.size) (w':=c.w.drew.alloc (.cells (bytesRow ⟨t.toArray⟩ (grownCap c.w (ByteArray.mk t.toArray).size 0 e)) e ((bytesRow ⟨t.toArray⟩ (grownCap c.w (ByteArray.mk t.toArray).size 0 e)).size,(bytesRow ⟨t.toArray⟩ (grownCap c.w (ByteArray.mk t.toArray).size 0 e)).size + 1)))
   (fun b h=>.inl h) (fun b h=>h.imp id fun h=>⟨by omega,by simp; omega⟩) (fun b hb=>QDS c.w.drew _ b hb) (by simp) rfl rfl rfl
  refine ⟨_,_,hN.1,hN.2,rfl,?_,.value (v:=.slice (some ⟨c.w.heap.size,0,none⟩) (ByteArray.mk t.toArray).size (grownCap c.w (ByteArray.mk t.toArray).size 0 e)) (by simp only [execOp,ho,Sem.run_bind,h1,hrun,Result.andThen_ok,Sem.run_pure])⟩
  have hsz:(ByteArray.mk t.toArray).size = t.length:=QSa t
  simp only [Val,List.length_map]
  refine .inl ⟨c.w.heap.size,0,_,1,by rw [hsz],.inr rfl,by have h3:=grownCap_ge c.w (ByteArray.mk t.toArray).size 0 e; exact Nat.le_trans (Nat.le_of_eq hsz.symm) h3,?_⟩
  rw [QA9]
  intro j r hj
  rw [List.getElem?_map] at hj
  cases ht:t[j]? with
  | none=>simp [ht] at hj
  | some y=>
   simp [ht] at hj
   subst hj
   obtain ⟨hlt,hy⟩:=List.getElem?_eq_some_iff.1 ht
   refine ⟨rfl,?_⟩
   simp only [QF9,QBN,Val,and_true]
   refine ⟨_,?_,rfl,rfl⟩
   have:=World.cell?_alloc_mark c.w.drew (bytesRow ⟨t.toArray⟩ (grownCap c.w (ByteArray.mk t.toArray).size 0 e)) e ((bytesRow ⟨t.toArray⟩ (grownCap c.w (ByteArray.mk t.toArray).size 0 e)).size,(bytesRow ⟨t.toArray⟩ (grownCap c.w (ByteArray.mk t.toArray).size 0 e)).size + 1) (0 + j * 1)
   refine this.trans ?_
   have h2:=bytesRow_at ⟨t.toArray⟩ (grownCap c.w (ByteArray.mk t.toArray).size 0 e) j (by simpa using hlt)
   rw [Nat.mul_one,Nat.zero_add,h2]
   simp [hy]
 ·exact hK.elim

theorem QLo {op:BinOp} {t t':TypeId} {x y:Operand} {left:Bool} (ho:o.op = .binOp op t x y t') (hop:op = if left then .shl else .shr) (hK:QQY left ((opd x).ev T) ((opd y).ev T) K):Out P o T H nid al K:=by
 unfold QQY at hK
 split at hK
 ·rename_i k a k' n hx hy
  obtain ⟨h0,hK⟩:=hK
  refine QAX hK fun c a' hr hv=>?_
  have h1:=hv x (by simp [ho,Op.operands])
  have h2:=hv y (by simp [ho,Op.operands])
  rw [hx] at h1; rw [hy] at h2
  simp only [Val] at h1 h2
  have hn:¬ n < 0:=by omega
  cases left
  ·simp only [Bool.false_eq_true,if_false] at hop
   subst hop
   have hg:=QB9 (P:=P) (op:=.shr) (t:=t) (x:=x) (y:=y) (u:=.int k a) (v:=.int k' n) ⟨by simp,by simp⟩
   exact ⟨.int k (a.fdiv (2 ^ (min n.toNat k.bits))),by simp [execOp,ho,h1,h2,hg,binOp,Op.shift,hn],by simp [Val]⟩
  ·simp only [if_true] at hop
   subst hop
   have hg:=QB9 (P:=P) (op:=.shl) (t:=t) (x:=x) (y:=y) (u:=.int k a) (v:=.int k' n) ⟨by simp,by simp⟩
   exact ⟨.int k (k.wrap (a * 2 ^ (min n.toNat k.bits))),by simp [execOp,ho,h1,h2,hg,binOp,Op.shift,hn],by simp [Val]⟩
 ·exact hK.elim

theorem QQc {x y:Operand} {ts:Array TypeId} (ho:o.op = .call { callee:=.builtin .min,args:=#[x,y],argTypes:=ts }) (hK:QQZ ((opd x).ev T) ((opd y).ev T) K):Out P o T H nid al K:=by
 unfold QQZ at hK
 split at hK
 ·rename_i k a k' n hx hy
  refine QAX hK fun c a' hr hv=>?_
  have h1:=hv x (by simp [ho,Op.operands,Call.operands])
  have h2:=hv y (by simp [ho,Op.operands,Call.operands])
  rw [hx] at h1; rw [hy] at h2
  simp only [Val] at h1 h2
  exact ⟨.int k (if n < a then n else a),by simp [execOp,ho,h1,h2,resolve,invoke,builtin,Builtin.min_,Builtin.min2],by simp [Val]⟩
 ·exact hK.elim

theorem QSb {x y:Operand} {ts:Array TypeId} (ho:o.op = .call { callee:=.builtin .max,args:=#[x,y],argTypes:=ts }) (hK:QVW ((opd x).ev T) ((opd y).ev T) K):Out P o T H nid al K:=by
 unfold QVW at hK
 split at hK
 ·rename_i k a k' n hx hy
  refine QAX hK fun c a' hr hv=>?_
  have h1:=hv x (by simp [ho,Op.operands,Call.operands])
  have h2:=hv y (by simp [ho,Op.operands,Call.operands])
  rw [hx] at h1; rw [hy] at h2
  simp only [Val] at h1 h2
  exact ⟨.int k (if n > a then n else a),by simp [execOp,ho,h1,h2,resolve,invoke,builtin,Builtin.max_,Builtin.max2],by simp [Val]⟩
 ·exact hK.elim
theorem QNi {op:BinOp} {t e t':TypeId} {x:Operand} {neg:Bool} (ho:o.op = .binOp op t x (.const (.pointer none)) t') (hop:op = if neg then .neq else .eql) (ht:P.underlying t = some (.pointer e)) (hs:QVV neg ((opd x).ev T) K):Out P o T H nid al K:=by
 have hx:∀ (c:Cx) (a:Act),(∀ x ∈ o.op.operands.toList,Val c ((opd x).ev T) (a.eval x)) → Val c ((opd x).ev T) (a.eval x):=fun c a hv=>hv x (by simp [ho,Op.operands])
 have hp:P.underlying t = some (.pointer (P.pointee t)):=by simp only [Program.pointee,ht]
 have hrun:∀ (a:Act) (w:World) (p:Option Addr),a.eval x = .pointer p → (execOp a.eval o).run P w = .ok (.value (.bool (if neg then !p.isNone else p.isNone))) w:=fun a w p h1=>by
  have hg:=QB9 (P:=P) (op:=op) (t:=t) (x:=x) (y:=.const (.pointer none)) (u:=.pointer p) (v:=.pointer none) ⟨fun _=>by simp,by simp⟩
  have e2:a.eval (.const (.pointer none)) = .pointer none:=rfl
  cases neg
  ·simp only [Bool.false_eq_true,if_false] at hop ⊢
   subst hop
   simp [execOp,ho,h1,e2,hg,run_eql_pointer_nil w t p hp]
  ·simp only [if_true] at hop ⊢
   subst hop
   simp [execOp,ho,h1,e2,hg,run_neq_pointer_nil w t p hp]
 unfold QVV at hs
 split at hs
 ·rename_i hb
  refine QAX hs fun c a _ hv=>?_
  have h1:=hx c a hv
  rw [hb] at h1; simp only [Val] at h1
  exact ⟨_,hrun a c.w _ h1,by cases neg <;> simp [Val]⟩
 ·rename_i ob off hb
  refine QAX hs fun c a _ hv=>?_
  have h1:=hx c a hv
  rw [hb] at h1; simp only [Val] at h1
  obtain ⟨_,_,b,_,_,h1⟩:=h1
  exact ⟨_,hrun a c.w _ h1,by cases neg <;> simp [Val]⟩
 ·rename_i cs hb
  refine QAX hs fun c a _ hv=>?_
  have h1:=hx c a hv
  rw [hb] at h1; simp only [Val] at h1
  obtain ⟨b,off,h1,_⟩:=h1
  exact ⟨_,hrun a c.w _ h1,by cases neg <;> simp [Val]⟩
 ·exact hs.elim

theorem QLp {op:BinOp} {t t':TypeId} {ms:Array _} {x:Operand} {neg:Bool} (ho:o.op = .binOp op t x (.const .nilIface) t') (hop:op = if neg then .neq else .eql) (ht:P.underlying t = some (.interface ms))
  (hK:QQa neg ((opd x).ev T) K):Out P o T H nid al K:=by
 have hx:∀ (c:Cx) (a:Act),(∀ x ∈ o.op.operands.toList,Val c ((opd x).ev T) (a.eval x)) → Val c ((opd x).ev T) (a.eval x):=fun c a h=>h x (by simp [ho,Op.operands])
 have e2:∀ a:Act,a.eval (.const .nilIface) = .nilIface:=fun a=>rfl
 have q1:∀ (w:World),(Op.equal t .nilIface .nilIface).run P w = .ok true w:=fun w=>by
  have:∀ d,(Op.equalIn (d + 1) t .nilIface .nilIface).run P w = .ok true w:=fun d=>by simp [Op.equalIn,run_underlying ht]
  exact this 9999
 have q2:∀ (w:World) (u:TypeId) (v:Value),(Op.equal t (.iface u v) .nilIface).run P w = .ok false w:=fun w u v=>by
  have:∀ d,(Op.equalIn (d + 1) t (.iface u v) .nilIface).run P w = .ok false w:=fun d=>by simp [Op.equalIn,run_underlying ht]
  exact this 9999
 have g1:∀ (w:World),(eqGuard op t x (.const .nilIface) .nilIface .nilIface).run P w = .ok () w:=fun w=>by cases neg <;> simp only [Bool.false_eq_true,if_false,if_true] at hop <;> subst hop <;> cases x <;> rfl
 have g2:∀ (w:World) (u:TypeId) (v:Value),(eqGuard op t x (.const .nilIface) (.iface u v) .nilIface).run P w = .ok () w:=fun w u v=>by cases neg <;> simp only [Bool.false_eq_true,if_false,if_true] at hop <;> subst hop <;> rfl
 have b1:∀ (w:World),(binOp op t .nilIface .nilIface).run P w = .ok (.bool (!neg)) w:=fun w=>by
  cases neg <;> simp only [Bool.false_eq_true,if_false,if_true] at hop <;> subst hop <;> simp only [binOp,Sem.run_bind,q1,Result.andThen_ok,Sem.run_pure] <;> rfl
 have b2:∀ (w:World) (u:TypeId) (v:Value),(binOp op t (.iface u v) .nilIface).run P w = .ok (.bool neg) w:=fun w u v=>by
  cases neg <;> simp only [Bool.false_eq_true,if_false,if_true] at hop <;> subst hop <;> simp only [binOp,Sem.run_bind,q2,Result.andThen_ok,Sem.run_pure] <;> rfl
 have hnil:∀ (a:Act) (w:World),a.eval x = .nilIface → (execOp a.eval o).run P w = .ok (.value (.bool (!neg))) w:=fun a w h=>by
  simp only [execOp,ho,h,e2,Sem.run_bind,g1,b1,Result.andThen_ok,Sem.run_pure]
 have hsome:∀ (a:Act) (w:World) (u:TypeId) (v:Value),a.eval x = .iface u v → (execOp a.eval o).run P w = .ok (.value (.bool neg)) w:=fun a w u v h=>by
  simp only [execOp,ho,h,e2,Sem.run_bind,g2,b2,Result.andThen_ok,Sem.run_pure]
 unfold QQa at hK
 split at hK
 ·rename_i hb
  refine QAX hK fun c a hr hv=>?_
  have h1:=hx c a hv
  rw [hb] at h1; simp only [Val] at h1
  exact ⟨_,hnil a c.w h1,by simp [Val]⟩
 ·rename_i u v hb
  refine QAX hK fun c a hr hv=>?_
  have h1:=hx c a hv
  rw [hb] at h1; simp only [Val] at h1
  exact ⟨_,hsome a c.w _ _ h1,by simp [Val]⟩
 ·rename_i hb
  refine QAX hK fun c a hr hv=>?_
  have h1:=hx c a hv
  rw [hb] at h1; simp only [Val] at h1
  obtain ⟨u,v,h1⟩:=h1
  exact ⟨_,hsome a c.w _ _ h1,by simp [Val]⟩
 ·exact hK.elim

theorem QMg {c:Cx} {t u e:TypeId} (ty:TypeId) {i:TypeInfo} {z:Value} (ht:P.underlying t = some (.slice e)) (hu:P.underlying u = some .string) (hi:P.info? e = some i) (hz:i.zero = some z) (hzs:z.cells.size = 1) (hs1:i.size = 1) (hb1:i.bytes = 1)
  {v:Value} {l:List (List AV)} (hreg:QGx c v e 1 l) (s:List UInt8) (hfit:QOA 1 (l.length + s.length)):
  ∃ v' w',(Builtin.append_ #[t,u] ty #[v,.string ⟨s.toArray⟩]).run P c.w = .ok v' w' ∧ c.w.heap.size ≤ w'.heap.size ∧ w'.os = c.w.os ∧ w'.tape = c.w.tape ∧ w'.output = c.w.output ∧
   (∀ b,b < c.w.heap.size → blk v ≠ some b → w'.heap[b]? = c.w.heap[b]?) ∧ (∀ b,blk v' = some b → b = c.w.heap.size ∨ blk v = some b) ∧ (s = [] → v' = v) ∧
   (∃ k cp,v' = .slice k (l.length + s.length) cp) ∧
   ∀ c',QIx c c' → c'.w = w' → QGx c' v' e 1 (l ++ s.map QF9):=by
 obtain ⟨hml,hby⟩:=hfit
 have hml':l.length + s.length ≤ 9223372036854775807:=by simp only [maxLen] at hml; omega
 have hbs:(ByteArray.mk s.toArray).size = s.length:=QSa s
 have hsc:Lib.strCells ⟨s.toArray⟩ = s.map fun b=>Value.int .u8 b.toNat:=by simp [Lib.strCells]
 have hf:QLH c (s.map QF9) (s.map fun b=>Value.int .u8 (b.toNat:Int)) 1:=by
  refine ⟨by simp,fun j r hj=>?_⟩
  rw [List.getElem?_map] at hj
  cases h:s[j]? with
  | none=>simp [h] at hj
  | some y=>
   simp [h] at hj
   subst hj
   refine ⟨rfl,fun k x hk=>?_⟩
   have hk0:k = 0:=by
    have:=(List.getElem?_eq_some_iff.1 hk).1
    simp [QF9] at this
    exact this
   subst hk0
   simp [QF9] at hk
   subst hk
   exact ⟨.int .u8 y.toNat,by simp [h],rfl,by simp [Val]⟩
 have grown:∀ (olds:List Value),QLH c l olds 1 → ∀ (cp:Nat),cp < l.length + s.length →
   ∀ c',QIx c c' → c'.w = c.w.drew.alloc (.cells (olds.toArray ++ (s.map fun b=>Value.int .u8 (b.toNat:Int)).toArray ++ Builtin.zeroCells z.cells (grownCap c.w (l.length + s.length) cp e - (l.length + s.length))) e) →
    QGx c' (.slice (some ⟨c.w.heap.size,0,none⟩) (l.length + s.length) (grownCap c.w (l.length + s.length) cp e)) e 1 (l ++ s.map QF9):=by
  intro olds ho cp hcp c' hE hw
  have hge:=grownCap_ge c.w (l.length + s.length) cp e
  have hcm:=grownCap_le_maxLen c.w (l.length + s.length) cp e hml
  refine .inr ⟨c.w.heap.size,0,_,_,by simp,by rw [hw]; exact QCT c.w.drew _,by simpa using hge,hcm,⟨?_,fun _=>rfl⟩,?_⟩
  ·simp only [Array.size_append,List.size_toArray,QE6,hzs,ho.1,List.length_map]
   omega
  ·refine QCH (QDp (QC5 hE ho) (QC5 hE hf)) fun j u hj=>?_
   have hh:c'.w.heap[c.w.heap.size]? = some (.cells (olds.toArray ++ (s.map fun b=>Value.int .u8 (b.toNat:Int)).toArray ++ Builtin.zeroCells z.cells (grownCap c.w (l.length + s.length) cp e - (l.length + s.length))) e (0,0)):=by rw [hw]; exact QCT c.w.drew _
   rw [Nat.zero_add,cell_of_row _ _ _ _ _ _ hh,← Array.getElem?_toList]
   simp only [Array.toList_append]
   rw [List.getElem?_append_left (by simpa using (List.getElem?_eq_some_iff.1 hj).1)]
   exact hj
 rcases hreg with ⟨rfl,rfl⟩ | ⟨g,o0,cp,cur,rfl,h3,h4,h5,⟨h6,h6z⟩,h7⟩
 ·by_cases hs0:s = []
  ·subst hs0
   refine ⟨.slice none 0 0,c.w,?_,Nat.le_refl _,rfl,rfl,rfl,fun _ _ _=>rfl,fun b hb=>by simp [blk] at hb,fun _=>rfl,⟨_,_,rfl⟩,fun c' _ _=>.inl ⟨rfl,rfl⟩⟩
   have e0:(ByteArray.mk ([]:List UInt8).toArray).size = 0:=rfl
   simp [Builtin.append_,run_underlying ht,run_underlying hu,sizeOf,typeInfo,hi,Builtin.lenOf,Builtin.firstCells,e0]
  ·have h0:0 < s.length:=List.length_pos_iff.2 hs0
   have hr:=run_append_nil_string (P:=P) c.w t u ty e i z ht hu hi hz ⟨s.toArray⟩ (by rw [hbs]; exact h0) (by rw [hbs]; simp at hml'; omega) (by rw [hbs,hb1]; simp at hby; omega)
   rw [hbs] at hr
   refine ⟨_,_,hr,by simp,rfl,rfl,rfl,fun b hb _=>QDS c.w.drew _ b hb,fun b hb=>.inl (by simpa [blk] using hb.symm),fun h=>(hs0 h).elim,⟨_,_,by rw [List.length_nil,Nat.zero_add]⟩,fun c' hE hw=>?_⟩
   have:=grown [] (QCY c _) 0 (by simpa using h0) c' hE (by rw [hw]; simp)
   simpa using this
 ·obtain rfl:=h6z rfl
  obtain ⟨olds,h8,h9,h10⟩:=QCI h7
  rw [Nat.mul_one,Nat.zero_add] at h6
  by_cases hroom:l.length + s.length ≤ cp
  ·have hr:=Lib.run_append_room_string (P:=P) c.w t u ty e i ht hu hi hs1 g l.length cp cur h3 ⟨s.toArray⟩ (by rw [hbs]; exact hroom) (by rw [hbs]; omega)
   rw [hbs,hsc] at hr
   refine ⟨_,_,hr,by simp,rfl,rfl,rfl,fun b hb hne=>setRow_other _ _ _ _ (fun h=>hne (by simp [blk,h])),fun b hb=>.inr hb,fun h=>by subst h; rfl,⟨_,_,rfl⟩,fun c' hE hw=>?_⟩
   have hh:=setRow_heap c.w g cur (cur.toList.take l.length ++ (s.map fun b=>Value.int .u8 (b.toNat:Int)) ++ cur.toList.drop (l.length + s.length)).toArray e (0,0) h3
   rw [← hw] at hh
   have hcs:cur.toList.length = cur.size:=rfl
   have hla:(cur.toList.take l.length).length = l.length:=by rw [List.length_take]; omega
   have h81:olds.length = l.length:=by have:=h8.1; omega
   refine .inr ⟨g,0,cp,_,by simp,hh,by simpa using hroom,h5,⟨?_,fun _=>rfl⟩,?_⟩
   ·simp only [List.size_toArray,List.length_append,List.length_drop,hla,List.length_map]; omega
   ·refine QCH (QDp (QC5 hE h8) (QC5 hE hf)) fun j u hj=>?_
    rw [Nat.zero_add,cell_of_row _ _ _ _ _ _ hh]
    simp only [List.getElem?_toArray]
    by_cases hjl:j < olds.length
    ·rw [List.getElem?_append_left hjl] at hj
     have:=h10 j u hj
     rw [Nat.zero_add,cell_of_row _ _ _ _ _ _ h3] at this
     rw [List.append_assoc,List.getElem?_append_left (by omega),List.getElem?_take_of_lt (by omega)]
     simpa using this
    ·rw [List.getElem?_append_right (by omega),h81] at hj
     have hjn:=(List.getElem?_eq_some_iff.1 hj).1
     rw [List.append_assoc,List.getElem?_append_right (by omega),hla,List.getElem?_append_left hjn]
     exact hj
  ·have hg:Builtin.nextslicecap (l.length + s.length) cp * i.bytes ≤ 281474976710656:=growslice_fits (by omega) (by rw [hb1]; exact hby)
   have hr:=Lib.run_append_grow_string (P:=P) c.w t u ty e i z ht hu hi hz ⟨g,0,none⟩ l.length cp olds (by rw [hs1]; exact h8.1) (fun j u hj=>by rw [Addr.add_mid]; exact h10 j u hj) ⟨s.toArray⟩ (by rw [hbs]; omega) (by rw [hbs]; omega) (by rw [hbs]; exact hg)
   rw [hbs,hsc] at hr
   exact ⟨_,_,hr,by simp,rfl,rfl,rfl,fun b hb _=>QDS c.w.drew _ b hb,fun b hb=>.inl (by simpa [blk] using hb.symm),fun h=>by subst h; simp at hroom; omega,⟨_,_,rfl⟩,fun c' hE hw=>grown olds h8 cp (by omega) c' hE hw⟩

theorem QOa {t u e:TypeId} {x y:Operand} {i:TypeInfo} {z:Value} (ho:o.op = .call { callee:=.builtin .append,args:=#[x,y],argTypes:=#[t,u] }) (ht:P.underlying t = some (.slice e)) (hu:P.underlying u = some .string)
  (hi:P.info? e = some i) (hz:i.zero = some z) (hzs:z.cells.size = 1) (hs1:i.size = 1) (hb1:i.bytes = 1) (hK:QMf e ((opd x).ev T) ((opd y).ev T) H K):Out P o T H nid al K:=by
 unfold QMf at hK
 split at hK
 ·rename_i ob n s hx hy
  split at hK
  ·rename_i e' sz' l hH
   obtain ⟨hn,rfl,rfl,hfit,hK⟩:=hK
   refine ⟨_,_,_,hK,fun p hp=>.inl (by obtain rfl:=List.mem_singleton.1 hp; exact hH),by simp,.inl (fun p hp=>by obtain rfl:=List.mem_singleton.1 hp; exact hH),fun c a hr hv hp=>?_⟩
   have hc:c.H[ob]? = some (.reg e' 1 l):=hp _ (List.mem_singleton.2 rfl)
   have hlt:ob < c.H.length:=(List.getElem?_eq_some_iff.1 hc).1
   have h1:=hv x (by simp [ho,Op.operands,Call.operands])
   have h2:=hv y (by simp [ho,Op.operands,Call.operands])
   rw [hx] at h1; rw [hy] at h2
   simp only [Val] at h2
   obtain ⟨g1,g2⟩:=QFm hr h1 hc hn
   obtain ⟨v',w',r1,r2,r3,r4,r5,r6,r7,r8,r9,r10⟩:=QMg (P:=P) (c:=c) o.type ht hu hi hz hzs hs1 hb1 (v:=a.eval x) (l:=l) g2 s hfit
   have hN:=QC3 hr (o:=ob) (x':=.reg e' 1 (l ++ s.map QF9)) (v':=v') (F':=c.F) (w':=w') hc (by
     simp only [OStep,List.length_append,List.length_map]
     refine ⟨trivial,trivial,by omega,fun hl=>?_⟩
     have:s = []:=List.eq_nil_of_length_eq_zero (by omega)
     rw [r8 this,g1]) (fun _ h=>h) (fun _ h=>.inl h)
    (fun b hb hnb=>r6 b hb (fun h=>hnb ⟨_,_,hc,rfl,g1,h⟩)) r2 r3 r4 r5
    (fun b _ hb=>(r7 b hb).elim (fun h=>.inl (by omega)) (fun h=>.inr ⟨_,_,hc,rfl,g1,h⟩)) (fun hE=>⟨v',by simp [hr.len,hlt],by have:=r10 _ (hE.vext hr) rfl; simpa [QGx] using this⟩)
   refine ⟨v',_,hN.1,hN.2,rfl,?_,.value (by simp only [execOp,ho,resolve,invoke]; simp [h2,builtin,r1])⟩
   simp only [Val]
   obtain ⟨k,cp,r9⟩:=r9
   exact ⟨⟨k,_,cp,r9⟩,.inl ⟨e',1,l ++ s.map QF9,set_getElem?_self hc,by simp,fun _=>by simp [hr.len,hlt]⟩⟩
  ·exact hK.elim
 ·exact hK.elim

theorem QQd {x:Operand} {ts:Array TypeId} (ho:o.op = .call { callee:=.builtin .unsafeSliceData,args:=#[x],argTypes:=ts }) (hK:QQb ((opd x).ev T) H K):Out P o T H nid al K:=by
 unfold QQb at hK
 split at hK
 ·rename_i ob n hb
  split at hK
  ·rename_i e sz l hH
   obtain ⟨hn,hl,hK⟩:=hK
   refine QBs hH hK fun c a hr hv hc=>?_
   have h1:=hv x (by simp [ho,Op.operands,Call.operands])
   rw [hb] at h1
   obtain ⟨hm,h⟩:=QFm hr h1 hc hn
   rcases h with ⟨_,rfl⟩ | ⟨g,o0,cap,cur,h2,h3,h4,h5,h6,h7⟩
   ·exact (hl rfl).elim
   ·have hpos:0 < l.length:=List.length_pos_iff.2 hl
    have hcap:cap ≠ 0:=by omega
    have hrun:=Lib.run_unsafeSliceData_row (P:=P) c.w ts o.type ⟨g,o0,none⟩ l.length cap hcap
    refine ⟨.pointer (some ⟨g,o0,none⟩),by simp only [execOp,ho,resolve,invoke]; simp [h2,builtin,hrun],?_⟩
    simp only [Val]
    exact ⟨⟨_,rfl⟩,.inl ⟨e,sz,l,hc,by omega,fun _=>⟨g,_,cap,o0,by rw [hm,h2],by simp⟩⟩⟩
  ·exact hK.elim
 ·exact hK.elim

theorem QSc {x y:Operand} {pt it e:TypeId} (ho:o.op = .call { callee:=.builtin .unsafeString,args:=#[x,y],argTypes:=#[pt,it] }) (hp:P.underlying pt = some (.pointer e)) (hc1:P.cellsOf e = 1)
  (hs:QVS e ((opd x).ev T) ((opd y).ev T) H K):Out P o T H nid al K:=by
 unfold QVS at hs
 split at hs
 ·rename_i ob n m hx hy
  split at hs
  ·rename_i e' sz l hH
   obtain ⟨rfl,hn,hm,rfl,hl,hs⟩:=hs
   obtain ⟨t,ht,hs2⟩:=QNf hs
   obtain rfl:=QGh ht
   rw [List.length_map] at hn hm
   refine ⟨_,_,_,hs2,fun p hp=>.inl (by obtain rfl:=List.mem_singleton.1 hp; exact hH),by simp,.inl (fun p hp=>by obtain rfl:=List.mem_singleton.1 hp; exact hH),fun c a hr hv hp'=>?_⟩
   have hc:c.H[ob]? = some (.reg e' 1 (t.map QF9)):=hp' _ (List.mem_singleton.2 rfl)
   have h1:=hv x (by simp [ho,Op.operands,Call.operands])
   have h2:=hv y (by simp [ho,Op.operands,Call.operands])
   rw [hx] at h1; rw [hy] at h2
   simp only [Val] at h1 h2
   obtain ⟨_,h1⟩:=h1
   rcases h1 with ⟨e2,sz2,l2,g1,g2,g3⟩ | g1
   ·rw [hc] at g1; simp only [Option.some.injEq,AObj.reg.injEq] at g1
    obtain ⟨rfl,rfl,rfl⟩:=g1
    obtain ⟨g,len,cap,o0,g4,g5⟩:=g3 (by simpa using hn)
    obtain ⟨v0,g6,g7⟩:=hr.obj _ _ hc
    rw [g4] at g6; simp only [Option.some.injEq] at g6; subst g6
    rcases g7 with ⟨g8,_⟩ | ⟨g',o1,cap',cur,g8,g9,g10,g11,⟨g12,g12z⟩,g13⟩
    ·cases g8
    ·obtain rfl:=g12z rfl
     simp only [Value.slice.injEq,Option.some.injEq,Addr.mk.injEq,and_true] at g8
     obtain ⟨⟨rfl,rfl⟩,rfl,rfl⟩:=g8
     simp only [Nat.zero_mul,Nat.add_zero] at g5
     have hsh:c.w.shape? g = some (e',cur.size):=by simp [World.shape?,g9]
     have hl0:t ≠ []:=by simpa using hl
     rw [List.length_map] at g10
     have hrun:=Lib.run_unsafeString_row (P:=P) c.w pt it o.type e' hp hc1 g cur.size hsh t hl0 (by omega) (by simp only [maxLen] at g11; omega)
      (fun j y hj=>by
       obtain ⟨hlt,rfl⟩:=List.getElem?_eq_some_iff.1 hj
       rw [Addr.add_mid]
       exact QNg g13 j hlt)
     have hlt:ob < c.H.length:=(List.getElem?_eq_some_iff.1 hc).1
     have hne:∀ b,¬ (b = g) → (c.w.freeze ⟨g,0,none⟩ t.length).heap[b]? = c.w.heap[b]?:=fun b hb=>by
      unfold World.freeze
      split
      ·rfl
      ·simp only [Array.getElem?_modify]
       rw [if_neg (fun h=>hb h.symm)]
     have hsz:(c.w.freeze ⟨g,0,none⟩ t.length).heap.size = c.w.heap.size:=by
      unfold World.freeze
      split
      ·rfl
      ·simp
     have hsame:(c.w.freeze ⟨g,0,none⟩ t.length).os = c.w.os ∧ (c.w.freeze ⟨g,0,none⟩ t.length).tape = c.w.tape ∧ (c.w.freeze ⟨g,0,none⟩ t.length).output = c.w.output:=by
      unfold World.freeze
      split <;> exact ⟨rfl,rfl,rfl⟩
     have hN:=QC3 hr (o:=ob) (x':=.dead) (v':=.slice (some ⟨g,0,none⟩) (t.map QF9).length cap) (F':=c.F) (w':=c.w.freeze ⟨g,0,none⟩ t.length) hc (by simp [OStep]) (fun _ h=>h) (fun _ h=>.inl h)
      (fun b hb hnb=>hne b fun h=>hnb (h ▸ ⟨_,_,hc,rfl,g4,rfl⟩)) (Nat.le_of_eq hsz.symm) hsame.1 hsame.2.1 hsame.2.2 (fun b hb _=>by simp [AObj.alive] at hb) (fun _=>trivial)
     refine ⟨.string ⟨t.toArray⟩,_,hN.1,hN.2,rfl,by simp [Val],.value ?_⟩
     have e1:Value.int .i64 m = .int .i64 t.length:=by rw [hm]
     simp only [execOp,ho,resolve,invoke]
     simp [g5,h2,e1,builtin,hrun]
   ·rw [hc] at g1; cases g1
  ·exact hs.elim
 ·exact hs.elim

theorem QSd {t:TypeId} {x:Operand} {d:TypeDesc} (ho:o.op = .makeInterface t x) (ht:P.underlying t = some d) (hd:∀ ms,d ≠ .interface ms) (hK:QVT t ((opd x).ev T) K):Out P o T H nid al K:=by
 have hrun:∀ (a:Act) (w:World),(execOp a.eval o).run P w = .ok (.value (.iface t (a.eval x))) w:=fun a w=>by
  simp only [execOp,ho,Instr.makeInterface,Sem.run_bind,run_underlying ht,Result.andThen_ok]
  cases d <;> first | rfl | exact absurd rfl (hd _)
 unfold QVT at hK
 split at hK
 ·rename_i k n hb
  refine QAX hK fun c a hr hv=>?_
  have h1:=hv x (by simp [ho,Op.operands])
  rw [hb] at h1; simp only [Val] at h1
  exact ⟨_,hrun a c.w,by simp [Val,h1]⟩
 ·rename_i o' n hb
  refine QAX hK fun c a hr hv=>?_
  have h1:=hv x (by simp [ho,Op.operands])
  rw [hb] at h1
  refine ⟨_,hrun a c.w,?_⟩
  unfold Val
  exact ⟨_,rfl,h1⟩
 ·exact QAX hK fun c a hr hv=>⟨_,hrun a c.w,by simp [Val]⟩

theorem QNj {op:BinOp} {t t':TypeId} {ms:Array _} {x y:Operand} {neg:Bool} {ts:List Nat} (ho:o.op = .binOp op t x y t') (hop:op = if neg then .neq else .eql) (ht:P.underlying t = some (.interface ms))
  (hts:∀ u,ts.contains u = true → (P.info? u).map (·.comparable) = some true ∧ ∃ q,P.underlying u = some (.int q)) (hK:QVU neg ts ((opd x).ev T) ((opd y).ev T) K):Out P o T H nid al K:=by
 unfold QVU at hK
 split at hK
 ·rename_i u k a u' k' b hx hy
  obtain ⟨rfl,rfl,hc,hK⟩:=hK
  obtain ⟨h1,q,h2⟩:=hts _ hc
  refine QAX hK fun c ac hr hv=>?_
  have h3:=hv x (by simp [ho,Op.operands])
  have h4:=hv y (by simp [ho,Op.operands])
  rw [hx] at h3; rw [hy] at h4
  simp only [Val] at h3 h4
  have he:=Lib.run_eql_iface_int (P:=P) c.w (k:=k) a b ht h1 h2
  have g:(eqGuard op t x y (.iface u (.int k a)) (.iface u (.int k b))).run P c.w = .ok () c.w:=by
   cases neg <;> simp only [Bool.false_eq_true,if_false,if_true] at hop <;> subst hop <;> rfl
  refine ⟨.bool ((a == b) != neg),?_,by simp [Val]⟩
  simp only [execOp,ho,h3,h4,Sem.run_bind,g,Result.andThen_ok]
  cases neg <;> simp only [Bool.false_eq_true,if_false,if_true] at hop <;> subst hop
  ·rw [he]; simp
  ·have he2:(binOp .neq t (.iface u (.int k a)) (.iface u (.int k b))).run P c.w = .ok (.bool !(a == b)) c.w:=by
    simp only [binOp,Sem.run_bind] at he ⊢
    cases hq:(Op.equal t (.iface u (.int k a)) (.iface u (.int k b))).run P c.w with
    | ok r w'=>rw [hq] at he; simp at he ⊢; obtain ⟨rfl,rfl⟩:=he; simp
    | _=>rw [hq] at he; simp at he
   rw [he2]; simp
 ·exact hK.elim

def loO (lo:Option Operand):Opd:=match lo with | some y=>opd y | none=>.v (.int .i64 0)
def hiO (n:Nat) (hi:Option Operand):Opd:=match hi with | some y=>opd y | none=>.v (.int .i64 n)
theorem QVZ {t e:TypeId} {n:Nat} {i:TypeInfo} {x:Operand} {lo hi:Option Operand} {l h:Opd} (ho:o.op = .slice t x lo hi none) (ht:P.underlying t = some (.array n e)) (hi':P.info? e = some i) (hs1:i.size = 1)
  (hl:l = loO lo) (hh:h = hiO n hi) (hK:Qad n ((opd x).ev T) (l.ev T) (h.ev T) H K):Out P o T H nid al K:=by
 unfold Qad at hK
 split at hK
 ·rename_i ob k a k' b hx hlo hhi
  split at hK
  ·rename_i e' cs hH
   obtain ⟨hn,h0,hab,han,hbn,hK⟩:=hK
   refine QBs hH hK fun c ac hr hv hc=>?_
   have h1:=hv x (by simp [ho,Op.operands])
   rw [hx] at h1; simp only [Val] at h1
   obtain ⟨e2,cs2,bk,h2,h3,h4⟩:=h1
   rw [hc] at h2; simp only [Option.some.injEq,AObj.box.injEq] at h2
   obtain ⟨rfl,rfl⟩:=h2
   have q1:bdV (lo.map ac.eval) 0 a.toNat:=by
    cases lo with
    | none=>simp only [loO] at hl; subst hl; simp only [Opd.ev,AV.int.injEq] at hlo; exact .inl ⟨rfl,by omega⟩
    | some y=>
     simp only [loO] at hl; subst hl
     have h5:=hv y (by simp [ho,Op.operands])
     rw [hlo] at h5; simp only [Val] at h5
     exact .inr ⟨k,by simp only [Option.map_some,h5]; rw [Int.toNat_of_nonneg h0]⟩
   have q2:bdV (hi.map ac.eval) n b.toNat:=by
    cases hi with
    | none=>simp only [hiO] at hh; subst hh; simp only [Opd.ev,AV.int.injEq] at hhi; exact .inl ⟨rfl,by omega⟩
    | some y=>
     simp only [hiO] at hh; subst hh
     have h5:=hv y (by simp [ho,Op.operands])
     rw [hhi] at h5; simp only [Val] at h5
     exact .inr ⟨k',by simp only [Option.map_some,h5]; rw [Int.toNat_of_nonneg (by omega)]⟩
   have hb:=QDi (P:=P) (w:=c.w) (sl:=false) (len:=n) (cap:=n) q1 q2 (by omega) (by omega)
   have hne:¬ n = a.toNat:=by omega
   have e1:(Addr.mk bk 0 none).add (a.toNat * 1) = ⟨bk,a.toNat,none⟩:=by rw [Addr.add_mid]; simp
   refine ⟨.slice (some ⟨bk,a.toNat,none⟩) (b - a).toNat (n - a.toNat),?_,?_⟩
   ·have e2:b.toNat - a.toNat = (b - a).toNat:=by omega
    simp only [execOp,ho,h4,Instr.sliceAt,Sem.run_bind,run_underlying ht,Result.andThen_ok,Instr.sureAddr,Sem.run_pure,Option.map_none,hb,QBo hi',hs1,hne,if_false,e1,e2]
   ·simp only [Val]
    exact ⟨_,cs,bk,_,hc,h3,rfl⟩
  ·exact hK.elim
 ·exact hK.elim

end ops
end Go.Ab
namespace Go.Ab
open Go Go.MapKept
set_option linter.unusedSectionVars false
variable [Glob]

def QJf (x:AV) (H:List AObj) (nid:Nat) (K:SK):Prop:=
 match x with
 | .map o=>(match H[o]? with
  | some (.map kvs)=>K [(o,.map kvs),(nid,.unborn)] [(nid,.iter o kvs.length [])] (.it nid)
  | _=>False)
 | _=>False

def QJg (x:AV) (H:List AObj) (K:SK):Prop:=
 match x with
 | .it i=>(match H[i]? with
  | some (.iter m s l)=>(match H[m]? with
   | some (.map kvs)=>s = kvs.length ∧ (match l.getLast? with
    | some j=>(match kvs[j]? with
     | some p=>QB7 p.1 = false ∧ K [(i,.iter m s l),(m,.map kvs)] [] (.tup [p.1,p.2])
     | none=>False)
    | none=>False)
   | _=>False)
  | _=>False)
 | _=>False

def QOb (d:KD) (m k:AV) (H:List AObj) (K:SK):Prop:=
 match m with
 | .map o=>(match H[o]? with
  | some (.map kvs)=>QHg d k kvs ∧ K [(o,.map kvs)] [(o,.map (QDx k kvs))] (.tup [])
  | _=>False)
 | _=>False

theorem QH2 {c:Cx}:∀ {l:List (AV × AV)} {n:Nat} {es:List MapEntry},Kvs c l n es → (∀ e ∈ es,n ≤ e.born ∧ e.born < n + l.length) ∧ (es.map (·.born)).Nodup
 | [],n,es,h=>by simp only [Kvs] at h; subst h; simp
 | p :: r,n,es,h=>by
  simp only [Kvs] at h
  split at h
  ·obtain ⟨h1,h2⟩:=QH2 h
   exact ⟨fun e he=>by have:=h1 e he; simp only [List.length_cons]; omega,h2⟩
  ·obtain ⟨e,es',rfl,_,_,hb,h⟩:=h
   obtain ⟨h1,h2⟩:=QH2 h
   refine ⟨fun x hx=>?_,?_⟩
   ·rcases List.mem_cons.1 hx with rfl | hx
    ·simp only [List.length_cons]; omega
    ·have:=h1 x hx; simp only [List.length_cons]; omega
   ·simp only [List.map_cons,List.nodup_cons]
    refine ⟨fun hm=>?_,h2⟩
    obtain ⟨x,hx,he⟩:=List.mem_map.1 hm
    have:=h1 x hx; omega

theorem QKd {c:Cx}:∀ {l:List (AV × AV)} {n:Nat} {es:List MapEntry} {j:Nat} {p:AV × AV},Kvs c l n es → l[j]? = some p → QB7 p.1 = false → ∃ e ∈ es,e.born = n + j ∧ Val c p.1 e.key ∧ Val c p.2 e.val
 | [],_,_,_,_,_,h,_=>by simp at h
 | q :: r,n,es,j,p,h,hj,hg=>by
  simp only [Kvs] at h
  cases j with
  | zero=>
   simp at hj; subst hj
   rw [if_neg (by simp [hg])] at h
   obtain ⟨e,es',rfl,h1,h2,h3,_⟩:=h
   exact ⟨e,by simp,by omega,h1,h2⟩
  | succ j=>
   simp at hj
   split at h
   ·obtain ⟨e,he,h1,h2⟩:=QKd h hj hg
    exact ⟨e,he,by omega,h2⟩
   ·obtain ⟨e,es',rfl,_,_,_,h⟩:=h
    obtain ⟨e,he,h1,h2⟩:=QKd h hj hg
    exact ⟨e,by simp [he],by omega,h2⟩

theorem QMh {c:Cx}:∀ {l:List (AV × AV)} {n:Nat} {es:List MapEntry} {e:MapEntry},Kvs c l n es → e ∈ es → ∃ j p,l[j]? = some p ∧ QB7 p.1 = false ∧ e.born = n + j ∧ Val c p.1 e.key ∧ Val c p.2 e.val
 | [],_,es,e,h,he=>by simp only [Kvs] at h; subst h; simp at he
 | q :: r,n,es,e,h,he=>by
  simp only [Kvs] at h
  split at h
  ·obtain ⟨j,p,h1,h2,h3,h4⟩:=QMh h he
   exact ⟨j + 1,p,by simpa using h1,h2,by omega,h4⟩
  ·rename_i hg
   obtain ⟨e0,es',rfl,h1,h2,h3,h⟩:=h
   rcases List.mem_cons.1 he with rfl | he
   ·exact ⟨0,q,rfl,by simpa using hg,by omega,h1,h2⟩
   ·obtain ⟨j,p,h1,h2,h3,h4⟩:=QMh h he
    exact ⟨j + 1,p,by simpa using h1,h2,by omega,h4⟩

theorem QQe {c:Cx} (hr:Rel c) {i m s:Nat} {l:List Nat} {kvs:List (AV × AV)} {v:Value} (hv:Val c (.it i) v) (hi:c.H[i]? = some (.iter m s l)) (hm:c.H[m]? = some (.map kvs)):
  ∃ b r es,v = .pointer (some ⟨b,0,none⟩) ∧ c.μ[i]? = some v ∧ c.w.heap[b]? = some (.mapIter (some r) s l.toArray s) ∧ c.μ[m]? = some (.map (some r)) ∧ c.w.heap[r]? = some (.map es kvs.length) ∧ Kvs c kvs 0 es.toList:=by
 simp only [Val] at hv
 obtain ⟨_,_,_,b,_,h1,h2⟩:=hv
 obtain ⟨b',r,_,h3,h4,_,h5⟩:=hr.obj _ _ hi
 rw [h1] at h3; simp at h3; subst h3
 obtain ⟨r',es,h6,h7,h8⟩:=hr.obj _ _ hm
 rw [h5] at h6; simp at h6; subst h6
 exact ⟨b,r,es,h2,by rw [h2]; exact h1,h4,h5,h7,h8⟩

def QOc (e sz bytes:Nat) (zero:List AV) (x y:AV) (nid:Nat) (K:SK):Prop:=
 match x,y with
 | .int _ n,.int _ m=>n = m ∧ 0 ≤ n ∧ QOA bytes n.toNat ∧ K [(nid,.unborn)] [(nid,.reg e sz (List.replicate n.toNat zero))] (.own nid n.toNat)
 | _,_=>False

section ops
variable {P:Program} {o:Oper} {T:List AV} {H:List AObj} {nid:Nat} {al:Bool} {K:SK}

theorem QQf {t kt et:TypeId} {x:Operand} (hal:al = true) (ho:o.op = .range t x) (ht:P.underlying t = some (.map kt et)) (hs:QJf ((opd x).ev T) H nid K):Out P o T H nid al K:=by
 unfold QJf at hs
 split at hs
 ·rename_i ob hb
  split at hs
  ·rename_i kvs hH
   refine ⟨_,_,_,hs,fun p hp=>?_,by simp,.inr ⟨hal,[],_,rfl,by simp⟩,fun c a hr hv hp=>?_⟩
   ·simp only [List.mem_cons,List.not_mem_nil,or_false] at hp
    rcases hp with rfl | rfl
    ·exact .inl hH
    ·exact .inr rfl
   have hc:c.H[ob]? = some (.map kvs):=hp (ob,.map kvs) (by simp)
   have hu:c.H[nid]? = some .unborn:=hp (nid,.unborn) (by simp)
   have hlt:nid < c.H.length:=(List.getElem?_eq_some_iff.1 hu).1
   have hne:nid ≠ ob:=fun e=>by rw [e,hc] at hu; cases hu
   have h1:=hv x (by simp [ho,Op.operands])
   rw [hb] at h1; simp only [Val] at h1
   obtain ⟨_,r,_,h3,h4⟩:=h1
   obtain ⟨r',es,h5,h6,h7⟩:=hr.obj _ _ hc
   rw [h3] at h5; simp at h5; subst h5
   have hN:=QFx (c:=c) hr (nid:=nid) (x':=.iter ob kvs.length []) (v':=.pointer (some ⟨c.w.heap.size,0,none⟩)) (.mapIter (some r) kvs.length #[] kvs.length) hu (fun b hb=>by simpa [blk] using hb.symm) (fun F hE hm=>
    ⟨c.w.heap.size,r,kvs,hm,QCT c.w _,by show (c.H.set nid _)[ob]? = _; rw [List.getElem?_set_ne hne]; exact hc,by show (c.μ.set nid _)[ob]? = _; rw [List.getElem?_set_ne hne]; exact h3⟩)
   refine ⟨_,_,hN.1,hN.2,rfl,?_,.value (v:=.pointer (some ⟨c.w.heap.size,0,none⟩)) ?_⟩
   ·simp only [Val]
    exact ⟨_,_,_,c.w.heap.size,set_getElem?_self hu,by simp [hr.len,hlt],rfl⟩
   ·have:=run_range_map c.w t kt et r es kvs.length ht h6
    simp only [execOp,ho,h4,Sem.run_bind,this,Result.andThen_ok,Sem.run_pure]
  ·exact hs.elim
 ·exact hs.elim

theorem QQg {x:Operand} (ho:o.op = .entry x) (hs:QJg ((opd x).ev T) H K):Out P o T H nid al K:=by
 unfold QJg at hs
 split at hs
 ·rename_i i hb
  split at hs
  ·rename_i m s l hi
   split at hs
   ·rename_i kvs hm
    obtain ⟨rfl,hs⟩:=hs
    split at hs
    ·rename_i j hl
     split at hs
     ·rename_i p hj
      obtain ⟨hg,hs⟩:=hs
      refine ⟨_,_,_,hs,fun p hp=>?_,by simp,.inl fun p hp=>?_,.pure fun c a hr hv hp=>?_⟩
      ·simp only [List.mem_cons,List.not_mem_nil,or_false] at hp
       rcases hp with rfl | rfl
       ·exact .inl hi
       ·exact .inl hm
      ·simp only [List.mem_cons,List.not_mem_nil,or_false] at hp
       rcases hp with rfl | rfl
       ·exact hi
       ·exact hm
      have h1:=hv x (by simp [ho,Op.operands])
      rw [hb] at h1
      obtain ⟨b,r,es,h2,_,h3,_,h4,h5⟩:=QQe hr h1 (hp (i,.iter m kvs.length l) (by simp)) (hp (m,.map kvs) (by simp))
      obtain ⟨e,he,h6,h7,h8⟩:=QKd h5 hj hg
      have hls:l.toArray = l.dropLast.toArray.push e.born:=by
       obtain ⟨l0,rfl⟩:=List.getLast?_eq_some_iff.1 hl
       simp [h6]
      rw [hls] at h3
      refine ⟨.tuple #[e.key,e.val],?_,?_⟩
      ·have:=run_entry_at (P:=P) c.w b r kvs.length l.dropLast.toArray es kvs.length e h3 h4 he (QH2 h5).2
       simp only [execOp,ho,h2,Sem.run_bind,this,Result.andThen_ok,Sem.run_pure]
      ·simp only [Val]
       exact ⟨#[e.key,e.val],rfl,by simp only [QA3]; exact ⟨e.key,[e.val],rfl,h7,e.val,[],rfl,h8,rfl⟩⟩
     ·exact hs.elim
    ·exact hs.elim
   ·exact hs.elim
  ·exact hs.elim
 ·exact hs.elim

theorem QSe {t kt et:TypeId} {m k:Operand} {ts:TypeId} {d:KD} (ho:o.op = .call { callee:=.builtin .delete,args:=#[m,k],argTypes:=#[t,ts] }) (ht:P.underlying t = some (.map kt et)) (hd:QL5 P kt = some d)
  (hs:QOb d ((opd m).ev T) ((opd k).ev T) H K):Out P o T H nid al K:=by
 unfold QOb at hs
 split at hs
 ·rename_i ob hb
  split at hs
  ·rename_i kvs hH
   obtain ⟨⟨hk,hks⟩,hs⟩:=hs
   refine ⟨[(ob,.map kvs)],_,_,hs,fun p hp=>.inl (by simp at hp; subst hp; exact hH),by simp,.inl (fun p hp=>by simp at hp; subst hp; exact hH),fun c a hr hv hp=>?_⟩
   have hc:c.H[ob]? = some (.map kvs):=hp (ob,.map kvs) (by simp)
   have hlt:ob < c.H.length:=(List.getElem?_eq_some_iff.1 hc).1
   have h1:=hv m (by simp [ho,Op.operands,Call.operands])
   have h2:=hv k (by simp [ho,Op.operands,Call.operands])
   rw [hb] at h1; simp only [Val] at h1
   obtain ⟨kvs',r,_,h3,h4⟩:=h1
   obtain ⟨r',es,h5,h6,h7⟩:=hr.obj _ _ hc
   rw [h3] at h5; simp at h5; subst h5
   have hdd:=QFJ hd
   have hkey:=(QGf hk hk h2 h2).1
   have hck:=run_checkKey (P:=P) (w:=c.w) hdd hkey es.isEmpty 9999
   have main:∀ (es':Array MapEntry),(execOp a.eval o).run P c.w = .ok (.value (.tuple #[])) { c.w with heap:=c.w.heap.setIfInBounds r (.map es' (QDx ((opd k).ev T) kvs).length) } → (∀ c',QIx c c' → Kvs c' (QDx ((opd k).ev T) kvs) 0 es'.toList) →
     ∃ v c',Rel c' ∧ Ext c c' ∧ c'.H = QGC c.H [(ob,.map (QDx ((opd k).ev T) kvs))] ∧ Val c' (.tup []) v ∧ StepTo P o a c.w v c'.w:=fun es' he hkv=>by
    obtain ⟨hs1,hs2⟩:=heap_set (o':=.map es' (QDx ((opd k).ev T) kvs).length) h6
    have hN:=QC3 hr (o:=ob) (x':=.map (QDx ((opd k).ev T) kvs)) (v':=.map (some r)) (F':=c.F) (w':={ c.w with heap:=c.w.heap.setIfInBounds r (.map es' (QDx ((opd k).ev T) kvs).length) }) hc (by simp [OStep,h3]) (fun _ h=>h) (fun _ h=>.inl h)
     (fun b hb' hnb=>hs2 b (fun e=>hnb ⟨_,_,hc,rfl,h3,by simp [blk,e]⟩)) (by simp) rfl rfl rfl (fun b _ hb'=>.inr ⟨_,_,hc,rfl,h3,hb'⟩)
     (fun hE=>⟨r,es',by simp [hr.len,hlt],hs1,hkv _ (hE.vext hr)⟩)
    exact ⟨_,_,hN.1,hN.2,rfl,by simp only [Val,QA3]; exact ⟨#[],rfl,rfl⟩,.value he⟩
   have hexec:∀ w',(Builtin.delete_ #[t,ts] o.type #[.map (some r),a.eval k]).run P c.w = .ok (.tuple #[]) w' → (execOp a.eval o).run P c.w = .ok (.value (.tuple #[])) w':=fun w' h=>by
    simp [execOp,ho,resolve,invoke,builtin,h4,h]
   rcases QIl hk h2 kvs 0 es.toList 0 h7 hks with ⟨h8,h9,h10,h11⟩ | ⟨j,e,xa,h8,h9,h10,h11,h12,h13,h14,h15⟩
   ·have hf:=run_findKey (P:=P) (w:=c.w) hdd h8
    refine main es (hexec _ ?_) fun c' hE=>?_
    ·simp only [Builtin.delete_,List.getElem?_toArray,List.getElem?_cons_zero,List.getElem?_cons_succ,Sem.run_bind,run_underlying ht,Result.andThen_ok,MapKept.run_getObj_map h6,hck,hf,MapKept.run_setObj_map _ h6,Sem.run_pure,QFL]
    ·rw [h11]; exact QEe hE _ _ _ h7
   ·rw [Nat.zero_add] at h8
    have hf:=run_findKey (P:=P) (w:=c.w) hdd h8
    have hjl:j < es.size:=by have:=(List.getElem?_eq_some_iff.1 h9).1; simpa using this
    refine main (es.eraseIdxIfInBounds j) (hexec _ ?_) fun c' hE=>?_
    ·simp only [Builtin.delete_,List.getElem?_toArray,List.getElem?_cons_zero,List.getElem?_cons_succ,Sem.run_bind,run_underlying ht,Result.andThen_ok,MapKept.run_getObj_map h6,hck,hf,MapKept.run_setObj_map _ h6,Sem.run_pure,QFL]
    ·have:=h15 c' hE
     rw [Array.eraseIdxIfInBounds,dif_pos hjl,Array.toList_eraseIdx]
     exact this
  ·exact hs.elim
 ·exact hs.elim
theorem QSf {t e:TypeId} {x y:Operand} {i:TypeInfo} {z:Value} (hal:al = true) (ho:o.op = .makeSlice t x y) (ht:P.underlying t = some (.slice e)) (hi:P.info? e = some i) (hz:i.zero = some z) (hzs:z.cells.size = i.size) (_h0:0 < i.size) (h1:z.cells.all (·.oneCell') = true)
  (hs:QOc e i.size i.bytes (z.cells.toList.map QD6) ((opd x).ev T) ((opd y).ev T) nid K):Out P o T H nid al K:=by
 unfold QOc at hs
 split at hs
 ·rename_i k1 n k2 m hx hy
  obtain ⟨rfl,hn,hfit,hs⟩:=hs
  refine ⟨_,_,_,hs,by simp,by simp,.inr ⟨hal,[],_,rfl,by simp⟩,fun c a hr hv hp=>?_⟩
  have hu:c.H[nid]? = some .unborn:=hp (nid,.unborn) (by simp)
  have hlt:nid < c.H.length:=(List.getElem?_eq_some_iff.1 hu).1
  have e1:=hv x (by simp [ho,Op.operands])
  have e2:=hv y (by simp [ho,Op.operands])
  rw [hx] at e1; rw [hy] at e2; simp only [Val] at e1 e2
  have hml:=hfit.1
  have hby:=hfit.2
  have hml':n ≤ 9223372036854775807:=by simp only [maxLen] at hml; omega
  have hb':(i.bytes:Int) * n ≤ 281474976710656:=by
   have h:((n.toNat * i.bytes:Nat):Int) ≤ 140737488355328:=by omega
   rw [Int.natCast_mul,Int.toNat_of_nonneg hn,Int.mul_comm] at h
   omega
  have hrun:=run_make (P:=P) c.w t e i z ht hi hz k1 k2 n n hn (Int.le_refl _) hb' hml'
  have hN:=QFx (c:=c) hr (nid:=nid) (x':=.reg e i.size (List.replicate n.toNat (z.cells.toList.map QD6))) (v':=.slice (some ⟨c.w.heap.size,0,none⟩) n.toNat n.toNat) (.cells (madeCells z.cells (n.toNat * i.size)) e) hu (fun b hb=>by simpa [blk] using hb.symm)
   (fun F hE hm=>⟨_,hm,.inr ⟨c.w.heap.size,0,n.toNat,_,by rw [List.length_replicate],QCT c.w _,by rw [List.length_replicate]; exact Nat.le_refl _,hml,⟨by rw [size_madeCells]; omega,fun _=>rfl⟩,by
    rw [QA9]
    intro k r hk
    rw [List.getElem?_replicate] at hk
    split at hk
    ·rename_i hkn
     cases hk
     refine ⟨by simp [hzs],?_⟩
     rw [QCE]
     intro j q hj
     rw [List.getElem?_map] at hj
     cases hzj:z.cells.toList[j]? with
     | none=>rw [hzj] at hj; cases hj
     | some v=>
      rw [hzj] at hj; cases hj
      obtain ⟨hjl,hjv⟩:=List.getElem?_eq_some_iff.1 hzj
      have hjs:j < i.size:=by rw [← hzs]; simpa using hjl
      refine ⟨v,?_,?_,QGu _ v⟩
      ·show (c.w.alloc _).cell? _ = _
       rw [World.cell?_alloc_new]
       have hlt2:0 + k * i.size + j < n.toNat * i.size:=by
        have:(k + 1) * i.size ≤ n.toNat * i.size:=Nat.mul_le_mul_right _ hkn
        rw [Nat.add_mul,Nat.one_mul] at this
        omega
       have hmod:(0 + k * i.size + j) % z.cells.size = j:=by
        rw [hzs,Nat.zero_add,Nat.mul_comm,Nat.mul_add_mod,Nat.mod_eq_of_lt hjs]
       have hjz:j < z.cells.size:=by rw [hzs]; exact hjs
       simp only [madeCells,Array.getElem?_map,Array.getElem?_range,hlt2,if_true,Option.map_some,hmod]
       rw [getElem!_pos z.cells j hjz,← hjv]
       rfl
      ·exact (Array.all_eq_true_iff_forall_mem.1 h1) v (by rw [← hjv]; simp)
    ·cases hk⟩⟩)
  refine ⟨_,_,hN.1,hN.2,rfl,?_,.value (v:=.slice (some ⟨c.w.heap.size,0,none⟩) n.toNat n.toNat) ?_⟩
  ·simp only [Val]
   exact ⟨⟨_,_,_,rfl⟩,.inl ⟨e,i.size,_,set_getElem?_self hu,by rw [List.length_replicate]; exact Nat.le_refl _,fun _=>by simp [hr.len,hlt]⟩⟩
  ·simp only [execOp,ho,e1,e2,Sem.run_bind,hrun,Result.andThen_ok,Sem.run_pure]
 ·exact hs.elim

end ops

def QGi (x:AV) (H:List AObj) (K:List AObj → AV → Prop):Prop:=
 match x with
 | .it i=>(match H[i]? with
  | some (.iter m s l)=>(match H[m]? with
   | some (.map kvs)=>s = kvs.length ∧ ((∀ j p,kvs[j]? = some p → QB7 p.1 = false → j ∈ l) → K H (.tup [.bool false])) ∧
     ∀ j k v,kvs[j]? = some (k,v) → QB7 k = false → j ∉ l → K (H.set i (.iter m s (l ++ [j]))) (.tup [.bool true,k,v])
   | _=>False)
  | _=>False)
 | _=>False

def QNk (P:Program) (o:Oper) (T:List AV) (H:List AObj) (X:List AObj → AV → Prop):Prop:=
 ∀ (c:Cx) (a:Act),Rel c → c.H = H → Fr c T a → ∀ (next:Act → World → Prop) (Q:Exit → Act → World → Prop),
  (∀ v c' val,X c'.H val → Rel c' → Ext c c' → Val c' val v → next (a.put o.dst v) c'.w) → o.wp P a c.w next Q

theorem QQh {P:Program} {o:Oper} {T:List AV} {H:List AObj} {K:List AObj → AV → Prop} {x:Operand} {ty:Bool} (ho:o.op = .next x ty) (hty:ty = false) (h:QGi ((opd x).ev T) H K):QNk P o T H K:=by
 subst hty
 unfold QGi at h
 split at h
 ·rename_i i hb
  split at h
  ·rename_i m s l hi
   split at h
   ·rename_i kvs hm
    obtain ⟨rfl,hA,hB⟩:=h
    intro c a hr hH hF next Q hn
    subst hH
    have h1:=QIL hF x
    rw [hb] at h1
    obtain ⟨b,r,es,h2,h3,h4,h5,h6,h7⟩:=QQe hr h1 hi hm
    have hbd:=QH2 h7
    have hold:∀ x ∈ es.toList,x.born < kvs.length:=fun x hx=>by have:=(hbd.1 x hx).2; omega
    rcases run_next_at (P:=P) c.w o.type b r kvs.length kvs.length l.toArray es kvs.length h4 h6 hold (Nat.le_refl _) with ⟨h0,hrun⟩ | ⟨e,he,w1,hw1,hrun⟩
    ·refine StepTo.value (v:=.tuple #[.bool false]) (w':=c.w) ?_ next Q ?_
     ·simp only [execOp,ho,h2,Sem.run_bind,hrun,Result.andThen_ok,Sem.run_pure]
     ·refine hn _ c _ (hA fun j p hj hg=>?_) hr (.refl c) (by simp only [Val,QA3]; exact ⟨_,rfl,_,_,rfl,rfl,rfl⟩)
      obtain ⟨e,he,h8,_⟩:=QKd h7 hj hg
      have h9:∀ x ∈ es.toList,l.toArray.contains x.born = true:=fun x hx=>by
       cases hc:l.toArray.contains x.born
       ·have:x ∈ (leftOf es l.toArray).toList:=by
         unfold leftOf; simp only [Array.toList_filter,List.mem_filter,hc,Bool.not_false,and_true]; exact hx
        rw [Array.size_eq_length_toList] at h0
        rw [List.eq_nil_of_length_eq_zero h0] at this
        simp at this
       ·rfl
      have:=h9 e he
      rw [h8] at this
      simpa using this
    ·have hem:e ∈ es.toList ∧ l.toArray.contains e.born = false:=by
      unfold leftOf at he; simp only [Array.toList_filter,List.mem_filter] at he
      exact ⟨he.1,by simpa using he.2⟩
     obtain ⟨j,p,hj,hg,hbj,hk,hv⟩:=QMh h7 hem.1
     rw [Nat.zero_add] at hbj
     have hnl:j ∉ l:=by have:=hem.2; rw [hbj] at this; simpa using this
     have hdr:∃ c1:Cx,c1.w = w1 ∧ c1.H = c.H ∧ c1.μ = c.μ ∧ Rel c1 ∧ Ext c c1:=by
      rcases hw1 with rfl | rfl
      ·exact ⟨c,rfl,rfl,rfl,hr,.refl c⟩
      ·obtain ⟨g1,g2⟩:=QND hr
       exact ⟨{ c with w:=c.w.drew },rfl,rfl,rfl,g1,g2⟩
     obtain ⟨c1,rfl,hH1,hm1,hr1,hE1⟩:=hdr
     have hi1:c1.H[i]? = some (.iter m kvs.length l):=by rw [hH1]; exact hi
     have hlt:i < c1.H.length:=(List.getElem?_eq_some_iff.1 hi1).1
     have hne:i ≠ m:=fun e=>by rw [e,hm] at hi; cases hi
     have hb1:c1.w.heap[b]? = some (.mapIter (some r) kvs.length l.toArray kvs.length):=by
      obtain ⟨b',r',_,g1,g2,_,g3⟩:=hr1.obj _ _ hi1
      rw [hm1,h3,h2] at g1; simp at g1; subst g1
      rw [hm1,h5] at g3; simp at g3; subst g3
      exact g2
     obtain ⟨hs1,hs2⟩:=heap_set (o':=.mapIter (some r) kvs.length (l.toArray.push e.born) kvs.length) hb1
     have hmi:c1.μ[i]? = some (.pointer (some ⟨b,0,none⟩)):=by rw [hm1,h3,h2]
     have hN:=QC3 hr1 (o:=i) (x':=.iter m kvs.length (l ++ [j])) (v':=.pointer (some ⟨b,0,none⟩)) (F':=c1.F) (w':={ c1.w with heap:=c1.w.heap.setIfInBounds b (.mapIter (some r) kvs.length (l.toArray.push e.born) kvs.length) }) hi1 (by simp [OStep,hmi]) (fun _ h=>h) (fun _ h=>.inl h)
      (fun b' hb' hnb=>hs2 b' (fun e=>hnb ⟨_,_,hi1,rfl,hmi,by simp [blk,e]⟩)) (by simp) rfl rfl rfl (fun b' _ hb'=>.inr ⟨_,_,hi1,rfl,hmi,hb'⟩)
      (fun hE=>⟨b,r,kvs,by simp [hr1.len,hlt],by rw [hbj] at hs1; simpa [hbj] using hs1,by show (c1.H.set i _)[m]? = _; rw [List.getElem?_set_ne hne,hH1]; exact hm,by show (c1.μ.set i _)[m]? = _; rw [List.getElem?_set_ne hne,hm1]; exact h5⟩)
     refine StepTo.value (v:=.tuple #[.bool true,e.key,e.val]) (w':={ c1.w with heap:=c1.w.heap.setIfInBounds b (.mapIter (some r) kvs.length (l.toArray.push e.born) kvs.length) }) ?_ next Q ?_
     ·simp only [execOp,ho,h2,Sem.run_bind,hrun,Result.andThen_ok,Sem.run_pure]
      rfl
     ·refine hn _ _ (.tup [.bool true,p.1,p.2]) ?_ hN.1 (hE1.trans hN.2) ?_
      ·have:=hB j p.1 p.2 hj hg hnl
       rw [← hH1] at this; exact this
      ·have hE:=hE1.trans hN.2
       simp only [Val,QA3]
       exact ⟨_,rfl,_,_,rfl,rfl,_,_,rfl,hE.val hr hk,_,_,rfl,hE.val hr hv,rfl⟩
   ·exact h.elim
  ·exact h.elim
 ·exact h.elim
end Go.Ab
namespace Go.Ab
open Go
set_option linter.unusedSectionVars false
variable [Glob]

inductive AOp where
 | mov (x:Opd)
 | pick (q a b:Opd)
 | alloc (e:Nat) (zero:List AV)
 | box (e:Nat) (x:Opd)
 | build (zero:List AV) (parts:List (Nat × Nat × Opd))
 | bslice (e sz:Nat) (own:Bool) (parts:List Opd)
 | load (n:Option Nat) (x:Opd)
 | store (n:Option Nat) (a x:Opd)
 | nilchk (x:Opd)
 | bin (op:BinOp) (x y:Opd)
 | binb (neg:Bool) (x y:Opd)
 | eqs (neg:Bool) (ds:List (Option KD)) (x y:Opd)
 | un (op:UnOp) (x:Opd)
 | conv (k:IntKind) (x:Opd)
 | mkfn (fn:Fn) (first caps:List Opd)
 | faddr (off:Nat) (x:Opd)
 | field (off:Nat) (n:Option Nat) (x:Opd)
 | iaddr (arr:Option Nat) (sz:Nat) (x i:Opd)
 | idx (x i:Opd)
 | len (lk:LK) (x:Opd)
 | append (e sz bytes:Nat) (x y:Opd)
 | call (f:Opd) (args:List Opd)
 | extract (x:Opd) (i:Nat)
 | mkmap
 | lookup (d:KD) (zero:AV) (ok:Bool) (m k:Opd)
 | mapset (d:KD) (m k x:Opd)
 | slice (lk:LK) (sz:Nat) (x:Opd) (lo hi:Option Opd)
 | eqnil (neg:Bool) (x:Opd)
 | ext (k:XK) (xs:List Opd)
 | mrange (x:Opd)
 | mksl (e sz bytes:Nat) (zero:List AV) (x y:Opd)
 | mnext (x:Opd)
 | mentry (x:Opd)
 | mdel (d:KD) (m k:Opd)

def QGj (P:Program) (t:TypeId):Option Value:=(P.info? t).bind (·.zero)

theorem QCV {P:Program} {t:TypeId} {z:Value} (h:QGj P t = some z):∃ i,P.info? t = some i ∧ i.zero = some z:=by
 unfold QGj at h
 cases hi:P.info? t with
 | none=>simp [hi] at h
 | some i=>simp [hi] at h; exact ⟨i,rfl,h⟩

def QEn (P:Program) (c:Call):Option AOp:=
 match c with
 | ⟨.builtin .len,⟨[x]⟩,⟨[t]⟩⟩=>(QZj P t).map fun lk=>.len lk (opd x)
 | ⟨.builtin .append,⟨[x,y]⟩,⟨[t,t']⟩⟩=>
  if t' = t then (match P.underlying t with
   | some (.slice e)=>(match P.info? e,QGj P e with
    | some i,some z=>if z.cells.size = i.size then some (.append e i.size i.bytes (opd x) (opd y)) else none
    | _,_=>none)
   | _=>none) else none
 | ⟨.builtin .delete,⟨[m,k]⟩,⟨[t,_]⟩⟩=>(match P.underlying t with
  | some (.map kt _)=>(QL5 P kt).map fun d=>.mdel d (opd m) (opd k)
  | _=>none)
 | ⟨.value f,args,_⟩=>some (.call (opd f) (args.toList.map opd))
 | _=>none

def QFc (P:Program) (op:BinOp) (t:TypeId) (x y:Operand):Option AOp:=
 match P.underlying t with
 | some (.int _) | some .string=>if op = .shl ∨ op = .shr then none else some (.bin op (opd x) (opd y))
 | some .bool=>if op = .eql then some (.binb false (opd x) (opd y)) else if op = .neq then some (.binb true (opd x) (opd y)) else none
 | some (.struct _)=>if QHF P t then (if op = .eql then some (.eqs false (QH1 P t) (opd x) (opd y)) else if op = .neq then some (.eqs true (QH1 P t) (opd x) (opd y)) else none) else none
 | some (.slice _)=>(match y with
  | .const (.slice none 0 0)=>if op = .eql then some (.eqnil false (opd x)) else if op = .neq then some (.eqnil true (opd x)) else none
  | _=>none)
 | _=>none

def QA7 (P:Program) (own:Bool) (o:Oper):Option AOp:=
 match o.op with
 | .move x=>some (.mov (opd x))
 | .assign x=>some (.mov (opd x))
 | .pick q a b=>some (.pick (opd q) (opd a) (opd b))
 | .alloc e=>(match QGj P e with | some z=>if z.cells.all (·.oneCell') then some (.alloc e (z.cells.toList.map QD6)) else none | none=>none)
 | .box e x=>some (.box e (opd x))
 | .build t parts=>(match P.underlying t,QGj P t with
  | some (.struct fields),some z=>if z.cells.all (·.oneCell') ∧ fields.toList.all (fun f=>(P.info? f.type).isSome) then (QCy P fields parts.toList).map fun l=>.build (z.cells.toList.map QD6) l else none
  | some (.array _ e),some z=>if z.cells.all (·.oneCell') ∧ (P.info? e).isSome ∧ parts.toList.length = 0 then some (.build (z.cells.toList.map QD6) []) else none
  | _,_=>none)
 | .buildSlice t n parts=>(match P.underlying t with
  | some (.slice e)=>(match P.info? e,QGj P e with
   | some i,some _=>if parts.toList.map (·.1) = List.range n ∧ n * i.size ≤ 2 ^ 24 ∧ (n * i.size ≠ 0 ∨ n = 0) ∧ n ≤ 2 ^ 24 then some (.bslice e i.size own (parts.toList.map fun p=>opd p.2)) else none
   | _,_=>none)
  | _=>none)
 | .load t x=>(QDo P t).map fun n=>.load n (opd x)
 | .store t a x=>(QDo P t).map fun n=>.store n (opd a) (opd x)
 | .nilCheck x=>some (.nilchk (opd x))
 | .binOp op t x y _=>QFc P op t x y
 | .unOp op _ x=>some (.un op (opd x))
 | .convert s d x=>(match P.underlying s,P.underlying d with | some (.int _),some (.int k)=>some (.conv k (opd x)) | _,_=>none)
 | .makeFunc fn first caps=>some (.mkfn fn (first.toList.map opd) (caps.toList.map opd))
 | .fieldAddr s x f=>(match P.underlying s with
  | some (.struct fs)=>(match fs[f]? with
   | some fd=>(match P.info? fd.type with | some i=>if i.size = 0 then none else some (.faddr fd.offset (opd x)) | none=>none)
   | none=>none)
  | _=>none)
 | .field s x f=>(match P.underlying s with
  | some (.struct fs)=>(match fs[f]? with
   | some fd=>(QDo P fd.type).map fun n=>.field fd.offset n (opd x)
   | none=>none)
  | _=>none)
 | .indexAddr t x y=>(match P.underlying t with
  | some (.slice e)=>(P.info? e).map fun i=>.iaddr none i.size (opd x) (opd y)
  | some (.array n e)=>(P.info? e).map fun i=>.iaddr (some n) i.size (opd x) (opd y)
  | _=>none)
 | .index t x y=>(match P.underlying t with | some .string=>some (.idx (opd x) (opd y)) | _=>none)
 | .call c=>QEn P c
 | .extract x i=>some (.extract (opd x) i)
 | .makeMap _ none=>some .mkmap
 | .lookup t m k ok=>(match P.underlying t with
  | some (.map kt et)=>(match QL5 P kt,QGj P et with | some d,some z=>some (.lookup d (ofValue z) ok (opd m) (opd k)) | _,_=>none)
  | _=>none)
 | .mapUpdate t m k x | .insert t m k x=>(match P.underlying t with
  | some (.map kt _)=>(QL5 P kt).map fun d=>.mapset d (opd m) (opd k) (opd x)
  | _=>none)
 | .slice t x lo hi none=>(match P.underlying t with
  | some .string=>some (.slice .str 0 (opd x) (lo.map opd) (hi.map opd))
  | some (.slice e)=>(P.info? e).map fun i=>.slice .sl i.size (opd x) (lo.map opd) (hi.map opd)
  | _=>none)
 | .range t x=>(match P.underlying t with
  | some (.map _ _)=>some (.mrange (opd x))
  | _=>none)
 | .next x false=>some (.mnext (opd x))
 | .entry x=>some (.mentry (opd x))
 | .makeSlice t x y=>(match P.underlying t with
  | some (.slice e)=>(match P.info? e,QGj P e with
   | some i,some z=>if z.cells.size = i.size ∧ 0 < i.size ∧ z.cells.all (·.oneCell') = true then some (.mksl e i.size i.bytes (z.cells.toList.map QD6) (opd x) (opd y)) else none
   | _,_=>none)
  | _=>none)
 | _=>none

def QZk (P:Program) (e:TypeId):Bool:=match P.underlying e with | some (.int .u8)=>true | _=>false
theorem QLq {P:Program} {e:TypeId} (h:QZk P e = true):P.underlying e = some (.int .u8):=by
 unfold QZk at h; split at h <;> simp_all

def QH3 (P:Program):List Nat:=(List.range P.types.size).filter fun u=>decide ((P.info? u).map (·.comparable) = some true) && (match P.underlying u with | some (.int _)=>true | _=>false)
theorem QGk {P:Program} {u:Nat} (h:(QH3 P).contains u = true):(P.info? u).map (·.comparable) = some true ∧ ∃ q,P.underlying u = some (.int q):=by
 simp only [QH3,List.contains_iff_mem,List.mem_filter,Bool.and_eq_true,decide_eq_true_eq] at h
 refine ⟨h.2.1,?_⟩
 have:=h.2.2
 split at this
 ·exact ⟨_,by assumption⟩
 ·cases this
def QET (P:Program) (o:Oper):Option AOp:=
 match o.op with
 | .convert s d x=>(match P.underlying s,P.underlying d with
  | some (.slice e),some .string=>if QZk P e then some (.ext .b2s [opd x]) else none
  | some .string,some (.slice e)=>if QZk P e then some (.ext .s2b [opd x]) else none
  | _,_=>none)
 | .binOp op t x y _=>
  if op = .shl then some (.ext (.shift true) [opd x,opd y]) else if op = .shr then some (.ext (.shift false) [opd x,opd y]) else
  (match P.underlying t,y with
  | some (.pointer _),.const (.pointer none)=>if op = .eql then some (.ext (.pnil false) [opd x]) else if op = .neq then some (.ext (.pnil true) [opd x]) else none
  | some (.interface _),.const .nilIface=>if op = .eql then some (.ext (.ifnil false) [opd x]) else if op = .neq then some (.ext (.ifnil true) [opd x]) else none
  | some (.interface _),_=>if op = .eql then some (.ext (.ifeq false (QH3 P)) [opd x,opd y]) else if op = .neq then some (.ext (.ifeq true (QH3 P)) [opd x,opd y]) else none
  | _,_=>none)
 | .makeInterface t x=>(match P.underlying t with
  | some (.interface _)=>none
  | some _=>some (.ext (.mkif t) [opd x])
  | none=>none)
 | .panic _=>some (.ext .stop [])
 | .slice t x lo hi none=>(match P.underlying t with
  | some (.array n e)=>(match P.info? e with
   | some i=>if i.size = 1 then some (.ext (.cut n) [opd x,loO lo,hiO n hi]) else none
   | none=>none)
  | _=>none)
 | .call ⟨.builtin .min,⟨[x,y]⟩,_⟩=>some (.ext .least [opd x,opd y])
 | .call ⟨.builtin .max,⟨[x,y]⟩,_⟩=>some (.ext .most [opd x,opd y])
 | .call ⟨.builtin .unsafeSliceData,⟨[x]⟩,_⟩=>some (.ext .sdata [opd x])
 | .call ⟨.builtin .unsafeString,⟨[x,y]⟩,⟨[pt,_]⟩⟩=>(match P.underlying pt with
  | some (.pointer e)=>if P.cellsOf e = 1 then some (.ext (.ustr e) [opd x,opd y]) else none
  | _=>none)
 | .call ⟨.builtin .append,⟨[x,y]⟩,⟨[t,u]⟩⟩=>(match P.underlying t,P.underlying u with
  | some (.slice e),some .string=>(match P.info? e,QGj P e with
   | some i,some z=>if z.cells.size = 1 ∧ i.size = 1 ∧ i.bytes = 1 then some (.ext (.appStr e) [opd x,opd y]) else none
   | _,_=>none)
  | _,_=>none)
 | _=>none

def QDy (P:Program) (own:Bool) (o:Oper):Option AOp:=
 match QET P o with
 | some a=>some a
 | none=>QA7 P own o

def AOp.allocs:AOp → Bool
 | .alloc .. | .box .. | .append .. | .mkmap | .mrange _ | .mksl ..=>true
 | .bslice _ _ own _=>own
 | _=>false

def QKe (ao:AOp) (T:List AV) (H:List AObj) (nid:Nat) (K:SK):Prop:=
 match ao with
 | .mov x=>K [] [] (x.ev T)
 | .pick q a b=>QN9 (q.ev T) (a.ev T) (b.ev T) K
 | .alloc e zero=>K [(nid,.unborn)] [(nid,.box e zero)] (.ptr nid 0)
 | .box e x=>QCs (x.ev T) = true ∧ K [(nid,.unborn)] [(nid,.box e (cellsOf (x.ev T)))] (.ptr nid 0)
 | .build zero parts=>QIP zero (QFH T parts) fun cs=>K [] [] (.agg cs)
 | .bslice e sz own parts=>QFI e sz own (parts.map fun x=>x.ev T) nid K
 | .load n x=>QHo n (x.ev T) H K
 | .store n a x=>QIO n (a.ev T) (x.ev T) H K
 | .nilchk x=>QE4 (x.ev T) H K
 | .bin op x y=>QEW op (x.ev T) (y.ev T) K
 | .binb neg x y=>QOB neg (x.ev T) (y.ev T) K
 | .eqs neg ds x y=>QOX neg ds (x.ev T) (y.ev T) K
 | .un op x=>sUn op (x.ev T) K
 | .conv k x=>QOC k (x.ev T) K
 | .mkfn fn first caps=>K [] [] (.fn fn (first.map fun x=>x.ev T) (caps.map fun x=>x.ev T))
 | .faddr off x=>QHV off (x.ev T) H K
 | .field off n x=>QJK off n (x.ev T) K
 | .iaddr arr sz x i=>QFk arr sz (x.ev T) (i.ev T) H K
 | .idx x i=>QVu (x.ev T) (i.ev T) K
 | .len lk x=>QHr lk (x.ev T) H K
 | .append e sz bytes x y=>QEg e sz bytes (x.ev T) (y.ev T) H nid K
 | .extract x i=>QFS (x.ev T) i K
 | .mkmap=>K [(nid,.unborn)] [(nid,.map [])] (.map nid)
 | .lookup d zero ok m k=>QDe d zero ok (m.ev T) (k.ev T) H K
 | .mapset d m k x=>QFb d (m.ev T) (k.ev T) (x.ev T) H K
 | .call ..=>False
 | .slice lk sz x lo hi=>QFp lk sz (x.ev T) (lo.map fun y=>y.ev T) (hi.map fun y=>y.ev T) H K
 | .eqnil neg x=>QFl neg (x.ev T) H K
 | .ext k xs=>QFr k (xs.map fun x=>x.ev T) H K
 | .mrange x=>QJf (x.ev T) H nid K
 | .mksl e sz bytes zero x y=>QOc e sz bytes zero (x.ev T) (y.ev T) nid K
 | .mnext _=>False
 | .mentry x=>QJg (x.ev T) H K
 | .mdel d m k=>QOb d (m.ev T) (k.ev T) H K

theorem QQi {P:Program} {own:Bool} {o:Oper} {ao:AOp} {T:List AV} {H:List AObj} {nid:Nat} {K:SK} (hc:QA7 P own o = some ao) (hs:QKe ao T H nid K):Out P o T H nid ao.allocs K:=by
 unfold QA7 at hc
 split at hc
 ·rename_i x ho; cases hc; exact QPe (.inl ho) hs
 ·rename_i x ho; cases hc; exact QPe (.inr ho) hs
 ·rename_i q a b ho; cases hc; exact QRU ho hs
 ·rename_i e ho
  split at hc
  ·rename_i z hz
   split at hc
   ·cases hc; obtain ⟨i,h1,h2⟩:=QCV hz; exact QPf rfl ho h1 h2 (by assumption) hs
   ·cases hc
  ·cases hc
 ·rename_i e x ho; cases hc; exact QT4 rfl ho hs.1 hs.2
 ·rename_i t parts ho
  split at hc
  ·rename_i fields z ht hz
   split at hc
   ·rename_i hb
    obtain ⟨i,h1,h2⟩:=QCV hz
    cases hp:QCy P fields parts.toList with
    | none=>simp [hp] at hc
    | some l=>simp [hp] at hc; subst hc; exact QQS ho ht h1 h2 hb.1 hb.2 hp hs
   ·cases hc
  ·rename_i n e z ht hz
   split at hc
   ·rename_i hb
    obtain ⟨i,h1,h2⟩:=QCV hz
    obtain ⟨ie,h3⟩:=Option.isSome_iff_exists.1 hb.2.1
    cases hc
    exact QOU ho ht h1 h2 h3 hb.1 (List.length_eq_zero_iff.1 hb.2.2) hs
   ·cases hc
  ·cases hc
 ·rename_i t n parts ho
  split at hc
  ·rename_i e ht
   split at hc
   ·rename_i i z hi hz
    split at hc
    ·rename_i hb
     obtain ⟨i',h1,h2⟩:=QCV hz
     cases hc
     rw [hi] at h1; cases h1
     refine QOW (own:=own) (fun h=>h) ho ht hi h2 hb.1 hb.2.1 hb.2.2.1 (by have:=hb.2.2.2; simp only [maxLen]; omega) ?_
     simpa [QKe,List.map_map,Function.comp_def] using hs
    ·cases hc
   ·cases hc
  ·cases hc
 ·rename_i t x ho
  cases hn:QDo P t with
  | none=>simp [hn] at hc
  | some n=>simp [hn] at hc; subst hc; exact QRV ho hn hs
 ·rename_i t a x ho
  cases hn:QDo P t with
  | none=>simp [hn] at hc
  | some n=>simp [hn] at hc; subst hc; exact QPg ho hn hs
 ·rename_i x ho; cases hc; exact QOF ho hs
 ·rename_i op t x y t' ho
  unfold QFc at hc
  split at hc
  ·split at hc
   ·cases hc
   ·rename_i hop; cases hc; exact QQT ho ⟨fun h=>hop (.inl h),fun h=>hop (.inr h)⟩ hs
  ·split at hc
   ·cases hc
   ·rename_i hop; cases hc; exact QQT ho ⟨fun h=>hop (.inl h),fun h=>hop (.inr h)⟩ hs
  ·rename_i ht
   split at hc
   ·rename_i h; cases hc; exact QNe (neg:=false) ho h ht hs
   ·split at hc
    ·rename_i h; cases hc; exact QNe (neg:=true) ho h ht hs
    ·cases hc
  ·split at hc
   ·rename_i hf
    split at hc
    ·rename_i h; cases hc; exact QQU (neg:=false) ho h hf hs
    ·split at hc
     ·rename_i h; cases hc; exact QQU (neg:=true) ho h hf hs
     ·cases hc
   ·cases hc
  ·rename_i e ht
   split at hc
   ·split at hc
    ·rename_i h; cases hc; exact QLk (neg:=false) ho h ht hs
    ·split at hc
     ·rename_i h; cases hc; exact QLk (neg:=true) ho h ht hs
     ·cases hc
   ·cases hc
  ·cases hc
 ·rename_i op t x ho; cases hc; exact QYk ho hs
 ·rename_i s d x ho
  split at hc
  ·rename_i h1 h2; cases hc; exact QSY ho h1 h2 hs
  ·cases hc
 ·rename_i fn first caps ho
  cases hc
  refine QSX ho ?_
  simpa [QKe,List.map_map,Function.comp_def] using hs
 ·rename_i s x f ho
  split at hc
  ·rename_i fs hfs
   split at hc
   ·rename_i fd hfd
    split at hc
    ·rename_i i hi
     split at hc
     ·cases hc
     ·rename_i h0; cases hc; exact QPh ho hfs hfd hi h0 hs
    ·cases hc
   ·cases hc
  ·cases hc
 ·rename_i s x f ho
  split at hc
  ·rename_i fs hfs
   split at hc
   ·rename_i fd hfd
    cases hn:QDo P fd.type with
    | none=>simp [hn] at hc
    | some n=>simp [hn] at hc; subst hc; exact QPl ho hfs hfd hn hs
   ·cases hc
  ·cases hc
 ·rename_i t x y ho
  split at hc
  ·rename_i e ht
   cases hi:P.info? e with
   | none=>simp [hi] at hc
   | some i=>simp [hi] at hc; subst hc; exact QLG (arr:=none) ho ht hi hs
  ·rename_i n e ht
   cases hi:P.info? e with
   | none=>simp [hi] at hc
   | some i=>simp [hi] at hc; subst hc; exact QLG (arr:=some n) ho ht hi hs
  ·cases hc
 ·rename_i t x y ho
  split at hc
  ·rename_i ht; cases hc; exact QVQ ho ht hs
  ·cases hc
 ·rename_i c ho
  unfold QEn at hc
  split at hc
  ·rename_i x t
   cases hk:QZj P t with
   | none=>simp [hk] at hc
   | some lk=>simp [hk] at hc; subst hc; exact QVR ho hk hs
  ·rename_i x y t t'
   split at hc
   ·rename_i htt
    subst htt
    split at hc
    ·rename_i e ht
     split at hc
     ·rename_i i z hi hz
      split at hc
      ·rename_i hzs
       obtain ⟨i',h1,h2⟩:=QCV hz
       cases hc
       rw [hi] at h1; cases h1
       exact QOG rfl ho ht hi h2 hzs hs
      ·cases hc
     ·cases hc
    ·cases hc
   ·cases hc
  ·rename_i m k t ts
   split at hc
   ·rename_i kt et ht
    cases hd:QL5 P kt with
    | none=>simp [hd] at hc
    | some d=>simp [hd] at hc; subst hc; exact QSe ho ht hd hs
   ·cases hc
  ·cases hc; exact hs.elim
  ·cases hc
 ·rename_i x i ho; cases hc; exact QMc ho hs
 ·rename_i t ho; cases hc; exact QQW rfl ho hs
 ·rename_i t m k ok ho
  split at hc
  ·rename_i kt et ht
   split at hc
   ·rename_i d z hd hz
    obtain ⟨i,h1,h2⟩:=QCV hz
    cases hc
    exact QOY ho ht hd h1 h2 hs
   ·cases hc
  ·cases hc
 ·rename_i t m k x ho
  split at hc
  ·rename_i kt et ht
   cases hd:QL5 P kt with
   | none=>simp [hd] at hc
   | some d=>simp [hd] at hc; subst hc; exact QJe (.inl ho) ht hd hs
  ·cases hc
 ·rename_i t m k x ho
  split at hc
  ·rename_i kt et ht
   cases hd:QL5 P kt with
   | none=>simp [hd] at hc
   | some d=>simp [hd] at hc; subst hc; exact QJe (.inr ho) ht hd hs
  ·cases hc
 ·rename_i t x lo hi ho
  split at hc
  ·rename_i ht
   cases hc
   exact QLm (lk:=.str) (sz:=0) ho (fun _=>ht) (fun h=>by cases h) (by simpa [QKe,Option.map_map,Function.comp_def] using hs)
  ·rename_i e ht
   cases hi2:P.info? e with
   | none=>simp [hi2] at hc
   | some i=>simp [hi2] at hc; subst hc; exact QLm (lk:=.sl) (sz:=i.size) ho (fun h=>by cases h) (fun _=>⟨e,i,ht,hi2,rfl⟩) (by simpa [QKe,Option.map_map,Function.comp_def] using hs)
  ·cases hc
 ·rename_i t x ho
  split at hc
  ·rename_i kt et ht; cases hc; exact QQf rfl ho ht hs
  ·cases hc
 ·cases hc; exact hs.elim
 ·rename_i x ho; cases hc; exact QQg ho hs
 ·rename_i t x y ho
  split at hc
  ·rename_i e ht
   split at hc
   ·rename_i i z hi hz
    split at hc
    ·rename_i hb
     obtain ⟨i',h1,h2⟩:=QCV hz
     cases hc
     rw [hi] at h1; cases h1
     exact QSf rfl ho ht hi h2 hb.1 hb.2.1 hb.2.2 hs
    ·cases hc
   ·cases hc
  ·cases hc
 ·cases hc

theorem QQj {P:Program} {o:Oper} {ao:AOp} {T:List AV} {H:List AObj} {nid:Nat} {K:SK} (hc:QET P o = some ao) (hs:QKe ao T H nid K):Out P o T H nid ao.allocs K:=by
 unfold QET at hc
 split at hc
 ·rename_i s d x ho
  split at hc
  ·rename_i e h1 h2
   split at hc
   ·rename_i h3; cases hc; exact QVX ho h1 (QLq h3) h2 hs
   ·cases hc
  ·rename_i e h1 h2
   split at hc
   ·rename_i h3; cases hc; exact QVY ho h1 h2 (QLq h3) hs
   ·cases hc
  ·cases hc
 ·rename_i op t x y t' ho
  split at hc
  ·rename_i h; cases hc; exact QLo (left:=true) ho h hs
  ·split at hc
   ·rename_i h; cases hc; exact QLo (left:=false) ho h hs
   ·split at hc
    ·rename_i e h1
     split at hc
     ·rename_i h; cases hc; exact QNi (neg:=false) ho h h1 hs
     ·split at hc
      ·rename_i h; cases hc; exact QNi (neg:=true) ho h h1 hs
      ·cases hc
    ·rename_i ms h1
     split at hc
     ·rename_i h; cases hc; exact QLp (neg:=false) ho h h1 hs
     ·split at hc
      ·rename_i h; cases hc; exact QLp (neg:=true) ho h h1 hs
      ·cases hc
    ·rename_i ms h1 _
     split at hc
     ·rename_i h; cases hc; exact QNj (neg:=false) ho h h1 (fun _=>QGk) hs
     ·split at hc
      ·rename_i h; cases hc; exact QNj (neg:=true) ho h h1 (fun _=>QGk) hs
      ·cases hc
    ·cases hc
 ·rename_i t x ho
  split at hc
  ·cases hc
  ·rename_i d hd ht; cases hc; exact QSd ho ht hd hs
  ·cases hc
 ·cases hc; exact False.elim hs
 ·rename_i t x lo hi ho
  split at hc
  ·rename_i n e ht
   split at hc
   ·rename_i i hi'
    split at hc
    ·rename_i h1; cases hc; exact QVZ ho ht hi' h1 rfl rfl hs
    ·cases hc
   ·cases hc
  ·cases hc
 ·rename_i x y ts ho; cases hc; exact QQc ho hs
 ·rename_i x y ts ho; cases hc; exact QSb ho hs
 ·rename_i x ts ho; cases hc; exact QQd ho hs
 ·rename_i x y pt it ho
  split at hc
  ·rename_i e h1
   split at hc
   ·rename_i h2; cases hc; exact QSc ho h1 h2 hs
   ·cases hc
  ·cases hc
 ·rename_i x y t u ho
  split at hc
  ·rename_i e h1 h2
   split at hc
   ·rename_i i z h3 h4
    split at hc
    ·rename_i h5
     obtain ⟨i',h6,h7⟩:=QCV h4
     rw [h3] at h6; cases h6
     cases hc
     exact QOa ho h1 h2 h3 h7 h5.1 h5.2.1 h5.2.2 hs
    ·cases hc
   ·cases hc
  ·cases hc
 ·cases hc

theorem QNl {P:Program} {own:Bool} {o:Oper} {ao:AOp} {T:List AV} {H:List AObj} {nid:Nat} {K:SK} (hc:QDy P own o = some ao) (hs:QKe ao T H nid K):Out P o T H nid ao.allocs K:=by
 unfold QDy at hc
 split at hc
 ·rename_i a h; cases hc; exact QQj h hs
 ·exact QQi hc hs

theorem QFs {P:Program} {o:Oper} {ao:AOp} (hc:QET P o = some ao):∃ k xs,ao = .ext k xs:=by
 unfold QET at hc
 repeat' split at hc
 all_goals first | (cases hc; done) | (cases hc; exact ⟨_,_,rfl⟩)

end Go.Ab
namespace Go.Ab
open Go
set_option linter.unusedSectionVars false
variable [Glob]

mutual
def QAE (n:Nat):AV → Bool
 | .ptr o _=>o < n
 | .win o _ _=>o < n
 | .eptr o _ _ _=>o < n
 | .own o _=>o < n
 | .map o=>o < n
 | .it o=>o < n
 | .pre o _ _ _=>o < n
 | .iptr cs=>QAB n cs
 | .imm l=>QAb n l
 | .fn _ a b=>QAB n a && QAB n b
 | .agg cs=>QAB n cs
 | .tup cs=>QAB n cs
 | .ifv _ a=>QAE n a
 | _=>true
def QAB (n:Nat):List AV → Bool
 | []=>true
 | a :: as=>QAE n a && QAB n as
def QAb (n:Nat):List (List AV) → Bool
 | []=>true
 | r :: rs=>QAB n r && QAb n rs
end

mutual
def ren (is:List Nat):AV → AV
 | .ptr o off=>(match is[o]? with | some p=>.ptr p off | none=>.bot)
 | .win o lo n=>(match is[o]? with | some p=>.win p lo n | none=>.bot)
 | .eptr o n i off=>(match is[o]? with | some p=>.eptr p n i off | none=>.bot)
 | .own o n=>(match is[o]? with | some p=>.own p n | none=>.bot)
 | .map o=>(match is[o]? with | some p=>.map p | none=>.bot)
 | .it o=>(match is[o]? with | some p=>.it p | none=>.bot)
 | .pre o lo n m=>(match is[o]? with | some p=>.pre p lo n m | none=>.bot)
 | .iptr cs=>.iptr (QBt is cs)
 | .imm l=>.imm (QBL is l)
 | .fn f a b=>.fn f (QBt is a) (QBt is b)
 | .agg cs=>.agg (QBt is cs)
 | .tup cs=>.tup (QBt is cs)
 | .ifv t a=>.ifv t (ren is a)
 | x=>x
def QBt (is:List Nat):List AV → List AV
 | []=>[]
 | a :: as=>ren is a :: QBt is as
def QBL (is:List Nat):List (List AV) → List (List AV)
 | []=>[]
 | r :: rs=>QBt is r :: QBL is rs
end

def QEw (is:List Nat):List (AV × AV) → List (AV × AV)
 | []=>[]
 | p :: r=>(ren is p.1,ren is p.2) :: QEw is r

def QBP (is:List Nat):AObj → AObj
 | .box e cs=>.box e (QBt is cs)
 | .reg e sz l=>.reg e sz (QBL is l)
 | .map kvs=>.map (QEw is kvs)
 | .iter m s l=>(match is[m]? with | some p=>.iter p s l | none=>.box 0 [.bot])
 | x=>x

@[simp] theorem QMi (is:List Nat):∀ l:List AV,(QBt is l).length = l.length
 | []=>rfl
 | _ :: as=>by simp [QBt,QMi is as]
@[simp] theorem QLr (is:List Nat):∀ l:List (List AV),(QBL is l).length = l.length
 | []=>rfl
 | _ :: as=>by simp [QBL,QLr is as]

structure QWe (n:Nat) (c c':Cx):Prop where
 fr:∀ b,c.F b → c'.F b
 keep:∀ b,c.F b → c'.w.heap[b]? = c.w.heap[b]?
 obj:∀ (o:Nat) (x:AObj),o < n → c.H[o]? = some x → ∃ y:AObj,c'.H[o]? = some y ∧ OStep x y c.μ[o]? c'.μ[o]?

structure QJh (is:List Nat) (c c':Cx):Prop where
 fr:∀ b,c.F b → c'.F b
 keep:∀ b,c.F b → c'.w.heap[b]? = c.w.heap[b]?
 it:∀ (o m s:Nat) (l:List Nat),c.H[o]? = some (.iter m s l) → ∃ q,is[m]? = some q
 obj:∀ (o:Nat) (x:AObj),c.H[o]? = some x → ∃ p,is[o]? = some p ∧ c'.H[p]? = some (QBP is x) ∧ c'.μ[p]? = c.μ[o]?

structure QMj (is:List Nat) (c c':Cx):Prop where
 fr:∀ b,c.F b → c'.F b
 keep:∀ b,c.F b → c'.w.heap[b]? = c.w.heap[b]?
 it:∀ (o m s:Nat) (l:List Nat),c'.H[o]? = some (.iter m s l) → ∃ q,is[m]? = some q
 obj:∀ (o p:Nat),is[o]? = some p → ∃ x,c'.H[o]? = some x ∧ c.H[p]? = some (QBP is x) ∧ c'.μ[o]? = c.μ[p]?

mutual
theorem QHI {n:Nat} {c c':Cx} (h:QWe n c c'):∀ (x:AV) (v:Value),QAE n x = true → Val c x v → Val c' x v
 | .junk,_,_,_=>by simp only [Val]
 | .bot,_,_,hv=>by simp only [Val] at hv
 | .int ..,_,_,hv=>by simpa only [Val] using hv
 | .bool ..,_,_,hv=>by simpa only [Val] using hv
 | .str ..,_,_,hv=>by simpa only [Val] using hv
 | .nilp,_,_,hv=>by simpa only [Val] using hv
 | .ptr o off,v,hc,hv=>by
  simp only [QAE,decide_eq_true_eq] at hc
  simp only [Val] at hv ⊢
  obtain ⟨e,cs,b,h1,h2,h3⟩:=hv
  obtain ⟨y,hy,hs⟩:=h.obj o _ hc h1
  cases y <;> simp [OStep] at hs
  exact ⟨_,_,b,hy,hs.2.trans h2,h3⟩
 | .ifc,_,_,hv=>by simpa only [Val] using hv
 | .ifv t a,v,hc,hv=>by
  simp only [QAE] at hc
  simp only [Val] at hv ⊢
  obtain ⟨x,h1,h2⟩:=hv
  exact ⟨x,h1,QHI h a x hc h2⟩
 | .win o lo n,v,hc,hv=>by
  simp only [QAE,decide_eq_true_eq] at hc
  simp only [Val] at hv ⊢
  obtain ⟨e,cs,b,cap,h1,h2,h3⟩:=hv
  obtain ⟨y,hy,hs⟩:=h.obj o _ hc h1
  cases y <;> simp [OStep] at hs
  exact ⟨_,_,b,cap,hy,hs.2.trans h2,h3⟩
 | .eptr o n i off,v,hc,hv=>by
  simp only [QAE,decide_eq_true_eq] at hc
  simp only [Val] at hv ⊢
  refine ⟨hv.1,?_⟩
  rcases hv.2 with ⟨e,sz,l,h1,h2,h3⟩ | h1
  ·obtain ⟨y,hy,hs⟩:=h.obj o _ hc h1
   cases y <;> simp [OStep] at hs
   ·exact .inr hy
   ·obtain ⟨rfl,rfl,h5,h6⟩:=hs
    refine .inl ⟨_,_,_,hy,by omega,fun hn=>?_⟩
    obtain ⟨g,len,cap,o0,h7,h8⟩:=h3 (by omega)
    exact ⟨g,len,cap,o0,(h6 (by omega)).trans h7,h8⟩
  ·obtain ⟨y,hy,hs⟩:=h.obj o _ hc h1
   cases y <;> simp [OStep] at hs
   exact .inr hy
 | .iptr cs,v,hc,hv=>by
  simp only [QAE] at hc
  simp only [Val] at hv ⊢
  obtain ⟨b,off,h1,h2,h3⟩:=hv
  exact ⟨b,off,h1,h.fr b h2,QIm h cs b off hc (h.keep b h2) h3⟩
 | .nils,_,_,hv=>by simpa only [Val] using hv
 | .imm l,v,hc,hv=>by
  simp only [QAE] at hc
  simp only [Val] at hv ⊢
  rcases hv with ⟨b,off,cap,sz,h1,h2,h3,h4⟩ | h1
  ·exact .inl ⟨b,off,cap,sz,h1,h.fr b h2,h3,QJi h l b off sz hc (h.keep b h2) h4⟩
  ·exact .inr h1
 | .own o n,v,hc,hv=>by
  simp only [QAE,decide_eq_true_eq] at hc
  simp only [Val] at hv ⊢
  refine ⟨hv.1,?_⟩
  rcases hv.2 with ⟨e,sz,l,h1,h2,h3⟩ | h1
  ·obtain ⟨y,hy,hs⟩:=h.obj o _ hc h1
   cases y <;> simp [OStep] at hs
   ·exact .inr hy
   ·obtain ⟨rfl,rfl,h5,h6⟩:=hs
    exact .inl ⟨_,_,_,hy,by omega,fun hn=>(h6 (by omega)).trans (h3 (by omega))⟩
  ·obtain ⟨y,hy,hs⟩:=h.obj o _ hc h1
   cases y <;> simp [OStep] at hs
   exact .inr hy
 | .nilm,_,_,hv=>by simpa only [Val] using hv
 | .map o,v,hc,hv=>by
  simp only [QAE,decide_eq_true_eq] at hc
  simp only [Val] at hv ⊢
  obtain ⟨kvs,r,h1,h2,h3⟩:=hv
  obtain ⟨y,hy,hs⟩:=h.obj o _ hc h1
  cases y <;> simp [OStep] at hs
  exact ⟨_,r,hy,hs.trans h2,h3⟩
 | .pre o lo n m,v,hc,hv=>by
  simp only [QAE,decide_eq_true_eq] at hc
  simp only [Val] at hv ⊢
  refine ⟨hv.1,?_⟩
  rcases hv.2 with ⟨e,sz,l,h1,h2,h3⟩ | h1
  ·obtain ⟨y,hy,hs⟩:=h.obj o _ hc h1
   cases y <;> simp [OStep] at hs
   ·exact .inr hy
   ·obtain ⟨rfl,rfl,h5,h6⟩:=hs
    refine .inl ⟨_,_,_,hy,by omega,fun hn=>?_⟩
    obtain ⟨k1,k2⟩:=h3 (by omega)
    refine ⟨k1,k2.imp ?_ (And.imp_right (Or.imp_right ?_))⟩
    ·rintro ⟨g,len,cap,o0,cp,k3,k4⟩
     exact ⟨g,len,cap,o0,cp,(h6 (by omega)).trans k3,k4⟩
    ·rintro ⟨g,len,cap,o0,d,k3,k4⟩
     exact ⟨g,len,cap,o0,d,(h6 (by omega)).trans k3,k4⟩
  ·obtain ⟨y,hy,hs⟩:=h.obj o _ hc h1
   cases y <;> simp [OStep] at hs
   exact .inr hy
 | .it o,v,hc,hv=>by
  simp only [QAE,decide_eq_true_eq] at hc
  simp only [Val] at hv ⊢
  obtain ⟨m,s,l,b,h1,h2,h3⟩:=hv
  obtain ⟨y,hy,hs⟩:=h.obj o _ hc h1
  cases y <;> simp [OStep] at hs
  exact ⟨_,_,_,b,hy,hs.2.2.trans h2,h3⟩
 | .nilf,_,_,hv=>by simpa only [Val] using hv
 | .fn f fs cs,v,hc,hv=>by
  simp only [QAE,Bool.and_eq_true] at hc
  simp only [Val] at hv ⊢
  obtain ⟨vf,vc,h1,h2,h3⟩:=hv
  exact ⟨vf,vc,h1,QEo h fs _ hc.1 h2,QEo h cs _ hc.2 h3⟩
 | .agg cs,v,hc,hv=>by
  simp only [QAE] at hc
  simp only [Val] at hv ⊢
  obtain ⟨vs,h1,h2,h3⟩:=hv
  exact ⟨vs,h1,QEo h cs _ hc h2,h3⟩
 | .tup cs,v,hc,hv=>by
  simp only [QAE] at hc
  simp only [Val] at hv ⊢
  obtain ⟨vs,h1,h2⟩:=hv
  exact ⟨vs,h1,QEo h cs _ hc h2⟩
 | .raw ..,_,_,hv=>by simpa only [Val] using hv
theorem QEo {n:Nat} {c c':Cx} (h:QWe n c c'):∀ (l:List AV) (vs:List Value),QAB n l = true → QA3 c l vs → QA3 c' l vs
 | [],_,_,hv=>by simpa only [QA3] using hv
 | a :: as,vs,hc,hv=>by
  simp only [QAB,Bool.and_eq_true] at hc
  simp only [QA3] at hv ⊢
  obtain ⟨v,vs',h1,h2,h3⟩:=hv
  exact ⟨v,vs',h1,QHI h a v hc.1 h2,QEo h as vs' hc.2 h3⟩
theorem QIm {n:Nat} {c c':Cx} (h:QWe n c c'):∀ (l:List AV) (b off:Nat),QAB n l = true → c'.w.heap[b]? = c.w.heap[b]? → QBN c l b off → QBN c' l b off
 | [],_,_,_,_,_=>by simp only [QBN]
 | a :: as,b,off,hc,hb,hv=>by
  simp only [QAB,Bool.and_eq_true] at hc
  simp only [QBN] at hv ⊢
  obtain ⟨⟨v,h1,h2,h3⟩,h4⟩:=hv
  exact ⟨⟨v,(cell?_block hb).trans h1,h2,QHI h a v hc.1 h3⟩,QIm h as b (off + 1) hc.2 hb h4⟩
theorem QJi {n:Nat} {c c':Cx} (h:QWe n c c'):∀ (l:List (List AV)) (b off sz:Nat),QAb n l = true → c'.w.heap[b]? = c.w.heap[b]? → QAh c l b off sz → QAh c' l b off sz
 | [],_,_,_,_,_,_=>by simp only [QAh]
 | r :: rs,b,off,sz,hc,hb,hv=>by
  simp only [QAb,Bool.and_eq_true] at hc
  simp only [QAh] at hv ⊢
  exact ⟨hv.1,QIm h r b off hc.1 hb hv.2.1,QJi h rs b (off + sz) sz hc.2 hb hv.2.2⟩
end

mutual
theorem QIn {is:List Nat} {c c':Cx} (h:QJh is c c'):∀ (x:AV) (v:Value),Val c x v → Val c' (ren is x) v
 | .junk,_,_=>by simp only [ren,Val]
 | .bot,_,hv=>by simp only [Val] at hv
 | .int ..,_,hv=>by simpa only [ren,Val] using hv
 | .bool ..,_,hv=>by simpa only [ren,Val] using hv
 | .str ..,_,hv=>by simpa only [ren,Val] using hv
 | .nilp,_,hv=>by simpa only [ren,Val] using hv
 | .ptr o off,v,hv=>by
  simp only [Val] at hv
  obtain ⟨e,cs,b,h1,h2,h3⟩:=hv
  obtain ⟨p,hp,h4,h5⟩:=h.obj o _ h1
  simp only [ren,hp,Val]
  exact ⟨_,_,b,h4,h5.trans h2,h3⟩
 | .ifc,_,hv=>by simpa only [ren,Val] using hv
 | .ifv t a,v,hv=>by
  simp only [Val] at hv
  simp only [ren,Val]
  obtain ⟨x,h1,h2⟩:=hv
  exact ⟨x,h1,QIn h a x h2⟩
 | .win o lo n,v,hv=>by
  simp only [Val] at hv
  obtain ⟨e,cs,b,cap,h1,h2,h3⟩:=hv
  obtain ⟨p,hp,h4,h5⟩:=h.obj o _ h1
  simp only [ren,hp,Val]
  exact ⟨_,_,b,cap,h4,h5.trans h2,h3⟩
 | .eptr o n i off,v,hv=>by
  simp only [Val] at hv
  obtain ⟨h0,hv⟩:=hv
  rcases hv with ⟨e,sz,l,h1,h2,h3⟩ | h1
  ·obtain ⟨p,hp,h4,h5⟩:=h.obj o _ h1
   simp only [ren,hp,Val]
   refine ⟨h0,.inl ⟨e,sz,_,h4,by simpa using h2,fun hn=>?_⟩⟩
   obtain ⟨g,len,cap,o0,h7,h8⟩:=h3 (by simpa using hn)
   exact ⟨g,len,cap,o0,h5.trans h7,h8⟩
  ·obtain ⟨p,hp,h4,h5⟩:=h.obj o _ h1
   simp only [ren,hp,Val]
   exact ⟨h0,.inr h4⟩
 | .iptr cs,v,hv=>by
  simp only [Val] at hv
  simp only [ren,Val]
  obtain ⟨b,off,h1,h2,h3⟩:=hv
  exact ⟨b,off,h1,h.fr b h2,QGm h cs b off (h.keep b h2) h3⟩
 | .nils,_,hv=>by simpa only [ren,Val] using hv
 | .imm l,v,hv=>by
  simp only [Val] at hv
  simp only [ren,Val]
  rcases hv with ⟨b,off,cap,sz,h1,h2,h3,h4⟩ | ⟨rfl,h1⟩
  ·exact .inl ⟨b,off,cap,sz,by simpa using h1,h.fr b h2,by simpa using h3,QHJ h l b off sz (h.keep b h2) h4⟩
  ·exact .inr ⟨by simp [QBL],h1⟩
 | .own o n,v,hv=>by
  simp only [Val] at hv
  obtain ⟨h0,hv⟩:=hv
  rcases hv with ⟨e,sz,l,h1,h2,h3⟩ | h1
  ·obtain ⟨p,hp,h4,h5⟩:=h.obj o _ h1
   simp only [ren,hp,Val]
   exact ⟨h0,.inl ⟨e,sz,_,h4,by simpa using h2,fun hn=>h5.trans (h3 (by simpa using hn))⟩⟩
  ·obtain ⟨p,hp,h4,h5⟩:=h.obj o _ h1
   simp only [ren,hp,Val]
   exact ⟨h0,.inr h4⟩
 | .nilm,_,hv=>by simpa only [ren,Val] using hv
 | .map o,v,hv=>by
  simp only [Val] at hv
  obtain ⟨kvs,r,h1,h2,h3⟩:=hv
  obtain ⟨p,hp,h4,h5⟩:=h.obj o _ h1
  simp only [ren,hp,Val]
  exact ⟨_,r,h4,h5.trans h2,h3⟩
 | .pre o lo n m,v,hv=>by
  simp only [Val] at hv
  obtain ⟨h0,hv⟩:=hv
  rcases hv with ⟨e,sz,l,h1,h2,h3⟩ | h1
  ·obtain ⟨p,hp,h4,h5⟩:=h.obj o _ h1
   simp only [ren,hp,Val]
   refine ⟨h0,.inl ⟨e,sz,_,h4,by simpa using h2,fun hn=>?_⟩⟩
   obtain ⟨k1,k2⟩:=h3 (by simpa using hn)
   refine ⟨k1,k2.imp ?_ (And.imp_right (Or.imp_right ?_))⟩
   ·rintro ⟨g,len,cap,o0,cp,k3,k4⟩
    exact ⟨g,len,cap,o0,cp,h5.trans k3,k4⟩
   ·rintro ⟨g,len,cap,o0,d,k3,k4⟩
    exact ⟨g,len,cap,o0,d,h5.trans k3,k4⟩
  ·obtain ⟨p,hp,h4,h5⟩:=h.obj o _ h1
   simp only [ren,hp,Val]
   exact ⟨h0,.inr h4⟩
 | .it o,v,hv=>by
  simp only [Val] at hv
  obtain ⟨m,s,l,b,h1,h2,h3⟩:=hv
  obtain ⟨p,hp,h4,h5⟩:=h.obj o _ h1
  obtain ⟨q,hq⟩:=h.it o m s l h1
  simp only [ren,hp,Val]
  refine ⟨q,s,l,b,?_,h5.trans h2,h3⟩
  rw [h4]; simp only [QBP,hq]
 | .nilf,_,hv=>by simpa only [ren,Val] using hv
 | .fn f fs cs,v,hv=>by
  simp only [Val] at hv
  simp only [ren,Val]
  obtain ⟨vf,vc,h1,h2,h3⟩:=hv
  exact ⟨vf,vc,h1,QGl h fs _ h2,QGl h cs _ h3⟩
 | .agg cs,v,hv=>by
  simp only [Val] at hv
  simp only [ren,Val]
  obtain ⟨vs,h1,h2,h3⟩:=hv
  exact ⟨vs,h1,QGl h cs _ h2,h3⟩
 | .tup cs,v,hv=>by
  simp only [Val] at hv
  simp only [ren,Val]
  obtain ⟨vs,h1,h2⟩:=hv
  exact ⟨vs,h1,QGl h cs _ h2⟩
 | .raw ..,_,hv=>by simpa only [ren,Val] using hv
theorem QGl {is:List Nat} {c c':Cx} (h:QJh is c c'):∀ (l:List AV) (vs:List Value),QA3 c l vs → QA3 c' (QBt is l) vs
 | [],_,hv=>by simpa only [QBt,QA3] using hv
 | a :: as,vs,hv=>by
  simp only [QA3] at hv
  simp only [QBt,QA3]
  obtain ⟨v,vs',h1,h2,h3⟩:=hv
  exact ⟨v,vs',h1,QIn h a v h2,QGl h as vs' h3⟩
theorem QGm {is:List Nat} {c c':Cx} (h:QJh is c c'):∀ (l:List AV) (b off:Nat),c'.w.heap[b]? = c.w.heap[b]? → QBN c l b off → QBN c' (QBt is l) b off
 | [],_,_,_,_=>by simp only [QBt,QBN]
 | a :: as,b,off,hb,hv=>by
  simp only [QBN] at hv
  simp only [QBt,QBN]
  obtain ⟨⟨v,h1,h2,h3⟩,h4⟩:=hv
  exact ⟨⟨v,(cell?_block hb).trans h1,h2,QIn h a v h3⟩,QGm h as b (off + 1) hb h4⟩
theorem QHJ {is:List Nat} {c c':Cx} (h:QJh is c c'):∀ (l:List (List AV)) (b off sz:Nat),c'.w.heap[b]? = c.w.heap[b]? → QAh c l b off sz → QAh c' (QBL is l) b off sz
 | [],_,_,_,_,_=>by simp only [QBL,QAh]
 | r :: rs,b,off,sz,hb,hv=>by
  simp only [QAh] at hv
  simp only [QBL,QAh]
  exact ⟨by simpa using hv.1,QGm h r b off hb hv.2.1,QHJ h rs b (off + sz) sz hb hv.2.2⟩
end

@[simp] theorem QLs (is:List Nat) (x:AV):QB7 (ren is x) = QB7 x:=by
 cases x <;> first | rfl | (simp only [ren]; split <;> rfl)
theorem QGn (is:List Nat):∀ l:List (AV × AV),QEw is l = l.map fun p=>(ren is p.1,ren is p.2)
 | []=>rfl
 | p :: r=>by simp [QEw,QGn is r]
@[simp] theorem QTZ (is:List Nat) (l:List (AV × AV)):(QEw is l).length = l.length:=by rw [QGn]; simp
theorem QVa {is:List Nat} {c c':Cx} (h:QJh is c c') (l:List (AV × AV)) (n:Nat) (es:List MapEntry) (hv:Kvs c l n es):Kvs c' (QEw is l) n es:=by
 rw [QGn]
 exact QIK (f:=ren is) (QLs is) (fun _=>True) (fun x v _=>QIn h x v) l n es (fun _ _ _=>⟨trivial,trivial⟩) hv

mutual
theorem QJj {is:List Nat} {c c':Cx} (h:QMj is c c'):∀ (x:AV) (v:Value),Val c (ren is x) v → Val c' x v
 | .junk,_,_=>by simp only [Val]
 | .bot,_,hv=>by simp only [ren,Val] at hv
 | .int ..,_,hv=>by simpa only [ren,Val] using hv
 | .bool ..,_,hv=>by simpa only [ren,Val] using hv
 | .str ..,_,hv=>by simpa only [ren,Val] using hv
 | .nilp,_,hv=>by simpa only [ren,Val] using hv
 | .ptr o off,v,hv=>by
  cases hp:is[o]? with
  | none=>simp only [ren,hp,Val] at hv
  | some p=>
   simp only [ren,hp,Val] at hv ⊢
   obtain ⟨e,cs,b,h1,h2,h3⟩:=hv
   obtain ⟨x,h4,h5,h6⟩:=h.obj o p hp
   rw [h1] at h5
   cases x <;> try simp only [QBP,Option.some.injEq,reduceCtorEq,AObj.box.injEq] at h5
   ·obtain ⟨rfl,rfl⟩:=h5
    exact ⟨_,_,b,h4,h6.trans h2,h3⟩
   ·rename_i m s l
    obtain ⟨q,hq⟩:=h.it o m s l h4
    simp only [hq] at h5; cases h5
 | .ifc,_,hv=>by simpa only [ren,Val] using hv
 | .ifv t a,v,hv=>by
  simp only [ren,Val] at hv
  simp only [Val]
  obtain ⟨x,h1,h2⟩:=hv
  exact ⟨x,h1,QJj h a x h2⟩
 | .win o lo n,v,hv=>by
  cases hp:is[o]? with
  | none=>simp only [ren,hp,Val] at hv
  | some p=>
   simp only [ren,hp,Val] at hv ⊢
   obtain ⟨e,cs,b,cap,h1,h2,h3⟩:=hv
   obtain ⟨x,h4,h5,h6⟩:=h.obj o p hp
   rw [h1] at h5
   cases x <;> try simp only [QBP,Option.some.injEq,reduceCtorEq,AObj.box.injEq] at h5
   ·obtain ⟨rfl,rfl⟩:=h5
    exact ⟨_,_,b,cap,h4,h6.trans h2,h3⟩
   ·rename_i m s l
    obtain ⟨q,hq⟩:=h.it o m s l h4
    simp only [hq] at h5; cases h5
 | .eptr o n i off,v,hv=>by
  cases hp:is[o]? with
  | none=>simp only [ren,hp,Val] at hv
  | some p=>
   simp only [ren,hp,Val] at hv ⊢
   obtain ⟨h0,hv⟩:=hv
   obtain ⟨x,h4,h5,h6⟩:=h.obj o p hp
   refine ⟨h0,?_⟩
   rcases hv with ⟨e,sz,l,h1,h2,h3⟩ | h1
   ·rw [h1] at h5
    cases x <;> try simp only [QBP,Option.some.injEq,reduceCtorEq,AObj.reg.injEq] at h5
    rotate_left
    ·split at h5 <;> cases h5
    obtain ⟨rfl,rfl,rfl⟩:=h5
    refine .inl ⟨_,_,_,h4,by simpa using h2,fun hn=>?_⟩
    obtain ⟨g,len,cap,o0,h7,h8⟩:=h3 (by simpa using hn)
    exact ⟨g,len,cap,o0,h6.trans h7,h8⟩
   ·rw [h1] at h5
    cases x <;> try simp only [QBP,Option.some.injEq,reduceCtorEq] at h5
    rotate_left
    ·split at h5 <;> cases h5
    exact .inr h4
 | .iptr cs,v,hv=>by
  simp only [ren,Val] at hv
  simp only [Val]
  obtain ⟨b,off,h1,h2,h3⟩:=hv
  exact ⟨b,off,h1,h.fr b h2,QGo h cs b off (h.keep b h2) h3⟩
 | .nils,_,hv=>by simpa only [ren,Val] using hv
 | .imm l,v,hv=>by
  simp only [ren,Val] at hv
  simp only [Val]
  rcases hv with ⟨b,off,cap,sz,h1,h2,h3,h4⟩ | ⟨h0,h1⟩
  ·exact .inl ⟨b,off,cap,sz,by simpa using h1,h.fr b h2,by simpa using h3,QGp h l b off sz (h.keep b h2) h4⟩
  ·refine .inr ⟨?_,h1⟩
   cases l with
   | nil=>rfl
   | cons r l=>simp [QBL] at h0
 | .own o n,v,hv=>by
  cases hp:is[o]? with
  | none=>simp only [ren,hp,Val] at hv
  | some p=>
   simp only [ren,hp,Val] at hv ⊢
   obtain ⟨h0,hv⟩:=hv
   obtain ⟨x,h4,h5,h6⟩:=h.obj o p hp
   refine ⟨h0,?_⟩
   rcases hv with ⟨e,sz,l,h1,h2,h3⟩ | h1
   ·rw [h1] at h5
    cases x <;> try simp only [QBP,Option.some.injEq,reduceCtorEq,AObj.reg.injEq] at h5
    rotate_left
    ·split at h5 <;> cases h5
    obtain ⟨rfl,rfl,rfl⟩:=h5
    exact .inl ⟨_,_,_,h4,by simpa using h2,fun hn=>h6.trans (h3 (by simpa using hn))⟩
   ·rw [h1] at h5
    cases x <;> try simp only [QBP,Option.some.injEq,reduceCtorEq] at h5
    rotate_left
    ·split at h5 <;> cases h5
    exact .inr h4
 | .nilm,_,hv=>by simpa only [ren,Val] using hv
 | .map o,v,hv=>by
  cases hp:is[o]? with
  | none=>simp only [ren,hp,Val] at hv
  | some p=>
   simp only [ren,hp,Val] at hv ⊢
   obtain ⟨kvs,r,h1,h2,h3⟩:=hv
   obtain ⟨x,h4,h5,h6⟩:=h.obj o p hp
   rw [h1] at h5
   cases x <;> try simp only [QBP,Option.some.injEq,reduceCtorEq,AObj.map.injEq] at h5
   ·exact ⟨_,r,h4,h6.trans h2,h3⟩
   ·split at h5 <;> cases h5
 | .pre o lo n m,v,hv=>by
  cases hp:is[o]? with
  | none=>simp only [ren,hp,Val] at hv
  | some p=>
   simp only [ren,hp,Val] at hv ⊢
   obtain ⟨h0,hv⟩:=hv
   obtain ⟨x,h4,h5,h6⟩:=h.obj o p hp
   refine ⟨h0,?_⟩
   rcases hv with ⟨e,sz,l,h1,h2,h3⟩ | h1
   ·rw [h1] at h5
    cases x <;> try simp only [QBP,Option.some.injEq,reduceCtorEq,AObj.reg.injEq] at h5
    rotate_left
    ·split at h5 <;> cases h5
    obtain ⟨rfl,rfl,rfl⟩:=h5
    refine .inl ⟨_,_,_,h4,by simpa using h2,fun hn=>?_⟩
    obtain ⟨k1,k2⟩:=h3 (by simpa using hn)
    refine ⟨k1,k2.imp ?_ (And.imp_right (Or.imp_right ?_))⟩
    ·rintro ⟨g,len,cap,o0,cp,k3,k4⟩
     exact ⟨g,len,cap,o0,cp,h6.trans k3,k4⟩
    ·rintro ⟨g,len,cap,o0,d,k3,k4⟩
     exact ⟨g,len,cap,o0,d,h6.trans k3,k4⟩
   ·rw [h1] at h5
    cases x <;> try simp only [QBP,Option.some.injEq,reduceCtorEq] at h5
    rotate_left
    ·split at h5 <;> cases h5
    exact .inr h4
 | .it o,v,hv=>by
  cases hp:is[o]? with
  | none=>simp only [ren,hp,Val] at hv
  | some p=>
   simp only [ren,hp,Val] at hv ⊢
   obtain ⟨m,s,l,b,h1,h2,h3⟩:=hv
   obtain ⟨x,h4,h5,h6⟩:=h.obj o p hp
   rw [h1] at h5
   cases x <;> try simp only [QBP,Option.some.injEq,reduceCtorEq] at h5
   exact ⟨_,_,_,b,h4,h6.trans h2,h3⟩
 | .nilf,_,hv=>by simpa only [ren,Val] using hv
 | .fn f fs cs,v,hv=>by
  simp only [ren,Val] at hv
  simp only [Val]
  obtain ⟨vf,vc,h1,h2,h3⟩:=hv
  exact ⟨vf,vc,h1,QHK h fs _ h2,QHK h cs _ h3⟩
 | .agg cs,v,hv=>by
  simp only [ren,Val] at hv
  simp only [Val]
  obtain ⟨vs,h1,h2,h3⟩:=hv
  exact ⟨vs,h1,QHK h cs _ h2,h3⟩
 | .tup cs,v,hv=>by
  simp only [ren,Val] at hv
  simp only [Val]
  obtain ⟨vs,h1,h2⟩:=hv
  exact ⟨vs,h1,QHK h cs _ h2⟩
 | .raw ..,_,hv=>by simpa only [ren,Val] using hv
theorem QHK {is:List Nat} {c c':Cx} (h:QMj is c c'):∀ (l:List AV) (vs:List Value),QA3 c (QBt is l) vs → QA3 c' l vs
 | [],_,hv=>by simpa only [QBt,QA3] using hv
 | a :: as,vs,hv=>by
  simp only [QBt,QA3] at hv
  simp only [QA3]
  obtain ⟨v,vs',h1,h2,h3⟩:=hv
  exact ⟨v,vs',h1,QJj h a v h2,QHK h as vs' h3⟩
theorem QGo {is:List Nat} {c c':Cx} (h:QMj is c c'):∀ (l:List AV) (b off:Nat),c'.w.heap[b]? = c.w.heap[b]? → QBN c (QBt is l) b off → QBN c' l b off
 | [],_,_,_,_=>by simp only [QBN]
 | a :: as,b,off,hb,hv=>by
  simp only [QBt,QBN] at hv
  simp only [QBN]
  obtain ⟨⟨v,h1,h2,h3⟩,h4⟩:=hv
  exact ⟨⟨v,(cell?_block hb).trans h1,h2,QJj h a v h3⟩,QGo h as b (off + 1) hb h4⟩
theorem QGp {is:List Nat} {c c':Cx} (h:QMj is c c'):∀ (l:List (List AV)) (b off sz:Nat),c'.w.heap[b]? = c.w.heap[b]? → QAh c (QBL is l) b off sz → QAh c' l b off sz
 | [],_,_,_,_,_=>by simp only [QAh]
 | r :: rs,b,off,sz,hb,hv=>by
  simp only [QBL,QAh] at hv
  simp only [QAh]
  exact ⟨by simpa using hv.1,QGo h r b off hb hv.2.1,QGp h rs b (off + sz) sz hb hv.2.2⟩
end

theorem QNm {is:List Nat} {c c':Cx} (h:QMj is c c'):∀ (l:List (AV × AV)) (n:Nat) (es:List MapEntry),Kvs c (QEw is l) n es → Kvs c' l n es
 | [],_,es,hv=>by simpa only [QEw,Kvs] using hv
 | p :: r,n,es,hv=>by
  simp only [QEw,Kvs,QLs] at hv ⊢
  split at hv
  ·rename_i hg; rw [if_pos hg]; exact QNm h r _ es hv
  ·rename_i hg; rw [if_neg hg]
   obtain ⟨e,es',h1,h2,h3,h4,h5⟩:=hv
   exact ⟨e,es',h1,QJj h _ _ h2,QJj h _ _ h3,h4,QNm h r _ es' h5⟩

theorem QVb {n:Nat} {c c':Cx} (h:QWe n c c') (l:List (AV × AV)) (k:Nat) (es:List MapEntry) (hc:∀ p ∈ l,QB7 p.1 = false → QAE n p.1 = true ∧ QAE n p.2 = true) (hv:Kvs c l k es):Kvs c' l k es:=by
 have:=QIK (f:=id) (fun _=>rfl) (fun x=>QAE n x = true) (fun x v hx=>QHI h x v hx) l k es hc hv
 simpa using this

end Go.Ab
