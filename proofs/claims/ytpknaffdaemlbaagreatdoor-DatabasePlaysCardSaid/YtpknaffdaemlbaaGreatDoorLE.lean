/- Entries among the data of a row. -/
import Derived.Test.YtpknaffdaemlbaaGreatDoorLB
import Derived.Test.YtpknaffdaemlbaaGreatDoorSK
set_option maxRecDepth 10000
namespace Go.Proofs.YtpknaffdaemlbaaGreatDoor
open Go Go.ChangeShapes Go.WideShapes Go.ChangeAt Go.RowKit Go.Ab
theorem QMa {H:Type} {R:TypeId → DataW H → List AV → Prop} {f:Field} {fs:List Field} {ds:List (DataW H)} {xs:List AV} (h:RdF R (f :: fs) ds xs):∃ d ds' a b,ds = d :: ds' ∧ xs = a ++ b ∧ R f.type d a ∧ RdF R fs ds' b:=by
 match ds,h with
 | d :: ds,⟨a,b,h1,h2,h3⟩=>exact ⟨d,ds,a,b,rfl,h1,h2,h3⟩
theorem QQl {H:Type} {R:TypeId → DataW H → List AV → Prop} {ds:List (DataW H)} {xs:List AV} (h:RdF R [] ds xs):ds = [] ∧ xs = []:=by
 match ds,h with
 | [],h=>exact ⟨rfl,h⟩
theorem QV9 {H:Type} {n:Nat} {d:DataW H} {r:List AV} (h:Rd Tryz.prog (n + 2) 53 d r):∃ p:List UInt8 × List UInt8,r = QBM p ∧ d = .agg [.lit (.string p.1),.lit (.string p.2)]:=by
 obtain ⟨ds,hd,hf⟩:=QOX Tryz.underlying53 h
 obtain ⟨d0,_,a0,b0,e0,f0,g0,hf⟩:=QMa hf
 obtain ⟨d1,_,a1,b1,e1,f1,g1,hf⟩:=QMa hf
 obtain ⟨e2,f2⟩:=QQl hf
 obtain ⟨s0,k0,j0,_⟩:=QOW (n:=n) Tryz.underlying9 g0
 obtain ⟨s1,k1,j1,_⟩:=QOW (n:=n) Tryz.underlying9 g1
 exact ⟨(s0,s1),by rw [f0,j0,f1,j1,f2]; rfl,by rw [hd,e0,e1,e2,k0,k1]⟩
theorem QMb {H:Type} {n:Nat}:∀ {ds:List (DataW H)} {rows:List (List AV)},RdL (Rd Tryz.prog (n + 2) 53) ds rows → (∀ w ∈ DataW.weightsAll Tryz.prog 53 ds,w ≤ reachBytes) →
  ∃ l:List (List UInt8 × List UInt8),rows = l.map QBM ∧ l.length = ds.length ∧ ∀ e ∈ l,e.1.length ≤ reachBytes ∧ e.2.length ≤ reachBytes
 | [],[],_,_=>⟨[],rfl,rfl,by simp⟩
 | d :: ds,r :: rs,h,hz=>by
  simp only [DataW.weightsAll,List.mem_append] at hz
  obtain ⟨l,rfl,hl,hb⟩:=QMb (ds:=ds) h.2 fun w hw=>hz w (.inr hw)
  obtain ⟨a,rfl,rfl⟩:=QV9 h.1
  have h3:∀ w ∈ DataW.weights (H:=H) Tryz.prog 53 (.agg [.lit (.string a.1),.lit (.string a.2)]),w ≤ reachBytes:=fun w hw=>hz w (.inl hw)
  have h4:∃ t1 t2:TypeId,DataW.weights (H:=H) Tryz.prog 53 (.agg [.lit (.string a.1),.lit (.string a.2)]) = DataW.weightsEach (H:=H) Tryz.prog [t1,t2] [.lit (.string a.1),.lit (.string a.2)]:=by
   refine ⟨9,9,?_⟩
   rw [DataW.weights,Tryz.underlying53]
   rfl
  obtain ⟨t1,t2,h5⟩:=h4
  rw [h5] at h3
  have h6:DataW.weightsEach (H:=H) Tryz.prog [t1,t2] [.lit (.string a.1),.lit (.string a.2)] = [a.1.length,a.2.length]:=by simp [DataW.weightsEach,DataW.weights]
  rw [h6] at h3
  refine ⟨a :: l,rfl,by simp [hl],fun e he=>?_⟩
  rcases List.mem_cons.1 he with rfl | he
  ·exact ⟨h3 _ (by simp),h3 _ (by simp)⟩
  ·exact hb e he
 | [],_ :: _,h,_=>h.elim
 | _ :: _,[],h,_=>h.elim
theorem QTN {H:Type} {d:DataW H} {y:AV} (h:RdV Tryz.prog 6 47 d y) {ts:List TypeId} {ds:List (DataW H)} {i:Nat} (hd:ds[i]? = some d) (ht:ts[i]? = some 47) (hz:(DataW.weightsEach Tryz.prog ts ds).all (· ≤ reachBytes) = true):
  ∃ l:List (List UInt8 × List UInt8),y = .imm (l.map QBM) ∧ l.length ≤ maxLen ∧ ∀ e ∈ l,e.1.length ≤ 0x7ffffffff000 ∧ e.2.length ≤ 0x7ffffffff000:=by
 have hw:∀ w ∈ DataW.weights Tryz.prog 47 d,w ≤ reachBytes:=by
  induction ts generalizing ds i with
  | nil=>simp at ht
  | cons u us ih=>
   cases ds with
   | nil=>simp at hd
   | cons d' r=>
    simp only [DataW.weightsEach,List.all_append,Bool.and_eq_true] at hz
    cases i with
    | zero=>
     simp at hd ht
     subst hd; subst ht
     intro w hw
     have:=List.all_eq_true.1 hz.1 w hw
     simpa using this
    | succ i=>exact ih (by simpa using hd) (by simpa using ht) hz.2
 have h1:=QHh (fun fs e=>by rw [Tryz.underlying47] at e; cases e) h
 rcases QMH Tryz.underlying47 h1 with ⟨_,h2⟩ | ⟨es,sp,rows,hd2,h2,h3,h4⟩
 ·exact ⟨[],by simpa using h2,by simp,by simp⟩
 ·subst hd2
  obtain ⟨l,rfl,hl,hb⟩:=QMb (n:=3) h4 fun w hx=>hw w (by
   rw [DataW.weights,Tryz.underlying47]
   simp only [List.mem_cons,List.mem_append]
   exact .inr (.inl hx))
  exact ⟨l,by simpa using h2,by omega,hb⟩
end Go.Proofs.YtpknaffdaemlbaaGreatDoor
