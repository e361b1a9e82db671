/- An abstract layer over the model's memory: abstract values, abstract objects, and what it means that a world bears them. Plain lemmas, no program. -/
import Derived.WalkKit
import Derived.Orders
import Derived.KernelRfl
import Derived.Deep.MidRow
import Derived.Laws.StructEq
import Derived.Laws.AppendOwn
namespace Go.Ab
open Go
set_option linter.unusedSectionVars false

class Glob where
 ok:World → Prop
 bound:Nat
 stable:∀ {w w':World},ok w → (∀ b,b < bound → w'.heap[b]? = w.heap[b]?) → ok w'
variable [Glob]

inductive AV where
 | junk
 | bot
 | int (k:IntKind) (n:Int)
 | bool (b:Bool)
 | str (s:List UInt8)
 | nilp
 | ptr (o off:Nat)
 | eptr (o n i off:Nat)
 | iptr (cs:List AV)
 | nils
 | imm (l:List (List AV))
 | own (o n:Nat)
 | nilm
 | map (o:Nat)
 | nilf
 | fn (f:Fn) (first caps:List AV)
 | agg (cs:List AV)
 | tup (vs:List AV)
 | raw (v:Value)
 | ifc
 | win (o lo n:Nat)
 | it (o:Nat)
 | pre (o lo n m:Nat)
 | ifv (t:Nat) (a:AV)
 deriving Inhabited

inductive AObj where
 | unborn
 | dead
 | box (e:Nat) (cs:List AV)
 | reg (e sz:Nat) (l:List (List AV))
 | map (kvs:List (AV × AV))
 | iter (m since:Nat) (seen:List Nat)
 deriving Inhabited

structure Cx where
 F:Nat → Prop
 μ:List Value
 H:List AObj
 w:World

mutual
def Val (c:Cx):AV → Value → Prop
 | .junk,_=>True
 | .bot,_=>False
 | .int k n,v=>v = .int k n
 | .bool b,v=>v = .bool b
 | .str s,v=>v = .string ⟨s.toArray⟩
 | .nilp,v=>v = .pointer none
 | .ptr o off,v=>∃ e cs b,c.H[o]? = some (.box e cs) ∧ c.μ[o]? = some (.pointer (some ⟨b,0,none⟩)) ∧ v = .pointer (some ⟨b,off,none⟩)
 | .eptr o n i off,v=>(∃ a,v = .pointer a) ∧ ((∃ e sz l,c.H[o]? = some (.reg e sz l) ∧ n ≤ l.length ∧ (n = l.length → ∃ g len cap o0,c.μ[o]? = some (.slice (some ⟨g,o0,none⟩) len cap) ∧ v = .pointer (some ⟨g,o0 + (i * sz + off),none⟩))) ∨ c.H[o]? = some .dead)
 | .iptr cs,v=>∃ b off,v = .pointer (some ⟨b,off,none⟩) ∧ c.F b ∧ QBN c cs b off
 | .nils,v=>v = .slice none 0 0
 | .imm l,v=>(∃ b off cap sz,v = .slice (some ⟨b,off,none⟩) l.length cap ∧ c.F b ∧ l.length ≤ cap ∧ QAh c l b off sz) ∨ (l = [] ∧ ∃ a cp,v = .slice a 0 cp)
 | .own o n,v=>(∃ a k cp,v = .slice a k cp) ∧ ((∃ e sz l,c.H[o]? = some (.reg e sz l) ∧ n ≤ l.length ∧ (n = l.length → c.μ[o]? = some v)) ∨ c.H[o]? = some .dead)
 | .nilm,v=>v = .map none
 | .map o,v=>∃ kvs r,c.H[o]? = some (.map kvs) ∧ c.μ[o]? = some (.map (some r)) ∧ v = .map (some r)
 | .nilf,v=>v = .nilFunc
 | .fn f fs cs,v=>∃ vf vc:Array Value,v = .func f vf vc ∧ QA3 c fs vf.toList ∧ QA3 c cs vc.toList
 | .agg cs,v=>∃ vs:Array Value,v = .agg vs ∧ QA3 c cs vs.toList ∧ ∀ u ∈ vs.toList,u.oneCell' = true
 | .tup cs,v=>∃ vs:Array Value,v = .tuple vs ∧ QA3 c cs vs.toList
 | .raw u,v=>v = u
 | .ifc,v=>∃ t x,v = .iface t x
 | .ifv t a,v=>∃ x,v = .iface t x ∧ Val c a x
 | .win o lo n,v=>∃ e cs b cap,c.H[o]? = some (.box e cs) ∧ c.μ[o]? = some (.pointer (some ⟨b,0,none⟩)) ∧ v = .slice (some ⟨b,lo,none⟩) n cap
 | .pre o lo n m,v=>(∃ a k cp,v = .slice a k cp) ∧ ((∃ e sz l,c.H[o]? = some (.reg e sz l) ∧ m ≤ l.length ∧ (m = l.length → lo + n ≤ m ∧ ((∃ g len cap o0 cp,c.μ[o]? = some (.slice (some ⟨g,o0,none⟩) len cap) ∧ v = .slice (some ⟨g,o0 + lo * sz,none⟩) n cp ∧ n ≤ cp ∧ lo + cp = cap) ∨ (n = 0 ∧ (v = .slice none 0 0 ∨ ∃ g len cap o0 d,c.μ[o]? = some (.slice (some ⟨g,o0,none⟩) len cap) ∧ v = .slice (some ⟨g,o0 + d * sz,none⟩) 0 0 ∧ d ≤ cap))))) ∨ c.H[o]? = some .dead)
 | .it o,v=>∃ m s l b,c.H[o]? = some (.iter m s l) ∧ c.μ[o]? = some (.pointer (some ⟨b,0,none⟩)) ∧ v = .pointer (some ⟨b,0,none⟩)
def QA3 (c:Cx):List AV → List Value → Prop
 | [],vs=>vs = []
 | a :: as,vs=>∃ v vs',vs = v :: vs' ∧ Val c a v ∧ QA3 c as vs'
def QBN (c:Cx):List AV → Nat → Nat → Prop
 | [],_,_=>True
 | a :: as,b,off=>(∃ v,c.w.cell? ⟨b,off,none⟩ = some v ∧ v.oneCell' = true ∧ Val c a v) ∧ QBN c as b (off + 1)
def QAh (c:Cx):List (List AV) → Nat → Nat → Nat → Prop
 | [],_,_,_=>True
 | r :: rs,b,off,sz=>r.length = sz ∧ QBN c r b off ∧ QAh c rs b (off + sz) sz
end

def QB7:AV → Bool
 | .junk=>true
 | _=>false
def Kvs (c:Cx):List (AV × AV) → Nat → List MapEntry → Prop
 | [],_,es=>es = []
 | kv :: r,n,es=>if QB7 kv.1 then Kvs c r (n + 1) es else ∃ e es',es = e :: es' ∧ Val c kv.1 e.key ∧ Val c kv.2 e.val ∧ e.born = n ∧ Kvs c r (n + 1) es'

def AObj.alive:AObj → Bool
 | .box .. | .reg .. | .map _ | .iter ..=>true
 | _=>false

def blk:Value → Option Nat
 | .pointer (some a)=>some a.block
 | .slice (some a) _ _=>some a.block
 | .map (some r)=>some r
 | _=>none

def QLE (c:Cx) (o:Nat):AObj → Prop
 | .unborn | .dead=>True
 | .box e cs=>∃ b arr,c.μ[o]? = some (.pointer (some ⟨b,0,none⟩)) ∧ c.w.heap[b]? = some (.cells arr e (0,0)) ∧ arr.size = cs.length ∧ QBN c cs b 0
 | .reg e sz l=>∃ v,c.μ[o]? = some v ∧ ((v = .slice none 0 0 ∧ l = []) ∨ ∃ g o0 cap cur,v = .slice (some ⟨g,o0,none⟩) l.length cap ∧ c.w.heap[g]? = some (.cells cur e (0,0)) ∧ l.length ≤ cap ∧ cap ≤ maxLen ∧ (o0 + cap * sz ≤ cur.size ∧ (sz = 1 → o0 = 0)) ∧ QAh c l g o0 sz)
 | .map kvs=>∃ r es,c.μ[o]? = some (.map (some r)) ∧ c.w.heap[r]? = some (.map es kvs.length) ∧ Kvs c kvs 0 es.toList
 | .iter m s l=>∃ b r kvs,c.μ[o]? = some (.pointer (some ⟨b,0,none⟩)) ∧ c.w.heap[b]? = some (.mapIter (some r) s l.toArray s) ∧ c.H[m]? = some (.map kvs) ∧ c.μ[m]? = some (.map (some r))

def QBi (c:Cx) (o b:Nat):Prop:=∃ x v,c.H[o]? = some x ∧ x.alive = true ∧ c.μ[o]? = some v ∧ blk v = some b

structure Rel (c:Cx):Prop where
 len:c.μ.length = c.H.length
 obj:∀ (o:Nat) (x:AObj),c.H[o]? = some x → QLE c o x
 inj:∀ o o' b,QBi c o b → QBi c o' b → o = o'
 free:∀ o b,QBi c o b → ¬ c.F b
 lt:∀ b,c.F b → b < c.w.heap.size
 gl:Glob.ok c.w
 gb:Glob.bound ≤ c.w.heap.size
 go:∀ o b,QBi c o b → Glob.bound ≤ b

def OStep (x y:AObj) (m m':Option Value):Prop:=
 match x,y with
 | .unborn,_=>True
 | .dead,.dead=>True
 | .box e _,.box e' _=>e' = e ∧ m' = m
 | .map _,.map _=>m' = m
 | .iter o s _,.iter o' s' _=>o' = o ∧ s' = s ∧ m' = m
 | .reg e sz l,.reg e' sz' l'=>e' = e ∧ sz' = sz ∧ l.length ≤ l'.length ∧ (l'.length = l.length → m' = m)
 | .reg ..,.dead=>True
 | _,_=>False

theorem OStep.refl (x:AObj) (m:Option Value):OStep x x m m:=by
 cases x <;> simp [OStep]

theorem OStep.trans {x y z:AObj} {m m' m'':Option Value} (h:OStep x y m m') (k:OStep y z m' m''):OStep x z m m'':=by
 cases x with
 | unborn=>simp [OStep]
 | dead=>cases y <;> simp [OStep] at h; cases z <;> simp [OStep] at k ⊢
 | box e cs=>cases y <;> simp [OStep] at h; cases z <;> simp [OStep] at k ⊢; exact ⟨k.1.trans h.1,k.2.trans h.2⟩
 | map kv=>cases y <;> simp [OStep] at h; cases z <;> simp [OStep] at k ⊢; exact k.trans h
 | iter o s l=>cases y <;> simp [OStep] at h; cases z <;> simp [OStep] at k ⊢; exact ⟨k.1.trans h.1,k.2.1.trans h.2.1,k.2.2.trans h.2.2⟩
 | reg e sz l=>
  cases y <;> simp [OStep] at h
  ·cases z <;> simp [OStep] at k ⊢
  ·cases z <;> simp [OStep] at k ⊢
   obtain ⟨rfl,rfl,h1,h2⟩:=h
   obtain ⟨rfl,rfl,h3,h4⟩:=k
   exact ⟨rfl,rfl,by omega,fun hl=>(h4 (by omega)).trans (h2 (by omega))⟩

structure Ext (c c':Cx):Prop where
 fr:∀ b,c.F b → c'.F b
 frn:∀ b,c'.F b → c.F b ∨ c.w.heap.size ≤ b ∨ ∃ o,QBi c o b
 keep:∀ b,b < c.w.heap.size → (∀ o,¬ QBi c o b) → c'.w.heap[b]? = c.w.heap[b]?
 size:c.w.heap.size ≤ c'.w.heap.size
 os:c'.w.os = c.w.os
 tape:c'.w.tape = c.w.tape
 output:c'.w.output = c.w.output
 own:∀ o b,QBi c' o b → c.w.heap.size ≤ b ∨ ∃ o',QBi c o' b
 obj:∀ (o:Nat) (x:AObj),c.H[o]? = some x → ∃ y:AObj,c'.H[o]? = some y ∧ OStep x y c.μ[o]? c'.μ[o]?

theorem Ext.refl (c:Cx):Ext c c:=
 ⟨fun _ h=>h,fun _ h=>.inl h,fun _ _ _=>rfl,Nat.le_refl _,rfl,rfl,rfl,fun o _ h=>.inr ⟨o,h⟩,fun _ x h=>⟨x,h,OStep.refl _ _⟩⟩

theorem Ext.trans {a b c:Cx} (h:Ext a b) (k:Ext b c):Ext a c where
 fr:=fun x hx=>k.fr x (h.fr x hx)
 frn:=fun x hx=>by
  rcases k.frn x hx with h1 | h1 | ⟨o,h1⟩
  ·exact h.frn x h1
  ·exact .inr (.inl (Nat.le_trans h.size h1))
  ·rcases h.own o x h1 with h2 | h2
   ·exact .inr (.inl h2)
   ·exact .inr (.inr h2)
 keep:=fun x hx hn=>by
  rw [k.keep x (Nat.lt_of_lt_of_le hx h.size) (fun o ho=>by
   rcases h.own o x ho with h2 | ⟨o',h2⟩
   ·omega
   ·exact hn o' h2),h.keep x hx hn]
 size:=Nat.le_trans h.size k.size
 os:=k.os.trans h.os
 tape:=k.tape.trans h.tape
 output:=k.output.trans h.output
 own:=fun o x hx=>by
  rcases k.own o x hx with h1 | ⟨o',h1⟩
  ·exact .inl (Nat.le_trans h.size h1)
  ·exact h.own o' x h1
 obj:=fun o x hx=>by
  obtain ⟨y,hy,sy⟩:=h.obj o x hx
  obtain ⟨z,hz,sz⟩:=k.obj o y hy
  exact ⟨z,hz,sy.trans sz⟩

structure ExtN (k:Nat) (c c':Cx):Prop where
 fr:∀ b,c.F b → c'.F b
 frn:∀ b,c'.F b → c.F b ∨ c.w.heap.size ≤ b ∨ ∃ o,QBi c o b
 keep:∀ b,b < c.w.heap.size → (∀ o,¬ QBi c o b) → c'.w.heap[b]? = c.w.heap[b]?
 size:c.w.heap.size ≤ c'.w.heap.size
 os:c'.w.os = c.w.os
 tape:c'.w.tape = c.w.tape
 output:c'.w.output = c.w.output
 own:∀ o b,QBi c' o b → c.w.heap.size ≤ b ∨ ∃ o',QBi c o' b
 obj:∀ (o:Nat) (x:AObj),o < k → c.H[o]? = some x → ∃ y:AObj,c'.H[o]? = some y ∧ OStep x y c.μ[o]? c'.μ[o]?

theorem Ext.toN {c c':Cx} (h:Ext c c') (k:Nat):ExtN k c c':=
 ⟨h.fr,h.frn,h.keep,h.size,h.os,h.tape,h.output,h.own,fun o x _ hx=>h.obj o x hx⟩

theorem ExtN.refl (k:Nat) (c:Cx):ExtN k c c:=(Ext.refl c).toN k

theorem ExtN.trans {n:Nat} {a b c:Cx} (h:ExtN n a b) (k:ExtN n b c):ExtN n a c where
 fr:=fun x hx=>k.fr x (h.fr x hx)
 frn:=fun x hx=>by
  rcases k.frn x hx with h1 | h1 | ⟨o,h1⟩
  ·exact h.frn x h1
  ·exact .inr (.inl (Nat.le_trans h.size h1))
  ·rcases h.own o x h1 with h2 | h2
   ·exact .inr (.inl h2)
   ·exact .inr (.inr h2)
 keep:=fun x hx hn=>by
  rw [k.keep x (Nat.lt_of_lt_of_le hx h.size) (fun o ho=>by
   rcases h.own o x ho with h2 | ⟨o',h2⟩
   ·omega
   ·exact hn o' h2),h.keep x hx hn]
 size:=Nat.le_trans h.size k.size
 os:=k.os.trans h.os
 tape:=k.tape.trans h.tape
 output:=k.output.trans h.output
 own:=fun o x hx=>by
  rcases k.own o x hx with h1 | ⟨o',h1⟩
  ·exact .inl (Nat.le_trans h.size h1)
  ·exact h.own o' x h1
 obj:=fun o x ho hx=>by
  obtain ⟨y,hy,sy⟩:=h.obj o x ho hx
  obtain ⟨z,hz,sz⟩:=k.obj o y ho hy
  exact ⟨z,hz,sy.trans sz⟩

structure QIx (c c':Cx):Prop where
 fr:∀ b,c.F b → c'.F b
 keep:∀ b,c.F b → c'.w.heap[b]? = c.w.heap[b]?
 obj:∀ (o:Nat) (x:AObj),x ≠ .unborn → c.H[o]? = some x → ∃ y:AObj,c'.H[o]? = some y ∧ OStep x y c.μ[o]? c'.μ[o]?

theorem cell?_block {w w':World} {b off:Nat} (h:w'.heap[b]? = w.heap[b]?):w'.cell? ⟨b,off,none⟩ = w.cell? ⟨b,off,none⟩:=by
 simp [World.cell?,h]

mutual
theorem QB1 {c c':Cx} (h:QIx c c'):∀ (x:AV) (v:Value),Val c x v → Val c' x v
 | .junk,_,_=>by simp only [Val]
 | .bot,_,hv=>by simp only [Val] at hv
 | .int ..,_,hv=>by simpa only [Val] using hv
 | .bool ..,_,hv=>by simpa only [Val] using hv
 | .str ..,_,hv=>by simpa only [Val] using hv
 | .nilp,_,hv=>by simpa only [Val] using hv
 | .ptr o off,v,hv=>by
  simp only [Val] at hv ⊢
  obtain ⟨e,cs,b,h1,h2,h3⟩:=hv
  obtain ⟨y,hy,hs⟩:=h.obj o _ (by simp) h1
  cases y <;> simp [OStep] at hs
  exact ⟨_,_,b,hy,hs.2.trans h2,h3⟩
 | .ifc,_,hv=>by simpa only [Val] using hv
 | .ifv t a,v,hv=>by
  simp only [Val] at hv ⊢
  obtain ⟨x,rfl,h1⟩:=hv
  exact ⟨x,rfl,QB1 h a x h1⟩
 | .win o lo n,v,hv=>by
  simp only [Val] at hv ⊢
  obtain ⟨e,cs,b,cap,h1,h2,h3⟩:=hv
  obtain ⟨y,hy,hs⟩:=h.obj o _ (by simp) h1
  cases y <;> simp [OStep] at hs
  exact ⟨_,_,b,cap,hy,hs.2.trans h2,h3⟩
 | .eptr o n i off,v,hv=>by
  simp only [Val] at hv ⊢
  refine ⟨hv.1,?_⟩
  rcases hv.2 with ⟨e,sz,l,h1,h2,h3⟩ | h1
  ·obtain ⟨y,hy,hs⟩:=h.obj o _ (by simp) h1
   cases y <;> simp [OStep] at hs
   ·exact .inr hy
   ·obtain ⟨rfl,rfl,h5,h6⟩:=hs
    refine .inl ⟨_,_,_,hy,by omega,fun hn=>?_⟩
    obtain ⟨g,len,cap,o0,h7,h8⟩:=h3 (by omega)
    exact ⟨g,len,cap,o0,(h6 (by omega)).trans h7,h8⟩
  ·obtain ⟨y,hy,hs⟩:=h.obj o _ (by simp) h1
   cases y <;> simp [OStep] at hs
   exact .inr hy
 | .iptr cs,v,hv=>by
  simp only [Val] at hv ⊢
  obtain ⟨b,off,h1,h2,h3⟩:=hv
  exact ⟨b,off,h1,h.fr b h2,QE2 h cs b off (h.keep b h2) h3⟩
 | .nils,_,hv=>by simpa only [Val] using hv
 | .imm l,v,hv=>by
  simp only [Val] at hv ⊢
  rcases hv with ⟨b,off,cap,sz,h1,h2,h3,h4⟩ | h1
  ·exact .inl ⟨b,off,cap,sz,h1,h.fr b h2,h3,QDf h l b off sz (h.keep b h2) h4⟩
  ·exact .inr h1
 | .own o n,v,hv=>by
  simp only [Val] at hv ⊢
  refine ⟨hv.1,?_⟩
  rcases hv.2 with ⟨e,sz,l,h1,h2,h3⟩ | h1
  ·obtain ⟨y,hy,hs⟩:=h.obj o _ (by simp) h1
   cases y <;> simp [OStep] at hs
   ·exact .inr hy
   ·obtain ⟨rfl,rfl,h5,h6⟩:=hs
    exact .inl ⟨_,_,_,hy,by omega,fun hn=>(h6 (by omega)).trans (h3 (by omega))⟩
  ·obtain ⟨y,hy,hs⟩:=h.obj o _ (by simp) h1
   cases y <;> simp [OStep] at hs
   exact .inr hy
 | .nilm,_,hv=>by simpa only [Val] using hv
 | .map o,v,hv=>by
  simp only [Val] at hv ⊢
  obtain ⟨kvs,r,h1,h2,h3⟩:=hv
  obtain ⟨y,hy,hs⟩:=h.obj o _ (by simp) h1
  cases y <;> simp [OStep] at hs
  exact ⟨_,r,hy,hs.trans h2,h3⟩
 | .pre o lo n m,v,hv=>by
  simp only [Val] at hv ⊢
  refine ⟨hv.1,?_⟩
  rcases hv.2 with ⟨e,sz,l,h1,h2,h3⟩ | h1
  ·obtain ⟨y,hy,hs⟩:=h.obj o _ (by simp) h1
   cases y <;> simp [OStep] at hs
   ·exact .inr hy
   ·obtain ⟨rfl,rfl,h5,h6⟩:=hs
    refine .inl ⟨_,_,_,hy,by omega,fun hn=>?_⟩
    obtain ⟨k1,k2⟩:=h3 (by omega)
    refine ⟨k1,k2.imp ?_ (And.imp_right (Or.imp_right ?_))⟩
    ·rintro ⟨g,len,cap,o0,cp,k3,k4⟩
     exact ⟨g,len,cap,o0,cp,(h6 (by omega)).trans k3,k4⟩
    ·rintro ⟨g,len,cap,o0,d,k3,k4⟩
     exact ⟨g,len,cap,o0,d,(h6 (by omega)).trans k3,k4⟩
  ·obtain ⟨y,hy,hs⟩:=h.obj o _ (by simp) h1
   cases y <;> simp [OStep] at hs
   exact .inr hy
 | .it o,v,hv=>by
  simp only [Val] at hv ⊢
  obtain ⟨m,s,l,b,h1,h2,h3⟩:=hv
  obtain ⟨y,hy,hs⟩:=h.obj o _ (by simp) h1
  cases y <;> simp [OStep] at hs
  exact ⟨_,_,_,b,hy,hs.2.2.trans h2,h3⟩
 | .nilf,_,hv=>by simpa only [Val] using hv
 | .fn f fs cs,v,hv=>by
  simp only [Val] at hv ⊢
  obtain ⟨vf,vc,h1,h2,h3⟩:=hv
  exact ⟨vf,vc,h1,QD5 h fs _ h2,QD5 h cs _ h3⟩
 | .agg cs,v,hv=>by
  simp only [Val] at hv ⊢
  obtain ⟨vs,h1,h2,h3⟩:=hv
  exact ⟨vs,h1,QD5 h cs _ h2,h3⟩
 | .tup cs,v,hv=>by
  simp only [Val] at hv ⊢
  obtain ⟨vs,h1,h2⟩:=hv
  exact ⟨vs,h1,QD5 h cs _ h2⟩
 | .raw ..,_,hv=>by simpa only [Val] using hv
theorem QD5 {c c':Cx} (h:QIx c c'):∀ (l:List AV) (vs:List Value),QA3 c l vs → QA3 c' l vs
 | [],_,hv=>by simpa only [QA3] using hv
 | a :: as,vs,hv=>by
  simp only [QA3] at hv ⊢
  obtain ⟨v,vs',h1,h2,h3⟩:=hv
  exact ⟨v,vs',h1,QB1 h a v h2,QD5 h as vs' h3⟩
theorem QE2 {c c':Cx} (h:QIx c c'):∀ (l:List AV) (b off:Nat),c'.w.heap[b]? = c.w.heap[b]? → QBN c l b off → QBN c' l b off
 | [],_,_,_,_=>by simp only [QBN]
 | a :: as,b,off,hb,hv=>by
  simp only [QBN] at hv ⊢
  obtain ⟨⟨v,h1,h2,h3⟩,h4⟩:=hv
  exact ⟨⟨v,(cell?_block hb).trans h1,h2,QB1 h a v h3⟩,QE2 h as b (off + 1) hb h4⟩
theorem QDf {c c':Cx} (h:QIx c c'):∀ (l:List (List AV)) (b off sz:Nat),c'.w.heap[b]? = c.w.heap[b]? → QAh c l b off sz → QAh c' l b off sz
 | [],_,_,_,_,_=>by simp only [QAh]
 | r :: rs,b,off,sz,hb,hv=>by
  simp only [QAh] at hv ⊢
  exact ⟨hv.1,QE2 h r b off hb hv.2.1,QDf h rs b (off + sz) sz hb hv.2.2⟩
end

theorem QIK {c c':Cx} {f:AV → AV} (hg:∀ x,QB7 (f x) = QB7 x) (P:AV → Prop) (h:∀ x v,P x → Val c x v → Val c' (f x) v):∀ (l:List (AV × AV)) (n:Nat) (es:List MapEntry),(∀ p ∈ l,QB7 p.1 = false → P p.1 ∧ P p.2) → Kvs c l n es → Kvs c' (l.map fun p=>(f p.1,f p.2)) n es
 | [],_,_,_,hv=>by simpa only [Kvs,List.map_nil] using hv
 | kv :: r,n,es,hP,hv=>by
  simp only [Kvs,List.map_cons,hg] at hv ⊢
  split at hv
  ·rename_i hk
   rw [if_pos hk]
   exact QIK hg P h r (n + 1) es (fun p hp=>hP p (by simp [hp])) hv
  ·rename_i hk
   rw [if_neg hk]
   obtain ⟨e,es',h1,h2,h3,h4,h5⟩:=hv
   obtain ⟨p1,p2⟩:=hP kv (by simp) (by simpa using hk)
   exact ⟨e,es',h1,h _ _ p1 h2,h _ _ p2 h3,h4,QIK hg P h r (n + 1) es' (fun p hp=>hP p (by simp [hp])) h5⟩
theorem QEe {c c':Cx} (h:QIx c c') (l:List (AV × AV)) (n:Nat) (es:List MapEntry) (hv:Kvs c l n es):Kvs c' l n es:=by
 have:=QIK (f:=id) (fun _=>rfl) (fun _=>True) (fun x v _=>QB1 h x v) l n es (fun _ _ _=>⟨trivial,trivial⟩) hv
 simpa using this

theorem Ext.vext {c c':Cx} (h:Ext c c') (hr:Rel c):QIx c c':=
 ⟨h.fr,fun b hb=>h.keep b (hr.lt b hb) (fun o ho=>hr.free o b ho hb),fun o x _ hx=>h.obj o x hx⟩

theorem Ext.val {c c':Cx} (h:Ext c c') (hr:Rel c) {x:AV} {v:Value} (hv:Val c x v):Val c' x v:=QB1 (h.vext hr) x v hv

theorem QT3 {c:Cx} (hr:Rel c) {o:Nat} {x x':AObj} {v':Value} {F':Nat → Prop} {w':World} (ho:c.H[o]? = some x)
  (hs:OStep x x' c.μ[o]? (some v')) (hF:∀ b,c.F b → F' b) (hF':∀ b,F' b → c.F b ∨ c.w.heap.size ≤ b)
  (hk:∀ b,b < c.w.heap.size → ¬ QBi c o b → w'.heap[b]? = c.w.heap[b]?) (hsz:c.w.heap.size ≤ w'.heap.size)
  (hos:w'.os = c.w.os) (htp:w'.tape = c.w.tape) (hou:w'.output = c.w.output)
  (hb:∀ b,x'.alive = true → blk v' = some b → c.w.heap.size ≤ b ∨ QBi c o b):
  Ext c ⟨F',c.μ.set o v',c.H.set o x',w'⟩:=by
 have hlt:o < c.H.length:=(List.getElem?_eq_some_iff.1 ho).1
 have hlm:o < c.μ.length:=by rw [hr.len]; exact hlt
 refine ⟨hF,fun b hb=>(hF' b hb).imp id .inl,fun b h1 h2=>hk b h1 (h2 o),hsz,hos,htp,hou,?_,?_⟩
 ·rintro p b ⟨y,v,h1,h2,h3,h4⟩
  by_cases hp:o = p
  ·subst hp
   simp only [List.getElem?_set_self hlt,Option.some.injEq] at h1
   simp only [List.getElem?_set_self hlm,Option.some.injEq] at h3
   subst h1 h3
   exact (hb b h2 h4).imp id fun h=>⟨o,h⟩
  ·simp only [List.getElem?_set_ne hp] at h1 h3
   exact .inr ⟨p,y,v,h1,h2,h3,h4⟩
 ·intro p y hy
  by_cases hp:o = p
  ·subst hp
   rw [ho] at hy
   obtain rfl:=Option.some.inj hy
   exact ⟨x',by simp [hlt],by simpa [hlm] using hs⟩
  ·exact ⟨y,by simpa [List.getElem?_set_ne hp] using hy,by simpa [List.getElem?_set_ne hp] using OStep.refl _ _⟩

theorem QDn {c c':Cx} (h:QIx c c') {o:Nat} {x:AObj} (hx:QLE c o x) (hH:c.H[o]? = some x) (hm:c'.μ[o]? = c.μ[o]?)
  (hb:∀ b,QBi c o b → c'.w.heap[b]? = c.w.heap[b]?):QLE c' o x:=by
 cases x with
 | unborn=>trivial
 | dead=>trivial
 | box e cs=>
  obtain ⟨b,arr,h1,h2,h3,h4⟩:=hx
  have hk:=hb b ⟨_,_,hH,rfl,h1,rfl⟩
  exact ⟨b,arr,hm.trans h1,hk.trans h2,h3,QE2 h cs b 0 hk h4⟩
 | reg e sz l=>
  obtain ⟨v,h1,h2⟩:=hx
  refine ⟨v,hm.trans h1,h2.imp id ?_⟩
  rintro ⟨g,o0,cap,cur,h3,h4,h5,h6,h7,h8⟩
  have hk:=hb g ⟨_,_,hH,rfl,h1,by rw [h3]; rfl⟩
  exact ⟨g,o0,cap,cur,h3,hk.trans h4,h5,h6,h7,QDf h l g o0 sz hk h8⟩
 | map kvs=>
  obtain ⟨r,es,h1,h2,h3⟩:=hx
  have hk:=hb r ⟨_,_,hH,rfl,h1,rfl⟩
  exact ⟨r,es,hm.trans h1,hk.trans h2,QEe h kvs _ _ h3⟩
 | iter m s l=>
  obtain ⟨b,r,kvs,h1,h2,h3,h4⟩:=hx
  have hk:=hb b ⟨_,_,hH,rfl,h1,rfl⟩
  obtain ⟨y,hy,hs⟩:=h.obj m _ (by simp) h3
  cases y <;> simp [OStep] at hs
  exact ⟨b,r,_,hm.trans h1,hk.trans h2,hy,hs.trans h4⟩

theorem QDZ {c:Cx} (hr:Rel c) {o b:Nat} (h:QBi c o b):b < c.w.heap.size:=by
 obtain ⟨x,v,h1,h2,h3,h4⟩:=h
 have hlt:∀ {y:Go.Obj},c.w.heap[b]? = some y → b < c.w.heap.size:=fun h=>(Array.getElem?_eq_some_iff.1 h).1
 have hx:=hr.obj o x h1
 cases x with
 | unborn=>cases h2
 | dead=>cases h2
 | box e cs=>
  obtain ⟨b',arr,h5,h6,_⟩:=hx
  rw [h3] at h5; obtain rfl:=Option.some.inj h5
  simp only [blk,Option.some.injEq] at h4
  subst h4
  exact hlt h6
 | reg e sz l=>
  obtain ⟨v',h5,h6⟩:=hx
  rw [h3] at h5; obtain rfl:=Option.some.inj h5
  rcases h6 with ⟨rfl,_⟩ | ⟨g,o0,cap,cur,rfl,h7,_⟩
  ·simp [blk] at h4
  ·simp only [blk,Option.some.injEq] at h4
   subst h4
   exact hlt h7
 | map kvs=>
  obtain ⟨r,es,h5,h6,_⟩:=hx
  rw [h3] at h5; obtain rfl:=Option.some.inj h5
  simp only [blk,Option.some.injEq] at h4
  subst h4
  exact hlt h6
 | iter m s l=>
  obtain ⟨b',r,kvs,h5,h6,_⟩:=hx
  rw [h3] at h5; obtain rfl:=Option.some.inj h5
  simp only [blk,Option.some.injEq] at h4
  subst h4
  exact hlt h6

theorem QC3 {c:Cx} (hr:Rel c) {o:Nat} {x x':AObj} {v':Value} {F':Nat → Prop} {w':World} (ho:c.H[o]? = some x)
  (hs:OStep x x' c.μ[o]? (some v')) (hF:∀ b,c.F b → F' b) (hF':∀ b,F' b → c.F b ∨ (c.w.heap.size ≤ b ∧ b < w'.heap.size ∧ blk v' ≠ some b))
  (hk:∀ b,b < c.w.heap.size → ¬ QBi c o b → w'.heap[b]? = c.w.heap[b]?) (hsz:c.w.heap.size ≤ w'.heap.size)
  (hos:w'.os = c.w.os) (htp:w'.tape = c.w.tape) (hou:w'.output = c.w.output)
  (hb:∀ b,x'.alive = true → blk v' = some b → c.w.heap.size ≤ b ∨ QBi c o b)
  (hok:Ext c ⟨F',c.μ.set o v',c.H.set o x',w'⟩ → QLE ⟨F',c.μ.set o v',c.H.set o x',w'⟩ o x'):
  Rel ⟨F',c.μ.set o v',c.H.set o x',w'⟩ ∧ Ext c ⟨F',c.μ.set o v',c.H.set o x',w'⟩:=by
 have hE:=QT3 hr ho hs hF (fun b hb=>(hF' b hb).imp id (·.1)) hk hsz hos htp hou hb
 have hlt:o < c.H.length:=(List.getElem?_eq_some_iff.1 ho).1
 have hlm:o < c.μ.length:=by rw [hr.len]; exact hlt
 have hown:∀ p b,QBi ⟨F',c.μ.set o v',c.H.set o x',w'⟩ p b → (p = o ∧ x'.alive = true ∧ blk v' = some b) ∨ (p ≠ o ∧ QBi c p b):=by
  rintro p b ⟨y,v,h1,h2,h3,h4⟩
  by_cases hp:o = p
  ·subst hp
   simp only [List.getElem?_set_self hlt,Option.some.injEq] at h1
   simp only [List.getElem?_set_self hlm,Option.some.injEq] at h3
   subst h1 h3
   exact .inl ⟨rfl,h2,h4⟩
  ·simp only [List.getElem?_set_ne hp] at h1 h3
   exact .inr ⟨fun e=>hp e.symm,y,v,h1,h2,h3,h4⟩
 have hclash:∀ p b,p ≠ o → QBi c p b → x'.alive = true → blk v' = some b → False:=by
  intro p b hp hpb ha hbv
  rcases hb b ha hbv with h1 | h1
  ·have:=QDZ hr hpb; omega
  ·exact hp (hr.inj _ _ _ hpb h1)
 refine ⟨⟨by simp [hr.len],?_,?_,?_,?_,?_,?_,?_⟩,hE⟩
 ·intro p y hy
  by_cases hp:o = p
  ·subst hp
   simp only [List.getElem?_set_self hlt,Option.some.injEq] at hy
   subst hy
   exact hok hE
  ·simp only [List.getElem?_set_ne hp] at hy
   refine QDn (hE.vext hr) (hr.obj p y hy) hy (by simp [List.getElem?_set_ne hp]) fun b hpb=>?_
   exact hk b (QDZ hr hpb) (fun h=>hp (hr.inj _ _ _ h hpb))
 ·intro p q b hp hq
  rcases hown p b hp with ⟨rfl,h2,h3⟩ | ⟨h1,h2⟩ <;> rcases hown q b hq with ⟨rfl,h5,h6⟩ | ⟨h4,h5⟩
  ·rfl
  ·exact (hclash _ _ h4 h5 h2 h3).elim
  ·exact (hclash _ _ h1 h2 h5 h6).elim
  ·exact hr.inj _ _ _ h2 h5
 ·intro p b hp hf
  rcases hown p b hp with ⟨rfl,h2,h3⟩ | ⟨h1,h2⟩
  ·rcases hF' b hf with h4 | ⟨h4,h5,h6⟩
   ·rcases hb b h2 h3 with h7 | h7
    ·have:=hr.lt b h4; omega
    ·exact hr.free _ _ h7 h4
   ·exact h6 h3
  ·rcases hF' b hf with h4 | ⟨h4,_⟩
   ·exact hr.free _ _ h2 h4
   ·have:=QDZ hr h2; omega
 ·intro b hf
  rcases hF' b hf with h4 | ⟨_,h5,_⟩
  ·exact Nat.lt_of_lt_of_le (hr.lt b h4) hsz
  ·exact h5
 ·exact Glob.stable hr.gl fun b hb=>hk b (Nat.lt_of_lt_of_le hb hr.gb) fun h=>by have:=hr.go _ _ h; omega
 ·exact Nat.le_trans hr.gb hsz
 ·intro p b hp
  rcases hown p b hp with ⟨rfl,h2,h3⟩ | ⟨_,h2⟩
  ·rcases hb b h2 h3 with h | h
   ·exact Nat.le_trans hr.gb h
   ·exact hr.go _ _ h
  ·exact hr.go _ _ h2

theorem QEf {c:Cx} (hr:Rel c) {F':Nat → Prop} {w':World} (hF:∀ b,c.F b → F' b) (hF':∀ b,F' b → c.F b ∨ (c.w.heap.size ≤ b ∧ b < w'.heap.size))
  (hk:∀ b,b < c.w.heap.size → w'.heap[b]? = c.w.heap[b]?) (hsz:c.w.heap.size ≤ w'.heap.size)
  (hos:w'.os = c.w.os) (htp:w'.tape = c.w.tape) (hou:w'.output = c.w.output):Rel ⟨F',c.μ,c.H,w'⟩ ∧ Ext c ⟨F',c.μ,c.H,w'⟩:=by
 have hE:Ext c ⟨F',c.μ,c.H,w'⟩:=⟨hF,fun b hb=>(hF' b hb).imp id fun h=>.inl h.1,fun b h1 _=>hk b h1,hsz,hos,htp,hou,fun o b h=>.inr ⟨o,h⟩,fun _ x h=>⟨x,h,OStep.refl _ _⟩⟩
 refine ⟨⟨hr.len,?_,fun o o' b h h'=>hr.inj o o' b h h',?_,?_,Glob.stable hr.gl fun b hb=>hk b (Nat.lt_of_lt_of_le hb hr.gb),Nat.le_trans hr.gb hsz,fun o b h=>hr.go o b h⟩,hE⟩
 ·intro p y hy
  exact QDn (hE.vext hr) (hr.obj p y hy) hy rfl fun b hpb=>hk b (QDZ hr hpb)
 ·intro o b ho hf
  rcases hF' b hf with h | ⟨h,_⟩
  ·exact hr.free o b ho h
  ·have:=QDZ hr (c:=c) (o:=o) ho; omega
 ·intro b hf
  rcases hF' b hf with h | h
  ·exact Nat.lt_of_lt_of_le (hr.lt b h) hsz
  ·exact h.2

theorem QND {c:Cx} (hr:Rel c):Rel { c with w:=c.w.drew } ∧ Ext c { c with w:=c.w.drew }:=
 QEf hr (fun _ h=>h) (fun _ h=>.inl h) (fun _ _=>rfl) (Nat.le_refl _) rfl rfl rfl

theorem QDa {c:Cx} (hr:Rel c):Rel { c with μ:=c.μ ++ [.pointer none],H:=c.H ++ [.unborn] } ∧ Ext c { c with μ:=c.μ ++ [.pointer none],H:=c.H ++ [.unborn] }:=by
 have hg:∀ {o:Nat} {x:AObj},c.H[o]? = some x → (c.H ++ [.unborn])[o]? = some x ∧ (c.μ ++ [.pointer none])[o]? = c.μ[o]?:=by
  intro o x h
  have hlt:o < c.H.length:=(List.getElem?_eq_some_iff.1 h).1
  exact ⟨by rw [List.getElem?_append_left hlt]; exact h,by rw [List.getElem?_append_left (by rw [hr.len]; exact hlt)]⟩
 have hb:∀ {o:Nat} {x:AObj},(c.H ++ [AObj.unborn])[o]? = some x → c.H[o]? = some x ∨ x = .unborn:=by
  intro o x h
  rcases Nat.lt_or_ge o c.H.length with h1 | h1
  ·rw [List.getElem?_append_left h1] at h; exact .inl h
  ·rw [List.getElem?_append_right h1] at h
   have:[AObj.unborn][o - c.H.length]? = some x:=h
   rcases Nat.eq_zero_or_pos (o - c.H.length) with h2 | h2
   ·rw [h2] at this; simp at this; exact .inr this.symm
   ·rw [List.getElem?_eq_none (by simp; omega)] at this; cases this
 have hown:∀ o b,QBi { c with μ:=c.μ ++ [.pointer none],H:=c.H ++ [.unborn] } o b → QBi c o b:=by
  rintro o b ⟨x,v,h1,h2,h3,h4⟩
  rcases hb h1 with h5 | rfl
  ·exact ⟨x,v,h5,h2,(hg h5).2 ▸ h3,h4⟩
  ·cases h2
 have hE:Ext c { c with μ:=c.μ ++ [.pointer none],H:=c.H ++ [.unborn] }:=
  ⟨fun _ h=>h,fun _ h=>.inl h,fun _ _ _=>rfl,Nat.le_refl _,rfl,rfl,rfl,fun o b h=>.inr ⟨o,hown o b h⟩,fun o x h=>⟨x,(hg h).1,by rw [(hg h).2]; exact OStep.refl _ _⟩⟩
 refine ⟨⟨by simp [hr.len],?_,fun o o' b h h'=>hr.inj o o' b (hown _ _ h) (hown _ _ h'),fun o b h=>hr.free o b (hown _ _ h),hr.lt,hr.gl,hr.gb,fun o b h=>hr.go o b (hown _ _ h)⟩,hE⟩
 intro p y hy
 rcases hb hy with h5 | rfl
 ·exact QDn (hE.vext hr) (hr.obj p y h5) h5 (hg h5).2 fun _ _=>rfl
 ·trivial

theorem QDN (c:Cx) (v:Value):Val c .junk v:=by simp only [Val]

theorem QCE {c:Cx}:∀ {l:List AV} {b off:Nat},QBN c l b off ↔ ∀ (j:Nat) (x:AV),l[j]? = some x → ∃ v,c.w.cell? ⟨b,off + j,none⟩ = some v ∧ v.oneCell' = true ∧ Val c x v
 | [],b,off=>by simp [QBN]
 | a :: as,b,off=>by
  simp only [QBN]
  rw [QCE (l:=as)]
  constructor
  ·rintro ⟨h1,h2⟩ j x hj
   cases j with
   | zero=>simp at hj; subst hj; exact h1
   | succ j=>simp at hj; have:=h2 j x hj; rwa [show off + 1 + j = off + (j + 1) from by omega] at this
  ·intro h
   refine ⟨h 0 a (by simp),fun j x hj=>?_⟩
   have:=h (j + 1) x (by simpa using hj)
   rwa [show off + (j + 1) = off + 1 + j from by omega] at this

theorem QA9 {c:Cx}:∀ {l:List (List AV)} {b off sz:Nat},QAh c l b off sz ↔ ∀ (i:Nat) (r:List AV),l[i]? = some r → r.length = sz ∧ QBN c r b (off + i * sz)
 | [],b,off,sz=>by simp [QAh]
 | a :: as,b,off,sz=>by
  simp only [QAh]
  rw [QA9 (l:=as)]
  constructor
  ·rintro ⟨h1,h2,h3⟩ j x hj
   cases j with
   | zero=>simp at hj; subst hj; exact ⟨h1,by simpa using h2⟩
   | succ j=>
    simp at hj
    have:=h3 j x hj
    rwa [show off + sz + j * sz = off + (j + 1) * sz from by rw [Nat.add_mul]; omega] at this
  ·intro h
   have h0:=h 0 a (by simp)
   refine ⟨h0.1,by simpa using h0.2,fun j x hj=>?_⟩
   have:=h (j + 1) x (by simpa using hj)
   rwa [show off + (j + 1) * sz = off + sz + j * sz from by rw [Nat.add_mul]; omega] at this

theorem QBv {c:Cx}:∀ {l:List AV} {vs:List Value},QA3 c l vs ↔ vs.length = l.length ∧ ∀ (j:Nat) (x:AV) (v:Value),l[j]? = some x → vs[j]? = some v → Val c x v
 | [],vs=>by simp [QA3]
 | a :: as,vs=>by
  simp only [QA3]
  constructor
  ·rintro ⟨v,vs',rfl,h1,h2⟩
   rw [QBv] at h2
   refine ⟨by simp [h2.1],fun j x u hj hu=>?_⟩
   cases j with
   | zero=>simp at hj hu; subst hj hu; exact h1
   | succ j=>simp at hj hu; exact h2.2 j x u hj hu
  ·rintro ⟨h1,h2⟩
   cases vs with
   | nil=>simp at h1
   | cons v vs'=>exact ⟨v,vs',rfl,h2 0 a v rfl rfl,QBv.2 ⟨by simpa using h1,fun j x u hj hu=>h2 (j + 1) x u (by simpa using hj) (by simpa using hu)⟩⟩

theorem QHU {c:Cx}:∀ {l r:List AV} {b off:Nat},QBN c (l ++ r) b off ↔ QBN c l b off ∧ QBN c r b (off + l.length)
 | [],r,b,off=>by simp [QBN]
 | a :: as,r,b,off=>by
  simp only [List.cons_append,QBN,QHU (l:=as),List.length_cons,and_assoc,show off + 1 + as.length = off + (as.length + 1) from by omega]

theorem QJI {c:Cx} {l:List AV} {b off:Nat} (h:QBN c l b off):∃ vs:List Value,vs.length = l.length ∧ QA3 c l vs ∧ (∀ u ∈ vs,u.oneCell' = true) ∧ ∀ (j:Nat) (v:Value),vs[j]? = some v → c.w.cell? ⟨b,off + j,none⟩ = some v:=by
 induction l generalizing off with
 | nil=>exact ⟨[],rfl,by simp [QA3],by simp,by simp⟩
 | cons a as ih=>
  simp only [QBN] at h
  obtain ⟨⟨v,h1,h2,h3⟩,h4⟩:=h
  obtain ⟨vs,h5,h6,h7,h8⟩:=ih h4
  refine ⟨v :: vs,by simp [h5],by simp only [QA3]; exact ⟨v,vs,rfl,h3,h6⟩,by simpa using ⟨h2,h7⟩,fun j u hj=>?_⟩
  cases j with
  | zero=>simp at hj; subst hj; exact h1
  | succ j=>simp at hj; rw [show off + (j + 1) = off + 1 + j from by omega]; exact h8 j u hj

theorem QCN {c:Cx} {l:List AV} {vs:List Value} (h:QA3 c l vs):vs.length = l.length:=(QBv.1 h).1

end Go.Ab
namespace Go.Ab
open Go
set_option linter.unusedSectionVars false
variable [Glob]

inductive Opd where
 | t (n:Nat)
 | v (x:AV)
 deriving Inhabited

def Opd.ev (T:List AV):Opd → AV
 | .t n=>(T[n]?).getD .junk
 | .v x=>x

def QD6:Value → AV
 | .bool b=>.bool b
 | .int k n=>.int k n
 | .string s=>.str s.data.toList
 | .pointer none=>.nilp
 | .slice none 0 0=>.nils
 | .map none=>.nilm
 | .nilFunc=>.nilf
 | v=>.raw v

def ofValue:Value → AV
 | .agg cs=>if cs.all (·.oneCell') then .agg (cs.toList.map QD6) else .junk
 | v=>QD6 v

def opd:Operand → Opd
 | .tmp t=>.t t
 | .const v=>.v (ofValue v)
 | .global g=>.v (.raw (.pointer (some ⟨g,0,none⟩)))
 | .func f=>.v (.fn (.func f) [] [])

theorem QGu (c:Cx) (v:Value):Val c (QD6 v) v:=by
 unfold QD6
 split <;> simp only [Val]

theorem QCS (c:Cx):∀ l:List Value,QA3 c (l.map QD6) l
 | []=>by simp [QA3]
 | v :: vs=>by simp only [List.map_cons,QA3]; exact ⟨v,vs,rfl,QGu c v,QCS c vs⟩

theorem QDE (c:Cx) (v:Value):Val c (ofValue v) v:=by
 unfold ofValue
 split
 ·rename_i cs
  split
  ·rename_i h
   simp only [Val]
   exact ⟨cs,rfl,QCS c _,fun u hu=>(Array.all_eq_true_iff_forall_mem.1 h) u (by simpa using hu)⟩
  ·exact QDN _ _
 ·exact QGu c _

def Fr (c:Cx) (T:List AV) (a:Act):Prop:=T.length = a.tmps.size ∧ a.defers = [] ∧ ∀ n:Nat,Val c ((T[n]?).getD .junk) (a.tmps.getD n undef)

theorem QIL {c:Cx} {T:List AV} {a:Act} (h:Fr c T a) (x:Operand):Val c ((opd x).ev T) (a.eval x):=by
 cases x with
 | tmp t=>exact h.2.2 t
 | const v=>exact QDE c v
 | global g=>simp [opd,Opd.ev,Act.eval,Val]
 | func f=>simp [opd,Opd.ev,Act.eval,Val,QA3]

def QGC (H:List AObj):List (Nat × AObj) → List AObj
 | []=>H
 | p :: r=>QGC (H.set p.1 p.2) r

@[simp] theorem QIM:∀ (r:List (Nat × AObj)) (H:List AObj),(QGC H r).length = H.length
 | [],_=>rfl
 | p :: r,H=>by simp [QGC,QIM r]

def StepTo (P:Program) (o:Oper) (a:Act) (w:World) (v:Value) (w':World):Prop:=
 ∀ (next:Act → World → Prop) (Q:Exit → Act → World → Prop),next (a.put o.dst v) w' → o.wp P a w next Q

theorem StepTo.value {P:Program} {o:Oper} {a:Act} {w w':World} {v:Value} (h:(execOp a.eval o).run P w = .ok (.value v) w'):StepTo P o a w v w':=fun next Q hn=>by
 unfold Oper.wp; rw [h]; exact hn
theorem StepTo.skip {P:Program} {o:Oper} {a:Act} {w w':World} (h:(execOp a.eval o).run P w = .ok .skip w'):StepTo P o a w undef w':=fun next Q hn=>by
 unfold Oper.wp; rw [h]; exact hn

def LStep (P:Program) (o:Oper) (T:List AV) (pre wr:List (Nat × AObj)) (val:AV):Prop:=
 ∀ (c:Cx) (a:Act),Rel c → (∀ x ∈ o.op.operands.toList,Val c ((opd x).ev T) (a.eval x)) → (∀ p ∈ pre,c.H[p.1]? = some p.2) →
  ∃ v c',Rel c' ∧ Ext c c' ∧ c'.H = QGC c.H wr ∧ Val c' val v ∧ StepTo P o a c.w v c'.w

theorem LStep.pure {P:Program} {o:Oper} {T:List AV} {pre:List (Nat × AObj)} {val:AV}
  (h:∀ (c:Cx) (a:Act),Rel c → (∀ x ∈ o.op.operands.toList,Val c ((opd x).ev T) (a.eval x)) → (∀ p ∈ pre,c.H[p.1]? = some p.2) →
   ∃ v,(execOp a.eval o).run P c.w = .ok (.value v) c.w ∧ Val c val v):LStep P o T pre [] val:=fun c a hr ho hp=>
 let ⟨v,h1,h2⟩:=h c a hr ho hp
 ⟨v,c,hr,.refl c,rfl,h2,.value h1⟩

theorem QDS (w:World) (o:Go.Obj) (b:Nat) (h:b < w.heap.size):(w.alloc o).heap[b]? = w.heap[b]?:=by
 show (w.heap.push o)[b]? = _
 rw [Array.getElem?_push,if_neg (by omega)]
theorem QCT (w:World) (o:Go.Obj):(w.alloc o).heap[w.heap.size]? = some o:=by
 show (w.heap.push o)[_]? = _
 simp

theorem QFx {c:Cx} (hr:Rel c) {nid:Nat} {x':AObj} {v':Value} (o:Go.Obj) (ho:c.H[nid]? = some .unborn) (hb:∀ b,blk v' = some b → b = c.w.heap.size)
  (hok:∀ F,QIx c ⟨F,c.μ.set nid v',c.H.set nid x',c.w.alloc o⟩ → (c.μ.set nid v')[nid]? = some v' → QLE ⟨F,c.μ.set nid v',c.H.set nid x',c.w.alloc o⟩ nid x'):
  Rel ⟨c.F,c.μ.set nid v',c.H.set nid x',c.w.alloc o⟩ ∧ Ext c ⟨c.F,c.μ.set nid v',c.H.set nid x',c.w.alloc o⟩:=by
 have hlt:nid < c.H.length:=(List.getElem?_eq_some_iff.1 ho).1
 refine QC3 hr ho (by simp [OStep]) (fun _ h=>h) (fun _ h=>.inl h) (fun b hb _=>QDS c.w o b hb) (by simp) rfl rfl rfl (fun b _ h=>.inl (by rw [hb b h]; exact Nat.le_refl _)) fun hE=>?_
 exact hok _ (hE.vext hr) (by simp [hr.len,hlt])

theorem set_getElem?_self {α:Type} {l:List α} {n:Nat} {x y:α} (h:l[n]? = some x):(l.set n y)[n]? = some y:=by
 have hlt:n < l.length:=(List.getElem?_eq_some_iff.1 h).1
 simp [hlt]

theorem QPa {c:Cx} {w:World} {cells:List Value} {e:TypeId} (hw:c.w = w.alloc (.cells cells.toArray e)) {xs:List AV} (hv:QA3 c xs cells) (h1:∀ u ∈ cells,u.oneCell' = true):QBN c xs w.heap.size 0:=by
 rw [QCE]
 intro j x hj
 obtain ⟨hl,hv⟩:=QBv.1 hv
 have hjl:j < cells.length:=by rw [hl]; exact (List.getElem?_eq_some_iff.1 hj).1
 refine ⟨cells[j],?_,h1 _ (List.getElem_mem hjl),hv j x _ hj (List.getElem?_eq_getElem hjl)⟩
 rw [hw,Nat.zero_add,World.cell?_alloc_new]
 simp [hjl]

theorem QPb {P:Program} {o:Oper} {T:List AV} {nid:Nat} {xs:List AV} (e:TypeId) (cells:Cx → Act → List Value)
  (h:∀ (c:Cx) (a:Act),Rel c → (∀ x ∈ o.op.operands.toList,Val c ((opd x).ev T) (a.eval x)) →
   QA3 c xs (cells c a) ∧ (∀ u ∈ cells c a,u.oneCell' = true) ∧ (execOp a.eval o).run P c.w = .ok (.value (.pointer (some ⟨c.w.heap.size,0,none⟩))) (c.w.alloc (.cells (cells c a).toArray e))):
  LStep P o T [(nid,.unborn)] [(nid,.box e xs)] (.ptr nid 0):=fun c a hr ho hp=>by
 obtain ⟨h1,h2,h3⟩:=h c a hr ho
 have hu:c.H[nid]? = some .unborn:=hp (nid,.unborn) (by simp)
 have hlt:nid < c.H.length:=(List.getElem?_eq_some_iff.1 hu).1
 have hN:=QFx (c:=c) hr (nid:=nid) (x':=.box e xs) (v':=.pointer (some ⟨c.w.heap.size,0,none⟩)) (.cells (cells c a).toArray e) hu (fun b hb=>by simpa [blk] using hb.symm) (fun F hE hm=>
  ⟨c.w.heap.size,(cells c a).toArray,hm,QCT c.w _,by simpa using QCN h1,QPa (w:=c.w) rfl (QD5 hE _ _ h1) h2⟩)
 refine ⟨_,_,hN.1,hN.2,rfl,?_,.value h3⟩
 simp only [Val]
 exact ⟨e,xs,c.w.heap.size,set_getElem?_self hu,by simp [hr.len,hlt],rfl⟩

/-! ### What the types say -/
def QDo (P:Program) (t:TypeId):Option (Option Nat):=
 match P.underlying t,P.info? t with
 | some d,some i=>if d.isRow then some (some i.size) else if i.size = 1 then some none else none
 | _,_=>none

theorem QIN {P:Program} {t:TypeId} {d:TypeDesc} (h:P.underlying t = some d) (w:World):(isAgg t).run P w = .ok d.isRow w:=by
 unfold isAgg
 rw [Sem.run_bind,run_underlying h w]
 cases d <;> rfl

theorem QE3 {P:Program} {t:TypeId} {i:TypeInfo} (h:P.info? t = some i) (w:World):(typeInfo t).run P w = .ok i w:=by
 simp [typeInfo,h]

theorem QBo {P:Program} {t:TypeId} {i:TypeInfo} (h:P.info? t = some i) (w:World):(sizeOf t).run P w = .ok i.size w:=by
 simp [sizeOf,typeInfo,h]

theorem QGv {P:Program} {t:TypeId} (h:QDo P t = some none):∃ d i,P.underlying t = some d ∧ d.isRow = false ∧ P.info? t = some i ∧ i.size = 1:=by
 unfold QDo at h
 split at h
 ·rename_i d i h1 h2
  split at h
  ·simp at h
  ·split at h
   ·exact ⟨d,i,h1,by simpa using ‹¬ d.isRow = true›,h2,by assumption⟩
   ·simp at h
 ·simp at h

theorem QGw {P:Program} {t:TypeId} {n:Nat} (h:QDo P t = some (some n)):∃ d i,P.underlying t = some d ∧ d.isRow = true ∧ P.info? t = some i ∧ i.size = n:=by
 unfold QDo at h
 split at h
 ·rename_i d i h1 h2
  split at h
  ·simp at h; exact ⟨d,i,h1,by assumption,h2,h⟩
  ·split at h <;> simp at h
 ·simp at h

theorem QPc {P:Program} {t:TypeId} (h:QDo P t = some none) {w:World} {a:Addr} {v:Value} (hc:w.cell? a = some v):(Instr.loadAt t (.pointer (some a))).run P w = .ok v w:=by
 obtain ⟨d,i,h1,h2,h4,h5⟩:=QGv h
 simp only [Instr.loadAt,Instr.sureAddr,loadVar,Sem.run_bind,Sem.run_pure,Result.andThen_ok,QIN h1,h2,Bool.false_eq_true,if_false,run_load,hc]

theorem QPd {P:Program} {t:TypeId} {n:Nat} (h:QDo P t = some (some n)) {w:World} {b off:Nat} {vs:List Value} (hl:vs.length = n)
  (hc:∀ (j:Nat) (v:Value),vs[j]? = some v → w.cell? ⟨b,off + j,none⟩ = some v):(Instr.loadAt t (.pointer (some ⟨b,off,none⟩))).run P w = .ok (.agg vs.toArray) w:=by
 obtain ⟨d,i,h1,h2,h3,h4⟩:=QGw h
 exact run_loadAt_mid w b off t vs d hc h1 h2 (by simp [h3,h4,hl])

theorem QJJ {P:Program} {t:TypeId} {i:TypeInfo} (hi:P.info? t = some i) {w:World} {b off:Nat} {v:Value} {arr:Array Value} {e:TypeId} (hl:v.cells.size = i.size)
  (hb:w.heap[b]? = some (.cells arr e (0,0))) (hfit:off + v.cells.size ≤ arr.size) (h1:∀ u ∈ v.cells.toList,u.oneCell' = true):
  (Instr.storeAt t (.pointer (some ⟨b,off,none⟩)) v).run P w = .ok () (w.setRow b (arr.toList.take off ++ v.cells.toList ++ arr.toList.drop (off + v.cells.size)).toArray):=by
 have:=run_storeCells_at (P:=P) b off e v.cells.toList 0 arr w hb (by simpa using hfit) h1
 simp only [Nat.add_zero,Array.length_toList] at this
 simp only [Instr.storeAt,Instr.sureAddr,storeVar,Sem.run_bind,Sem.run_pure,Result.andThen_ok,QBo hi,hl,ne_eq,not_true,if_false,this]

end Go.Ab
namespace Go.Ab
open Go
set_option linter.unusedSectionVars false
variable [Glob]

abbrev SK:=List (Nat × AObj) → List (Nat × AObj) → AV → Prop

def AV.one:AV → Bool
 | .int .. | .bool _ | .str _ | .nilp | .ptr .. | .eptr .. | .iptr _ | .nils | .imm _ | .own .. | .nilm | .map _ | .nilf | .fn .. | .ifc | .ifv .. | .win .. | .pre ..=>true
 | _=>false

theorem QWz {c:Cx} {x:AV} {v:Value} (h:x.one = true) (hv:Val c x v):v.oneCell' = true:=by
 cases x <;> simp only [AV.one,Bool.false_eq_true] at h <;> simp only [Val] at hv
 case int=>subst hv; rfl
 case bool=>subst hv; rfl
 case str=>subst hv; rfl
 case nilp=>subst hv; rfl
 case ptr=>obtain ⟨_,_,_,_,_,rfl⟩:=hv; rfl
 case eptr=>obtain ⟨⟨_,rfl⟩,_⟩:=hv; rfl
 case iptr=>obtain ⟨_,_,rfl,_⟩:=hv; rfl
 case nils=>subst hv; rfl
 case imm=>rcases hv with ⟨_,_,_,_,rfl,_⟩ | ⟨_,_,_,rfl⟩ <;> rfl
 case own=>obtain ⟨⟨_,_,_,rfl⟩,_⟩:=hv; rfl
 case nilm=>subst hv; rfl
 case map=>obtain ⟨_,_,_,_,rfl⟩:=hv; rfl
 case nilf=>subst hv; rfl
 case fn=>obtain ⟨_,_,rfl,_⟩:=hv; rfl
 case ifc=>obtain ⟨_,_,rfl⟩:=hv; rfl
 case ifv=>obtain ⟨_,rfl,_⟩:=hv; rfl
 case win=>obtain ⟨_,_,_,_,_,_,rfl⟩:=hv; rfl
 case pre=>obtain ⟨⟨_,_,_,rfl⟩,_⟩:=hv; rfl

def QN9 (q a b:AV) (K:SK):Prop:=
 match q with
 | .bool q=>if q then K [] [] a else K [] [] b
 | _=>False

def ldK (n:Option Nat) (cs:List AV) (K:AV → Prop):Prop:=
 match n with
 | none=>(match cs with | x :: _=>K x | []=>False)
 | some n=>n ≤ cs.length ∧ K (.agg (cs.take n))

def QHo (n:Option Nat) (x:AV) (H:List AObj) (K:SK):Prop:=
 match x with
 | .ptr o off=>(match H[o]? with | some (.box e cs)=>ldK n (cs.drop off) (K [(o,.box e cs)] []) | _=>False)
 | .iptr cs=>ldK n cs (K [] [])
 | .eptr o m i off=>(match H[o]? with
  | some (.reg e sz l)=>m = l.length ∧ (match l[i]? with | some r=>ldK n (r.drop off) (K [(o,.reg e sz l)] []) | none=>False)
  | _=>False)
 | _=>False

def stK (n:Option Nat) (x:AV) (K:List AV → Prop):Prop:=
 match n with
 | none=>x.one = true ∧ K [x]
 | some n=>(match x with | .agg xs=>xs.length = n ∧ K xs | _=>False)

def QIO (n:Option Nat) (a x:AV) (H:List AObj) (K:SK):Prop:=
 match a with
 | .ptr o off=>(match H[o]? with
  | some (.box e cs)=>stK n x fun xs=>off + xs.length ≤ cs.length ∧ K [(o,.box e cs)] [(o,.box e (cs.take off ++ xs ++ cs.drop (off + xs.length)))] .junk
  | _=>False)
 | .eptr o m i off=>(match H[o]? with
  | some (.reg e sz l)=>m = l.length ∧ (match l[i]? with
   | some r=>stK n x fun xs=>off + xs.length ≤ r.length ∧ K [(o,.reg e sz l)] [(o,.reg e sz (l.set i (r.take off ++ xs ++ r.drop (off + xs.length))))] .junk
   | none=>False)
  | _=>False)
 | _=>False

def QHV (off:Nat) (x:AV) (H:List AObj) (K:SK):Prop:=
 match x with
 | .ptr o k=>K [] [] (.ptr o (k + off))
 | .iptr cs=>K [] [] (.iptr (cs.drop off))
 | .eptr o n i k=>(match H[o]? with
  | some (.reg e sz l)=>n = l.length ∧ K [(o,.reg e sz l)] [] (.eptr o n i (k + off))
  | _=>False)
 | _=>False

def QJK (off:Nat) (n:Option Nat) (x:AV) (K:SK):Prop:=
 match x with
 | .agg cs=>ldK n (cs.drop off) (K [] [])
 | _=>False

def QFk (arr:Option Nat) (sz:Nat) (x i:AV) (H:List AObj) (K:SK):Prop:=
 match i with
 | .int _ n=>0 ≤ n ∧ (match arr with
  | none=>(match x with
   | .imm l=>(match l[n.toNat]? with | some r=>r.length = sz ∧ K [] [] (.iptr r) | none=>False)
   | .own o m=>(match H[o]? with
    | some (.reg e sz' l)=>m = l.length ∧ sz' = sz ∧ n.toNat < m ∧ K [(o,.reg e sz' l)] [] (.eptr o m n.toNat 0)
    | _=>False)
   | .pre o lo k m=>(match H[o]? with
    | some (.reg e sz' l)=>m = l.length ∧ sz' = sz ∧ n.toNat < k ∧ K [(o,.reg e sz' l)] [] (.eptr o m (lo + n.toNat) 0)
    | _=>False)
   | _=>False)
  | some len=>n.toNat < len ∧ (match x with
   | .ptr o off=>K [] [] (.ptr o (off + n.toNat * sz))
   | .iptr cs=>K [] [] (.iptr (cs.drop (n.toNat * sz)))
   | _=>False))
 | _=>False

def QVu (x i:AV) (K:SK):Prop:=
 match x,i with
 | .str s,.int _ n=>0 ≤ n ∧ (match s[n.toNat]? with | some b=>K [] [] (.int .u8 b.toNat) | none=>False)
 | _,_=>False

def QSv (x:AV) (H:List AObj) (K:SK):Prop:=
 match x with
 | .str s=>K [] [] (.int .i64 s.length)
 | .nils=>K [] [] (.int .i64 0)
 | .nilm=>K [] [] (.int .i64 0)
 | .imm l=>K [] [] (.int .i64 l.length)
 | .own o n=>(match H[o]? with | some (.reg e sz l)=>n = l.length ∧ K [(o,.reg e sz l)] [] (.int .i64 n) | _=>False)
 | .map o=>(match H[o]? with | some (.map kvs)=>K [(o,.map kvs)] [] (.int .i64 kvs.length) | _=>False)
 | _=>False

def QGQ (y:AV) (H:List AObj) (K:List (Nat × AObj) → List (List AV) → Prop):Prop:=
 match y with
 | .nils=>K [] []
 | .imm l=>K [] l
 | .own o n=>(match H[o]? with | some (.reg e sz l)=>n = l.length ∧ K [(o,.reg e sz l)] l | _=>False)
 | .pre o lo n m=>(match H[o]? with | some (.reg e sz l)=>m = l.length ∧ K [(o,.reg e sz l)] ((l.drop lo).take n) | _=>False)
 | .raw (.slice _ 0 _)=>K [] []
 | _=>False

def QFl (neg:Bool) (x:AV) (H:List AObj) (K:SK):Prop:=
 match x with
 | .nils=>K [] [] (.bool (!neg))
 | .imm l=>l ≠ [] ∧ K [] [] (.bool neg)
 | .own o n=>(match H[o]? with | some (.reg e sz l)=>n = l.length ∧ l ≠ [] ∧ K [(o,.reg e sz l)] [] (.bool neg) | _=>False)
 | .pre o _ n m=>(match H[o]? with | some (.reg e sz l)=>m = l.length ∧ n ≠ 0 ∧ K [(o,.reg e sz l)] [] (.bool neg) | _=>False)
 | .raw (.slice a _ _)=>K [] [] (.bool (if neg then !a.isNone else a.isNone))
 | _=>False

def QOA (bytes k:Nat):Prop:=k ≤ maxLen ∧ k * bytes ≤ 140737488355328

def QEg (e sz bytes:Nat) (x y:AV) (H:List AObj) (nid:Nat) (K:SK):Prop:=
 QGQ y H fun pre ys=>(∀ r ∈ ys,r.length = sz) ∧ (match x with
  | .nils=>QOA bytes ys.length ∧ K ((nid,.unborn) :: pre) [(nid,.reg e sz ys)] (.own nid ys.length)
  | .own o n=>(match H[o]? with
   | some (.reg e' sz' l)=>n = l.length ∧ e' = e ∧ sz' = sz ∧ QOA bytes (l.length + ys.length) ∧ K ((o,.reg e' sz' l) :: pre) [(o,.reg e sz (l ++ ys))] (.own o (l.length + ys.length))
   | _=>False)
  | .pre o lo n m=>(match H[o]? with
   | some (.reg e' sz' l)=>m = l.length ∧ lo + n = m ∧ e' = e ∧ sz' = sz ∧ sz ≠ 1 ∧ QOA bytes (n + ys.length) ∧ K ((o,.reg e' sz' l) :: (nid,.unborn) :: pre) [(o,.dead),(nid,.reg e sz (l.drop lo ++ ys))] (.own nid (n + ys.length))
   | _=>False)
  | _=>False)

def cellsOf:AV → List AV
 | .agg cs=>cs
 | x=>[x]

def QCs:AV → Bool
 | .agg _=>true
 | x=>x.one

def QIP:List AV → List (Nat × Nat × AV) → (List AV → Prop) → Prop
 | cells,[],K=>K cells
 | cells,(off,size,x) :: r,K=>QCs x = true ∧ (cellsOf x).length = size ∧ off + size ≤ cells.length ∧ QIP (cells.take off ++ cellsOf x ++ cells.drop (off + size)) r K

def QEW (op:BinOp) (x y:AV) (K:SK):Prop:=
 match x with
 | .int k a=>(match y with
  | .int k' b=>k = k' ∧ (match op with
   | .add=>K [] [] (.int k (k.wrap (a + b)))
   | .sub=>K [] [] (.int k (k.wrap (a - b)))
   | .mul=>K [] [] (.int k (k.wrap (a * b)))
   | .quo=>b ≠ 0 ∧ K [] [] (.int k (k.wrap (a.tdiv b)))
   | .rem=>b ≠ 0 ∧ K [] [] (.int k (a.tmod b))
   | .eql=>K [] [] (.bool (a == b))
   | .neq=>K [] [] (.bool (a != b))
   | .lss=>K [] [] (.bool (decide (a < b)))
   | .leq=>K [] [] (.bool (decide (a ≤ b)))
   | .gtr=>K [] [] (.bool (decide (a > b)))
   | .geq=>K [] [] (.bool (decide (a ≥ b)))
   | .and=>K [] [] (.int k (bits .and k a b))
   | .or=>K [] [] (.int k (bits .or k a b))
   | .xor=>K [] [] (.int k (bits .xor k a b))
   | _=>False)
  | _=>False)
 | .str a=>(match y with
  | .str b=>(match op with
   | .add=>a.length + b.length ≤ 9223372036854775807 ∧ K [] [] (.str (a ++ b))
   | .eql=>K [] [] (.bool (a == b))
   | .neq=>K [] [] (.bool (!(a == b)))
   | .lss=>K [] [] (.bool (Op.bytesLess a b))
   | .leq=>K [] [] (.bool (Op.bytesLess a b || a == b))
   | .gtr=>K [] [] (.bool (!(Op.bytesLess a b || a == b)))
   | .geq=>K [] [] (.bool (!Op.bytesLess a b))
   | _=>False)
  | _=>False)
 | _=>False

def QOB (neg:Bool) (x y:AV) (K:SK):Prop:=
 match x,y with
 | .bool a,.bool b=>K [] [] (.bool (if neg then !(a == b) else a == b))
 | _,_=>False

def QC4:AV → AV → Option Bool
 | .int k a,.int k' b=>if k = k' then some (a == b) else none
 | .str a,.str b=>some (a == b)
 | .bool a,.bool b=>some (a == b)
 | _,_=>none

def QBp:List AV → List AV → Option Bool
 | [],[]=>some true
 | x :: xs,y :: ys=>(QC4 x y).bind fun b=>(QBp xs ys).map fun r=>b && r
 | _,_=>none

def sUn (op:UnOp) (x:AV) (K:SK):Prop:=
 match op,x with
 | .not,.bool b=>K [] [] (.bool !b)
 | .neg,.int k n=>K [] [] (.int k (k.wrap (0 - n)))
 | _,_=>False

def QOC (k:IntKind) (x:AV) (K:SK):Prop:=
 match x with
 | .int _ n=>K [] [] (.int k (k.wrap n))
 | _=>False

def QFS (x:AV) (i:Nat) (K:SK):Prop:=
 match x with
 | .tup vs=>(match vs[i]? with | some v=>K [] [] v | none=>False)
 | _=>False

def QE4 (x:AV) (H:List AObj) (K:SK):Prop:=
 match x with
 | .ptr o off=>K [] [] (.ptr o off)
 | .iptr cs=>K [] [] (.iptr cs)
 | .eptr o n i k=>(match H[o]? with
  | some (.reg e sz l)=>n = l.length ∧ K [(o,.reg e sz l)] [] (.eptr o n i k)
  | _=>False)
 | _=>False

def QOD (k:AV) (x:AV):Bool:=(QC4 k x).getD false
def QDT (k:AV):List (AV × AV) → Option AV
 | []=>none
 | p :: r=>if QOD k p.1 then some p.2 else QDT k r
def QCt (k x:AV):List (AV × AV) → List (AV × AV)
 | []=>[(k,x)]
 | p :: r=>if QOD k p.1 then (p.1,x) :: r else p :: QCt k x r

section ops
variable {P:Program} {o:Oper} {T:List AV} {H:List AObj} {nid:Nat} {al:Bool} {K:SK}

def Out (P:Program) (o:Oper) (T:List AV) (H:List AObj) (nid:Nat) (al:Bool) (K:SK):Prop:=
 ∃ pre wr val,K pre wr val ∧ (∀ p ∈ pre,H[p.1]? = some p.2 ∨ p = (nid,.unborn)) ∧ (∀ p ∈ wr,p.1 ∈ pre.map (·.1)) ∧ ((∀ p ∈ pre,H[p.1]? = some p.2) ∨ (al = true ∧ ∃ wr0 x,wr = wr0 ++ [(nid,x)] ∧ ∀ p ∈ wr0,p.1 < H.length)) ∧ LStep P o T pre wr val

theorem QAX {val:AV} (hK:K [] [] val) (h:∀ (c:Cx) (a:Act),Rel c → (∀ x ∈ o.op.operands.toList,Val c ((opd x).ev T) (a.eval x)) →
  ∃ v,(execOp a.eval o).run P c.w = .ok (.value v) c.w ∧ Val c val v):Out P o T H nid al K:=
 ⟨[],[],val,hK,by simp,by simp,.inl (by simp),.pure fun c a hr ho _=>h c a hr ho⟩

theorem QBs {val:AV} {n:Nat} {ob:AObj} (hH:H[n]? = some ob) (hK:K [(n,ob)] [] val) (h:∀ (c:Cx) (a:Act),Rel c → (∀ x ∈ o.op.operands.toList,Val c ((opd x).ev T) (a.eval x)) → c.H[n]? = some ob →
  ∃ v,(execOp a.eval o).run P c.w = .ok (.value v) c.w ∧ Val c val v):Out P o T H nid al K:=
 ⟨[(n,ob)],[],val,hK,by simpa using .inl hH,by simp,.inl (by simpa using hH),.pure fun c a hr ho hp=>h c a hr ho (hp (n,ob) (by simp))⟩

theorem QPe {x:Operand} (ho:o.op = .move x ∨ o.op = .assign x) (hK:K [] [] ((opd x).ev T)):Out P o T H nid al K:=
 QAX hK fun c a hr hv=>⟨a.eval x,by rcases ho with h | h <;> simp [execOp,h],hv x (by rcases ho with h | h <;> simp [h,Op.operands])⟩

theorem QRU {q x y:Operand} (ho:o.op = .pick q x y) (hs:QN9 ((opd q).ev T) ((opd x).ev T) ((opd y).ev T) K):Out P o T H nid al K:=by
 unfold QN9 at hs
 split at hs
 ·rename_i b hb
  refine QAX (val:=if b then (opd x).ev T else (opd y).ev T) (by cases b <;> simpa using hs) fun c a hr hv=>?_
  have h1:=hv q (by simp [ho,Op.operands])
  rw [hb] at h1; simp only [Val] at h1
  refine ⟨if b then a.eval x else a.eval y,by simp [execOp,ho,h1,asBool],?_⟩
  cases b
  ·simpa using hv y (by simp [ho,Op.operands])
  ·simpa using hv x (by simp [ho,Op.operands])
 ·exact hs.elim

theorem QPf {e:TypeId} {i:TypeInfo} {z:Value} (hal:al = true) (ho:o.op = .alloc e) (hi:P.info? e = some i) (hz:i.zero = some z) (h1:z.cells.all (·.oneCell') = true)
  (hK:K [(nid,.unborn)] [(nid,.box e (z.cells.toList.map QD6))] (.ptr nid 0)):Out P o T H nid al K:=
 ⟨_,_,_,hK,by simp,by simp,.inr ⟨hal,[],_,rfl,by simp⟩,QPb e (fun _ _=>z.cells.toList) fun c a hr hv=>
  ⟨QCS c _,fun u hu=>(Array.all_eq_true_iff_forall_mem.1 h1) u (by simpa using hu),by
   simp [execOp,ho,Instr.alloc,zeroValue,typeInfo,hi,hz,newVar,newRow]⟩⟩

theorem QE5 {c:Cx} {x:AV} {v:Value} (hx:QCs x = true) (hv:Val c x v):QA3 c (cellsOf x) v.cells.toList ∧ ∀ u ∈ v.cells.toList,u.oneCell' = true:=by
 unfold QCs at hx
 split at hx
 ·simp only [Val] at hv
  obtain ⟨vs,rfl,h1,h2⟩:=hv
  exact ⟨h1,h2⟩
 ·rename_i hne
  have h1:=QWz hx hv
  have hc:v.cells = #[v]:=by cases v <;> first | rfl | simp [Value.oneCell'] at h1
  have hx':cellsOf x = [x]:=by unfold cellsOf; split <;> first | rfl | exact (hne _ rfl).elim
  rw [hc,hx']
  exact ⟨by simp only [QA3]; exact ⟨v,[],rfl,hv,rfl⟩,by simpa using h1⟩

theorem QT4 {e:TypeId} {x:Operand} (hal:al = true) (ho:o.op = .box e x) (hx:QCs ((opd x).ev T) = true)
  (hK:K [(nid,.unborn)] [(nid,.box e (cellsOf ((opd x).ev T)))] (.ptr nid 0)):Out P o T H nid al K:=
 ⟨_,_,_,hK,by simp,by simp,.inr ⟨hal,[],_,rfl,by simp⟩,QPb e (fun _ a=>(a.eval x).cells.toList) fun c a hr hv=>by
  have h:=QE5 hx (hv x (by simp [ho,Op.operands]))
  exact ⟨h.1,h.2,by simp [execOp,ho,Instr.box,newVar,newRow]⟩⟩

theorem QJL {t:TypeId} {n:Option Nat} (hn:QDo P t = some n) {c:Cx} {cs:List AV} {b off:Nat} (hc:QBN c cs b off) {KK:AV → Prop} (hk:ldK n cs KK):
  ∃ val,KK val ∧ ∃ v,(Instr.loadAt t (.pointer (some ⟨b,off,none⟩))).run P c.w = .ok v c.w ∧ Val c val v:=by
 unfold ldK at hk
 split at hk
 ·split at hk
  ·simp only [QBN] at hc
   obtain ⟨⟨v,h1,h2,h3⟩,_⟩:=hc
   exact ⟨_,hk,v,QPc hn h1,h3⟩
  ·exact hk.elim
 ·rename_i m
  obtain ⟨hle,hk⟩:=hk
  have hc':QBN c (cs.take m) b off:=by rw [← List.take_append_drop m cs,QHU] at hc; exact hc.1
  obtain ⟨vs,h1,h2,h3,h4⟩:=QJI hc'
  have hl:vs.length = m:=by rw [h1,List.length_take]; omega
  exact ⟨_,hk,_,QPd hn hl h4,by simp only [Val]; exact ⟨_,rfl,by simpa using h2,by simpa using h3⟩⟩

theorem QIQ {n:Option Nat} {cs:List AV} {KK:AV → Prop} (hk:ldK n cs KK):∃ val,KK val ∧ ldK n cs (fun x=>x = val):=by
 unfold ldK at hk ⊢
 split at hk
 ·split at hk
  ·exact ⟨_,hk,rfl⟩
  ·exact hk.elim
 ·exact ⟨_,hk.2,hk.1,rfl⟩

theorem QDF {c:Cx} {cs:List AV} {b off:Nat} (h:QBN c cs b off) (k:Nat):QBN c (cs.drop k) b (off + k):=by
 rw [QCE] at h ⊢
 intro j x hj
 rw [List.getElem?_drop] at hj
 have:=h (k + j) x hj
 rwa [← Nat.add_assoc] at this

theorem QRV {t:TypeId} {n:Option Nat} {x:Operand} (ho:o.op = .load t x) (hn:QDo P t = some n) (hs:QHo n ((opd x).ev T) H K):Out P o T H nid al K:=by
 have hx:∀ (c:Cx) (a:Act),(∀ x ∈ o.op.operands.toList,Val c ((opd x).ev T) (a.eval x)) → Val c ((opd x).ev T) (a.eval x):=fun c a h=>h x (by simp [ho,Op.operands])
 have hrun:∀ {a:Act} {w:World} {v:Value},(Instr.loadAt t (a.eval x)).run P w = .ok v w → (execOp a.eval o).run P w = .ok (.value v) w:=fun h=>by simp [execOp,ho,h]
 unfold QHo at hs
 split at hs
 ·rename_i ob off hb
  split at hs
  ·rename_i e cs hH
   obtain ⟨val,hk,hl⟩:=QIQ hs
   refine QBs hH hk fun c a hr hv hc=>?_
   have h1:=hx c a hv
   rw [hb] at h1; simp only [Val] at h1
   obtain ⟨e',cs',b,h2,h3,h4⟩:=h1
   obtain ⟨b',arr,h5,h6,h7,h8⟩:=hr.obj _ _ hc
   rw [h3] at h5; simp at h5; subst h5
   have h9:=QDF h8 off
   rw [Nat.zero_add] at h9
   obtain ⟨val',rfl,v,hv1,hv2⟩:=QJL (P:=P) hn h9 hl
   exact ⟨v,hrun (by rw [h4]; exact hv1),hv2⟩
  ·exact hs.elim
 ·rename_i cs hb
  obtain ⟨val,hk,hl⟩:=QIQ hs
  refine QAX hk fun c a hr hv=>?_
  have h1:=hx c a hv
  rw [hb] at h1; simp only [Val] at h1
  obtain ⟨b,off,h2,h3,h4⟩:=h1
  obtain ⟨val',rfl,v,hv1,hv2⟩:=QJL (P:=P) hn h4 hl
  exact ⟨v,hrun (by rw [h2]; exact hv1),hv2⟩
 ·rename_i ob m i off hb
  split at hs
  ·rename_i e sz l hH
   obtain ⟨hm,hs⟩:=hs
   split at hs
   ·rename_i r hr'
    obtain ⟨val,hk,hl⟩:=QIQ hs
    refine QBs hH hk fun c a hr hv hc=>?_
    have h1:=hx c a hv
    rw [hb] at h1; simp only [Val] at h1
    obtain ⟨_,h1⟩:=h1
    rcases h1 with ⟨e',sz',l',h2,h3,h4⟩ | h1
    ·rw [hc] at h2; simp at h2; obtain ⟨rfl,rfl,rfl⟩:=h2
     obtain ⟨g,len,cap,o0,h5,h6⟩:=h4 hm
     obtain ⟨v0,h7,h8⟩:=hr.obj _ _ hc
     rw [h5] at h7; simp at h7; subst h7
     rcases h8 with ⟨h8,_⟩ | ⟨g',o1,cap',cur,h8,h9,h10,h11,h12,h13⟩
     ·cases h8
     ·simp at h8; obtain ⟨⟨rfl,rfl⟩,rfl,rfl⟩:=h8
      have h14:=(QA9.1 h13 i r hr').2
      have h15:=QDF h14 off
      rw [Nat.add_assoc] at h15
      obtain ⟨val',rfl,v,hv1,hv2⟩:=QJL (P:=P) hn h15 hl
      exact ⟨v,hrun (by rw [h6]; exact hv1),hv2⟩
    ·rw [hc] at h1; cases h1
   ·exact hs.elim
  ·exact hs.elim
 ·exact hs.elim

end ops
end Go.Ab
namespace Go.Ab
open Go
set_option linter.unusedSectionVars false
variable [Glob]
section ops
variable {P:Program} {o:Oper} {T:List AV} {H:List AObj} {nid:Nat} {al:Bool} {K:SK}

theorem QLF {i:Nat} {ob ob':AObj} (hH:H[i]? = some ob) (hK:K [(i,ob)] [(i,ob')] .junk) (hal:ob.alive = true)
  (hstep:∀ m,OStep ob ob' m m)
  (h:∀ (c:Cx) (a:Act),Rel c → (∀ x ∈ o.op.operands.toList,Val c ((opd x).ev T) (a.eval x)) → c.H[i]? = some ob →
   ∃ v g arr,c.μ[i]? = some v ∧ blk v = some g ∧ (execOp a.eval o).run P c.w = .ok .skip (c.w.setRow g arr) ∧
    (∀ c',QIx c c' → c'.μ[i]? = c.μ[i]? → c'.w = c.w.setRow g arr → QLE c' i ob')):Out P o T H nid al K:=
 ⟨[(i,ob)],[(i,ob')],.junk,hK,by simpa using .inl hH,by simp,.inl (by simpa using hH),fun c a hr hv hp=>by
  have hc:c.H[i]? = some ob:=hp (i,ob) (by simp)
  obtain ⟨v,g,arr,h1,h2,h3,h4⟩:=h c a hr hv hc
  have hlt:i < c.H.length:=(List.getElem?_eq_some_iff.1 hc).1
  have hN:=QC3 hr (x':=ob') (v':=v) (F':=c.F) (w':=c.w.setRow g arr) hc (by rw [h1]; exact hstep _) (fun _ h=>h) (fun _ h=>.inl h)
   (fun b hb hn=>setRow_other _ _ _ _ (fun e=>hn (e ▸ ⟨ob,v,hc,hal,h1,h2⟩))) (by simp) rfl rfl rfl
   (fun b _ hb=>.inr ⟨ob,v,hc,hal,h1,hb⟩) (fun hE=>h4 _ (hE.vext hr) (by
    show (c.μ.set i v)[i]? = _
    rw [h1]; simp [hr.len,hlt]) rfl)
  exact ⟨undef,_,hN.1,hN.2,rfl,QDN _ _,.skip h3⟩⟩

theorem QSw {n:Option Nat} {x:AV} {KK:List AV → Prop} (h:stK n x KK):QCs x = true ∧ KK (cellsOf x) ∧ (cellsOf x).length = n.getD 1:=by
 cases n with
 | none=>
  obtain ⟨h1,h2⟩:=h
  have hx:cellsOf x = [x]:=by cases x <;> simp [AV.one] at h1 <;> rfl
  have hk:QCs x = true:=by cases x <;> simp [AV.one] at h1 <;> rfl
  rw [hx]
  exact ⟨hk,h2,rfl⟩
 | some n=>
  cases x with
  | agg xs=>exact ⟨rfl,h.2,h.1⟩
  | _=>exact False.elim h

theorem QOE {t:TypeId} {n:Option Nat} (h:QDo P t = some n):∃ i,P.info? t = some i ∧ i.size = n.getD 1:=by
 cases n with
 | none=>obtain ⟨_,i,_,_,h1,h2⟩:=QGv h; exact ⟨i,h1,h2⟩
 | some n=>obtain ⟨_,i,_,_,h1,h2⟩:=QGw h; exact ⟨i,h1,h2⟩

theorem QMJ {c c':Cx} (hE:QIx c c') {cs xs:List AV} {b off:Nat} {arr:Array Value} {vs:List Value} (hsz:arr.size = cs.length) {e:TypeId} (hb:c.w.heap[b]? = some (.cells arr e (0,0)))
  (hc:QBN c cs b 0) (hv:QA3 c xs vs) (h1:∀ u ∈ vs,u.oneCell' = true) (hfit:off + xs.length ≤ cs.length)
  (hw:c'.w.heap[b]? = some (.cells (arr.toList.take off ++ vs ++ arr.toList.drop (off + vs.length)).toArray e (0,0))):
  QBN c' (cs.take off ++ xs ++ cs.drop (off + xs.length)) b 0:=by
 obtain ⟨hl,hv⟩:=QBv.1 hv
 rw [QCE] at hc ⊢
 intro j x hj
 have hlo:(cs.take off).length = off:=by rw [List.length_take]; omega
 have hla:(arr.toList.take off).length = off:=by rw [List.length_take,Array.length_toList]; omega
 have hold:∀ k:Nat,cs[k]? = some x → (∃ v,arr[k]? = some v ∧ v.oneCell' = true ∧ Val c' x v):=by
  intro k hk
  obtain ⟨v,h2,h3,h4⟩:=hc k x hk
  rw [Nat.zero_add,cell_of_row _ _ _ _ _ _ hb] at h2
  exact ⟨v,h2,h3,QB1 hE _ _ h4⟩
 rw [Nat.zero_add]
 suffices hs:∃ v,(arr.toList.take off ++ vs ++ arr.toList.drop (off + vs.length))[j]? = some v ∧ v.oneCell' = true ∧ Val c' x v by
  obtain ⟨v,h2,h3⟩:=hs
  exact ⟨v,by rw [cell_of_row _ _ _ _ _ _ hw]; simpa using h2,h3⟩
 by_cases hj1:j < off
 ·rw [List.append_assoc,List.getElem?_append_left (by omega),List.getElem?_take_of_lt hj1] at hj
  obtain ⟨v,h2,h3⟩:=hold j hj
  exact ⟨v,by rw [List.append_assoc,List.getElem?_append_left (by omega),List.getElem?_take_of_lt hj1]; simpa using h2,h3⟩
 ·by_cases hj2:j < off + xs.length
  ·rw [List.append_assoc,List.getElem?_append_right (by omega),List.getElem?_append_left (by omega),hlo] at hj
   have hjv:j - off < vs.length:=by omega
   refine ⟨vs[j - off],?_,h1 _ (List.getElem_mem hjv),QB1 hE _ _ (hv _ _ _ hj (List.getElem?_eq_getElem hjv))⟩
   rw [List.append_assoc,List.getElem?_append_right (by omega),List.getElem?_append_left (by omega),hla,List.getElem?_eq_getElem hjv]
  ·rw [List.append_assoc,List.getElem?_append_right (by omega),List.getElem?_append_right (by omega),List.getElem?_drop,hlo] at hj
   rw [show off + xs.length + (j - off - xs.length) = j from by omega] at hj
   obtain ⟨v,h2,h3⟩:=hold j hj
   refine ⟨v,?_,h3⟩
   rw [List.append_assoc,List.getElem?_append_right (by omega),List.getElem?_append_right (by omega),List.getElem?_drop,hla,hl]
   rw [show off + xs.length + (j - off - xs.length) = j from by omega]
   simpa using h2

theorem QJM {t:TypeId} {x y:Operand} (ho:o.op = .store t x y) {a:Act} {w w':World} {v:Value} (hx:a.eval x = v) (h:(Instr.storeAt t v (a.eval y)).run P w = .ok () w'):(execOp a.eval o).run P w = .ok .skip w':=by
 subst hx
 simp [execOp,ho,h]

theorem QPg {t:TypeId} {n:Option Nat} {x y:Operand} (ho:o.op = .store t x y) (hn:QDo P t = some n) (hs:QIO n ((opd x).ev T) ((opd y).ev T) H K):Out P o T H nid al K:=by
 obtain ⟨i,hi,hsz⟩:=QOE hn
 unfold QIO at hs
 split at hs
 ·rename_i ob off hb
  split at hs
  ·rename_i e cs hH
   obtain ⟨hok,⟨hfit,hk⟩,hlen⟩:=QSw hs
   refine QLF hH hk rfl (fun m=>by simp [OStep]) fun c a hr hv hc=>?_
   have h1:=hv x (by simp [ho,Op.operands])
   rw [hb] at h1; simp only [Val] at h1
   obtain ⟨e',cs',b,h2,h3,h4⟩:=h1
   obtain ⟨b',arr,h5,h6,h7,h8⟩:=hr.obj _ _ hc
   rw [h3] at h5; simp at h5; subst h5
   obtain ⟨h9,h10⟩:=QE5 hok (hv y (by simp [ho,Op.operands]))
   have hvl:(a.eval y).cells.size = (cellsOf ((opd y).ev T)).length:=by have:=QCN h9; simpa using this
   have hrun:=QJJ (P:=P) hi (w:=c.w) (b:=b) (off:=off) (v:=a.eval y) (by rw [hvl,hsz,hlen]) h6 (by rw [hvl,h7]; exact hfit) h10
   refine ⟨_,b,_,h3,rfl,QJM ho h4 hrun,fun c' hE hm hw=>?_⟩
   have hh:=setRow_heap c.w b arr (arr.toList.take off ++ (a.eval y).cells.toList ++ arr.toList.drop (off + (a.eval y).cells.size)).toArray e (0,0) h6
   rw [← hw] at hh
   refine ⟨b,_,hm.trans h3,hh,?_,QMJ hE h7 h6 h8 h9 h10 hfit (by rw [hh]; simp)⟩
   simp [hvl,h7]
  ·exact hs.elim
 ·rename_i ob m k off hb
  split at hs
  ·rename_i e sz l hH
   obtain ⟨hm,hs⟩:=hs
   split at hs
   ·rename_i r hr'
    obtain ⟨hok,⟨hfit,hk⟩,hlen⟩:=QSw hs
    refine QLF hH hk rfl (fun m=>by simp [OStep]) fun c a hr hv hc=>?_
    have h1:=hv x (by simp [ho,Op.operands])
    rw [hb] at h1; simp only [Val] at h1
    obtain ⟨_,h1⟩:=h1
    rcases h1 with ⟨e',sz',l',h2,h3,h4⟩ | h1
    ·rw [hc] at h2; simp at h2; obtain ⟨rfl,rfl,rfl⟩:=h2
     obtain ⟨g,len,cap,o0,h5,h6⟩:=h4 hm
     obtain ⟨v0,h7,h8⟩:=hr.obj _ _ hc
     rw [h5] at h7; simp at h7; subst h7
     rcases h8 with ⟨h8,_⟩ | ⟨g',o1,cap',cur,h8,h9,h10,h11,⟨h12,h12s⟩,h13⟩
     ·cases h8
     ·simp at h8; obtain ⟨⟨rfl,rfl⟩,rfl,rfl⟩:=h8
      obtain ⟨h14,h15⟩:=QE5 hok (hv y (by simp [ho,Op.operands]))
      have hrl:=(QA9.1 h13 k r hr').1
      have hkl:k < l.length:=(List.getElem?_eq_some_iff.1 hr').1
      have hbd:k * sz + sz ≤ cap * sz:=by
       rw [← Nat.succ_mul]; exact Nat.mul_le_mul_right _ (by omega)
      have hvl:(a.eval y).cells.size = (cellsOf ((opd y).ev T)).length:=by have:=QCN h14; simpa using this
      have hrun:=QJJ (P:=P) hi (w:=c.w) (b:=g) (off:=o0 + (k * sz + off)) (v:=a.eval y) (by rw [hvl,hsz,hlen]) h9 (by rw [hvl]; omega) h15
      refine ⟨_,g,_,h5,rfl,QJM ho h6 hrun,fun c' hE hm' hw=>?_⟩
      have hh:=setRow_heap c.w g cur (cur.toList.take (o0 + (k * sz + off)) ++ (a.eval y).cells.toList ++ cur.toList.drop (o0 + (k * sz + off) + (a.eval y).cells.size)).toArray e (0,0) h9
      rw [← hw] at hh
      refine ⟨_,hm'.trans h5,.inr ⟨g,o0,cap,_,by simp,hh,by simpa using h10,h11,⟨by simp [hvl]; omega,h12s⟩,?_⟩⟩
      -- the rows: cell by cell
      rw [QA9]
      intro q r' hq
      have hvals:=QBv.1 h14
      have hcell:∀ j:Nat,c'.w.cell? ⟨g,j,none⟩ = (cur.toList.take (o0 + (k * sz + off)) ++ (a.eval y).cells.toList ++ cur.toList.drop (o0 + (k * sz + off) + (a.eval y).cells.size))[j]?:=by
       intro j; rw [cell_of_row _ _ _ _ _ _ hh]; simp
      have hold:∀ j:Nat,(j < o0 + (k * sz + off) ∨ o0 + (k * sz + off) + (a.eval y).cells.size ≤ j) → c'.w.cell? ⟨g,j,none⟩ = c.w.cell? ⟨g,j,none⟩:=by
       intro j hj
       rw [hcell,cell_of_row _ _ _ _ _ _ h9,← Array.getElem?_toList]
       have hla:(cur.toList.take (o0 + (k * sz + off))).length = o0 + (k * sz + off):=by rw [List.length_take,Array.length_toList]; omega
       rcases hj with hj | hj
       ·rw [List.append_assoc,List.getElem?_append_left (by omega),List.getElem?_take_of_lt hj]
       ·rw [List.append_assoc,List.getElem?_append_right (by omega),List.getElem?_append_right (by simp; omega),List.getElem?_drop,hla]
        congr 1; simp; omega
      by_cases hqk:q = k
      ·subst hqk
       rw [List.getElem?_set_self hkl] at hq
       simp only [Option.some.injEq] at hq
       subst hq
       have hc0:=(QA9.1 h13 q r hr').2
       rw [QCE] at hc0
       refine ⟨by simp; omega,?_⟩
       rw [QCE]
       intro j x' hj
       skip
       have hlo:(r.take off).length = off:=by rw [List.length_take]; omega
       by_cases hj1:j < off
       ·rw [List.append_assoc,List.getElem?_append_left (by omega),List.getElem?_take_of_lt hj1] at hj
        obtain ⟨v,hv1,hv2,hv3⟩:=hc0 j x' hj
        skip
        exact ⟨v,by rw [hold _ (.inl (by omega))]; exact hv1,hv2,QB1 hE _ _ hv3⟩
       ·by_cases hj2:j < off + (cellsOf ((opd y).ev T)).length
        ·rw [List.append_assoc,List.getElem?_append_right (by omega),List.getElem?_append_left (by omega),hlo] at hj
         have hjv:j - off < (a.eval y).cells.toList.length:=by simp [hvl]; omega
         refine ⟨(a.eval y).cells.toList[j - off],?_,h15 _ (List.getElem_mem hjv),QB1 hE _ _ (hvals.2 _ _ _ hj (List.getElem?_eq_getElem hjv))⟩
         have hla:(cur.toList.take (o0 + (q * sz + off))).length = o0 + (q * sz + off):=by rw [List.length_take,Array.length_toList]; omega
         rw [hcell,List.append_assoc,List.getElem?_append_right (by omega),List.getElem?_append_left (by simp at hjv ⊢; omega),hla,show o0 + q * sz + j - (o0 + (q * sz + off)) = j - off from by omega,List.getElem?_eq_getElem hjv]
        ·rw [List.append_assoc,List.getElem?_append_right (by omega),List.getElem?_append_right (by omega),List.getElem?_drop,hlo,show off + (cellsOf ((opd y).ev T)).length + (j - off - (cellsOf ((opd y).ev T)).length) = j from by omega] at hj
         obtain ⟨v,hv1,hv2,hv3⟩:=hc0 j x' hj
         skip
         exact ⟨v,by rw [hold _ (.inr (by omega))]; exact hv1,hv2,QB1 hE _ _ hv3⟩
      ·rw [List.getElem?_set_ne (fun h=>hqk h.symm)] at hq
       obtain ⟨hq1,hq2⟩:=QA9.1 h13 q r' hq
       refine ⟨hq1,?_⟩
       rw [QCE] at hq2 ⊢
       intro j x' hj
       obtain ⟨v,hv1,hv2,hv3⟩:=hq2 j x' hj
       have hjs:j < sz:=by rw [← hq1]; exact (List.getElem?_eq_some_iff.1 hj).1
       refine ⟨v,?_,hv2,QB1 hE _ _ hv3⟩
       rw [hold _ ?_]
       ·exact hv1
       ·rcases Nat.lt_or_gt_of_ne hqk with hlt | hgt
        ·left
         have:q * sz + sz ≤ k * sz:=by rw [← Nat.succ_mul]; exact Nat.mul_le_mul_right _ hlt
         omega
        ·right
         have:k * sz + sz ≤ q * sz:=by rw [← Nat.succ_mul]; exact Nat.mul_le_mul_right _ hgt
         rw [hvl]; omega
    ·rw [hc] at h1; cases h1
   ·exact hs.elim
  ·exact hs.elim
 ·exact hs.elim

end ops
end Go.Ab
namespace Go.Ab
open Go
set_option linter.unusedSectionVars false
variable [Glob]
section ops
variable {P:Program} {o:Oper} {T:List AV} {H:List AObj} {nid:Nat} {al:Bool} {K:SK}

theorem QMK {s:TypeId} {fs:Array Field} {f:Nat} {fd:Field} {i:TypeInfo} (hs:P.underlying s = some (.struct fs)) (hf:fs[f]? = some fd) (hi:P.info? fd.type = some i) (h0:i.size ≠ 0)
  (w:World) (b off:Nat):(Instr.fieldAt s (.pointer (some ⟨b,off,none⟩)) f).run P w = .ok (.pointer (some ⟨b,off + fd.offset,none⟩)) w:=by
 simp [Instr.fieldAt,run_underlying hs,hf,Instr.sureAddr,fieldPlace,sizeOf,typeInfo,hi,h0,Addr.add_mid]

theorem QPh {s:TypeId} {x:Operand} {f:Nat} {fs:Array Field} {fd:Field} {i:TypeInfo} (ho:o.op = .fieldAddr s x f) (hs:P.underlying s = some (.struct fs)) (hf:fs[f]? = some fd)
  (hi:P.info? fd.type = some i) (h0:i.size ≠ 0) (hK:QHV fd.offset ((opd x).ev T) H K):Out P o T H nid al K:=by
 have hrun:∀ (a:Act) (w:World) (b off:Nat),a.eval x = .pointer (some ⟨b,off,none⟩) → (execOp a.eval o).run P w = .ok (.value (.pointer (some ⟨b,off + fd.offset,none⟩))) w:=fun a w b off h=>by
  simp [execOp,ho,h,QMK hs hf hi h0]
 unfold QHV at hK
 split at hK
 ·rename_i ob k hb
  refine QAX hK fun c a hr hv=>?_
  have h1:=hv x (by simp [ho,Op.operands])
  rw [hb] at h1; simp only [Val] at h1
  obtain ⟨e,cs,b,h2,h3,h4⟩:=h1
  exact ⟨_,hrun a c.w b k h4,by simp only [Val]; exact ⟨e,cs,b,h2,h3,rfl⟩⟩
 ·rename_i cs hb
  refine QAX hK fun c a hr hv=>?_
  have h1:=hv x (by simp [ho,Op.operands])
  rw [hb] at h1; simp only [Val] at h1
  obtain ⟨b,off,h2,h3,h4⟩:=h1
  exact ⟨_,hrun a c.w b off h2,by simp only [Val]; exact ⟨b,_,rfl,h3,QDF h4 _⟩⟩
 ·rename_i ob n j k hb
  split at hK
  ·rename_i e sz l hH
   obtain ⟨hn,hK⟩:=hK
   refine QBs hH hK fun c a hr hv hc=>?_
   have h1:=hv x (by simp [ho,Op.operands])
   rw [hb] at h1; simp only [Val] at h1
   obtain ⟨_,h1⟩:=h1
   rcases h1 with ⟨e',sz',l',h2,h3,h4⟩ | h1
   ·rw [hc] at h2; simp at h2; obtain ⟨rfl,rfl,rfl⟩:=h2
    obtain ⟨g,len,cap,o0,h5,h6⟩:=h4 hn
    refine ⟨_,hrun a c.w g _ h6,?_⟩
    simp only [Val]
    exact ⟨⟨_,rfl⟩,.inl ⟨e,sz,l,hc,h3,fun _=>⟨g,len,cap,o0,h5,by simp only [Nat.add_assoc]⟩⟩⟩
   ·rw [hc] at h1; cases h1
  ·exact hK.elim
 ·exact hK.elim

theorem QIR {t:TypeId} (h:QDo P t = some none) {w:World} {cs:Array Value} {off:Nat} {v:Value} (hc:cs[off]? = some v):(part t cs off).run P w = .ok v w:=by
 obtain ⟨d,i,h1,h2,h4,h5⟩:=QGv h
 simp only [part,Sem.run_bind,QIN h1,Result.andThen_ok,h2,Bool.false_eq_true,if_false,hc,Sem.run_pure]

theorem QPi {t:TypeId} {n:Nat} (h:QDo P t = some (some n)) {w:World} {cs:Array Value} {off:Nat}:(part t cs off).run P w = .ok (.agg (cs.extract off (off + n))) w:=by
 obtain ⟨d,i,h1,h2,h3,h4⟩:=QGw h
 simp only [part,Sem.run_bind,QIN h1,Result.andThen_ok,h2,if_true,QBo h3,h4,Sem.run_pure]

theorem QPj {c:Cx} {l:List AV} {vs:List Value} (h:QA3 c l vs) (k:Nat):QA3 c (l.drop k) (vs.drop k):=by
 rw [QBv] at h ⊢
 refine ⟨by simp [h.1],fun j x v h1 h2=>?_⟩
 rw [List.getElem?_drop] at h1 h2
 exact h.2 _ _ _ h1 h2

theorem QPk {c:Cx} {l:List AV} {vs:List Value} (h:QA3 c l vs) (k:Nat):QA3 c (l.take k) (vs.take k):=by
 rw [QBv] at h ⊢
 refine ⟨by simp [h.1],fun j x v h1 h2=>?_⟩
 have hj:j < k:=by have:=(List.getElem?_eq_some_iff.1 h1).1; simp at this; omega
 rw [List.getElem?_take_of_lt hj] at h1 h2
 exact h.2 _ _ _ h1 h2

theorem QPl {s:TypeId} {x:Operand} {f:Nat} {fs:Array Field} {fd:Field} {n:Option Nat} (ho:o.op = .field s x f) (hs:P.underlying s = some (.struct fs)) (hf:fs[f]? = some fd)
  (hn:QDo P fd.type = some n) (hK:QJK fd.offset n ((opd x).ev T) K):Out P o T H nid al K:=by
 unfold QJK at hK
 split at hK
 ·rename_i cs hb
  obtain ⟨val,hk,hl⟩:=QIQ hK
  refine QAX hk fun c a hr hv=>?_
  have h1:=hv x (by simp [ho,Op.operands])
  rw [hb] at h1; simp only [Val] at h1
  obtain ⟨vs,h2,h3,h4⟩:=h1
  have hrun:∀ v,(part fd.type vs fd.offset).run P c.w = .ok v c.w → (execOp a.eval o).run P c.w = .ok (.value v) c.w:=fun v h=>by
   simp [execOp,ho,h2,Instr.field,run_underlying hs,hf,asAgg,h]
  have h5:=QPj h3 fd.offset
  cases n with
  | none=>
   unfold ldK at hl
   simp only at hl
   split at hl
   ·rename_i y ys hd
    subst hl
    rw [hd] at h5
    simp only [QA3] at h5
    obtain ⟨v,vs',h6,h7,_⟩:=h5
    have:vs.toList[fd.offset]? = some v:=by
     have:=congrArg (·[0]?) h6
     simpa using this
    exact ⟨v,hrun v (QIR hn (by simpa using this)),h7⟩
   ·exact hl.elim
  | some n=>
   obtain ⟨hle,rfl⟩:=hl
   refine ⟨_,hrun _ (QPi hn),?_⟩
   simp only [Val]
   refine ⟨_,rfl,?_,fun u hu=>h4 u ?_⟩
   ·have:=QPk h5 n
    simpa [Array.toList_extract,List.extract_eq_take_drop] using this
   ·have:u ∈ (vs.toList.drop fd.offset).take n:=by simpa [Array.toList_extract,List.extract_eq_take_drop] using hu
    exact List.mem_of_mem_drop (List.mem_of_mem_take this)
 ·exact hK.elim

theorem QOF {x:Operand} (ho:o.op = .nilCheck x) (hK:QE4 ((opd x).ev T) H K):Out P o T H nid al K:=by
 have hrun:∀ (a:Act) (w:World) (p:Addr),a.eval x = .pointer (some p) → (execOp a.eval o).run P w = .ok (.value (a.eval x)) w:=fun a w p h=>by simp [execOp,ho,h]
 unfold QE4 at hK
 split at hK
 ·rename_i ob off hb
  refine QAX hK fun c a hr hv=>?_
  have h1:=hv x (by simp [ho,Op.operands])
  have h0:=h1
  rw [hb] at h1; simp only [Val] at h1
  obtain ⟨e,cs,b,h2,h3,h4⟩:=h1
  exact ⟨_,hrun a c.w _ h4,hb ▸ h0⟩
 ·rename_i cs hb
  refine QAX hK fun c a hr hv=>?_
  have h1:=hv x (by simp [ho,Op.operands])
  have h0:=h1
  rw [hb] at h1; simp only [Val] at h1
  obtain ⟨b,off,h2,h3,h4⟩:=h1
  exact ⟨_,hrun a c.w _ h2,hb ▸ h0⟩
 ·rename_i ob n j k hb
  split at hK
  ·rename_i e sz l hH
   obtain ⟨hn,hK⟩:=hK
   refine QBs hH hK fun c a hr hv hc=>?_
   have h1:=hv x (by simp [ho,Op.operands])
   have h0:=h1
   rw [hb] at h1; simp only [Val] at h1
   obtain ⟨_,h1⟩:=h1
   rcases h1 with ⟨e',sz',l',h2,h3,h4⟩ | h1
   ·rw [hc] at h2; simp at h2; obtain ⟨rfl,rfl,rfl⟩:=h2
    obtain ⟨g,len,cap,o0,h5,h6⟩:=h4 hn
    exact ⟨_,hrun a c.w _ h6,hb ▸ h0⟩
   ·rw [hc] at h1; cases h1
  ·exact hK.elim
 ·exact hK.elim

theorem QW0 {c:Cx} {l:List (List AV)} {v:Value} (hv:Val c (.imm l) v) {i:Nat} {r:List AV} (hi:l[i]? = some r):
  ∃ b off cap sz,v = .slice (some ⟨b,off,none⟩) l.length cap ∧ c.F b ∧ r.length = sz ∧ QBN c r b (off + i * sz):=by
 simp only [Val] at hv
 rcases hv with ⟨b,off,cap,sz,h1,h2,h3,h4⟩ | ⟨rfl,_⟩
 ·obtain ⟨h5,h6⟩:=QA9.1 h4 i r hi
  exact ⟨b,off,cap,sz,h1,h2,h5,h6⟩
 ·simp at hi

theorem QFm {c:Cx} (hr:Rel c) {ob m e sz:Nat} {l:List (List AV)} {v:Value} (hv:Val c (.own ob m) v) (hc:c.H[ob]? = some (.reg e sz l)) (hm:m = l.length):
  c.μ[ob]? = some v ∧ ((v = .slice none 0 0 ∧ l = []) ∨ ∃ g o0 cap cur,v = .slice (some ⟨g,o0,none⟩) l.length cap ∧ c.w.heap[g]? = some (.cells cur e (0,0)) ∧ l.length ≤ cap ∧ cap ≤ maxLen ∧ (o0 + cap * sz ≤ cur.size ∧ (sz = 1 → o0 = 0)) ∧ QAh c l g o0 sz):=by
 simp only [Val] at hv
 obtain ⟨_,h1⟩:=hv
 rcases h1 with ⟨e',sz',l',h2,h3,h4⟩ | h1
 ·rw [hc] at h2; simp at h2; obtain ⟨rfl,rfl,rfl⟩:=h2
  obtain ⟨v0,h7,h8⟩:=hr.obj _ _ hc
  have h9:=h4 hm
  rw [h9] at h7; simp at h7; subst h7
  exact ⟨h9,h8⟩
 ·rw [hc] at h1; cases h1

theorem QDG {t e:TypeId} {i:TypeInfo} (ht:P.underlying t = some (.slice e)) (hi:P.info? e = some i) (w:World) (b off len cap:Nat) (k:IntKind) (n:Int) (h0:0 ≤ n) (hl:n.toNat < len):
  (Instr.indexAt t (.slice (some ⟨b,off,none⟩) len cap) (.int k n)).run P w = .ok (.pointer (some ⟨b,off + n.toNat * i.size,none⟩)) w:=by
 have hlt:n < (len:Int):=by omega
 simp [Instr.indexAt,asIntOf,run_underlying ht,h0,hlt,sizeOf,typeInfo,hi,Addr.add_mid]

theorem QEL {t e:TypeId} {len:Nat} {i:TypeInfo} (ht:P.underlying t = some (.array len e)) (hi:P.info? e = some i) (w:World) (b off:Nat) (k:IntKind) (n:Int) (h0:0 ≤ n) (hl:n.toNat < len):
  (Instr.indexAt t (.pointer (some ⟨b,off,none⟩)) (.int k n)).run P w = .ok (.pointer (some ⟨b,off + n.toNat * i.size,none⟩)) w:=by
 have hlt:n < (len:Int):=by omega
 simp [Instr.indexAt,asIntOf,run_underlying ht,Instr.sureAddr,h0,hlt,sizeOf,typeInfo,hi,Addr.add_mid]

theorem QLG {t e:TypeId} {x y:Operand} {arr:Option Nat} {i:TypeInfo} (ho:o.op = .indexAddr t x y) (ht:P.underlying t = some (match arr with | none=>.slice e | some n=>.array n e))
  (hi:P.info? e = some i) (hK:QFk arr i.size ((opd x).ev T) ((opd y).ev T) H K):Out P o T H nid al K:=by
 have hxy:∀ (c:Cx) (a:Act),(∀ x ∈ o.op.operands.toList,Val c ((opd x).ev T) (a.eval x)) → Val c ((opd x).ev T) (a.eval x) ∧ Val c ((opd y).ev T) (a.eval y):=
  fun c a hv=>⟨hv x (by simp [ho,Op.operands]),hv y (by simp [ho,Op.operands])⟩
 have hrun:∀ (a:Act) (w:World) (u v:Value) (k:IntKind) (n:Int),a.eval x = u → a.eval y = .int k n → (Instr.indexAt t u (.int k n)).run P w = .ok v w → (execOp a.eval o).run P w = .ok (.value v) w:=fun a w u v k n h1 h2 h=>by
  subst h1
  simp [execOp,ho,h2,h]
 unfold QFk at hK
 split at hK
 ·rename_i k n hy
  obtain ⟨h0,hK⟩:=hK
  cases arr with
  | none=>
   simp only at hK ht
   split at hK
   ·rename_i l hx
    split at hK
    ·rename_i r hr'
     obtain ⟨hrl,hk⟩:=hK
     refine QAX hk fun c a hr hv=>?_
     obtain ⟨h1,h2⟩:=hxy c a hv
     rw [hx] at h1; rw [hy] at h2; simp only [Val] at h2
     obtain ⟨b,off,cap,sz,h3,h4,h5,h6⟩:=QW0 h1 hr'
     have hlt:n.toNat < l.length:=(List.getElem?_eq_some_iff.1 hr').1
     refine ⟨_,hrun a c.w _ _ k n h3 h2 (QDG ht hi c.w b off l.length cap k n h0 hlt),?_⟩
     simp only [Val]
     exact ⟨b,_,rfl,h4,by rw [← hrl,h5]; exact h6⟩
    ·exact hK.elim
   ·rename_i ob m hx
    split at hK
    ·rename_i e' sz' l hH
     obtain ⟨hm,hsz,hlt,hk⟩:=hK
     refine QBs hH hk fun c a hr hv hc=>?_
     obtain ⟨h1,h2⟩:=hxy c a hv
     rw [hx] at h1; rw [hy] at h2; simp only [Val] at h2
     obtain ⟨h3,h4⟩:=QFm hr h1 hc hm
     rcases h4 with ⟨_,rfl⟩ | ⟨g,o0,cap,cur,h4,_⟩
     ·simp at hm; omega
     ·refine ⟨_,hrun a c.w _ _ k n h4 h2 (QDG ht hi c.w g o0 l.length cap k n h0 (by omega)),?_⟩
      simp only [Val]
      exact ⟨⟨_,rfl⟩,.inl ⟨e',sz',l,hc,by omega,fun _=>⟨g,_,cap,o0,by rw [h3,h4],by simp [hsz]⟩⟩⟩
    ·exact hK.elim
   ·rename_i ob lo q m hx
    split at hK
    ·rename_i e' sz' l hH
     obtain ⟨hm,hsz,hlt,hk⟩:=hK
     refine QBs hH hk fun c a hr hv hc=>?_
     obtain ⟨h1,h2⟩:=hxy c a hv
     rw [hx] at h1; rw [hy] at h2; simp only [Val] at h1 h2
     rcases h1.2 with ⟨e2,sz2,l2,g1,_,g3⟩ | g1
     ·rw [hc] at g1; simp at g1; obtain ⟨rfl,rfl,rfl⟩:=g1
      obtain ⟨k1,k2⟩:=g3 hm
      rcases k2 with ⟨g,len,cap,o0,cp,k3,k4,_⟩ | ⟨k3,_⟩
      ·refine ⟨_,hrun a c.w _ _ k n k4 h2 (QDG ht hi c.w g (o0 + lo * sz') q cp k n h0 hlt),?_⟩
       simp only [Val]
       exact ⟨⟨_,rfl⟩,.inl ⟨e',sz',l,hc,by omega,fun _=>⟨g,_,cap,o0,k3,by rw [← hsz,Nat.add_mul]; simp [Nat.add_assoc]⟩⟩⟩
      ·exact absurd hlt (by rw [k3]; exact Nat.not_lt_zero _)
     ·rw [hc] at g1; cases g1
    ·exact hK.elim
   ·exact hK.elim
  | some len=>
   simp only at hK ht
   obtain ⟨hlt,hK⟩:=hK
   split at hK
   ·rename_i ob off hx
    refine QAX hK fun c a hr hv=>?_
    obtain ⟨h1,h2⟩:=hxy c a hv
    rw [hx] at h1; rw [hy] at h2; simp only [Val] at h1 h2
    obtain ⟨e,cs,b,h3,h4,h5⟩:=h1
    exact ⟨_,hrun a c.w _ _ k n h5 h2 (QEL ht hi c.w b off k n h0 hlt),by simp only [Val]; exact ⟨e,cs,b,h3,h4,rfl⟩⟩
   ·rename_i cs hx
    refine QAX hK fun c a hr hv=>?_
    obtain ⟨h1,h2⟩:=hxy c a hv
    rw [hx] at h1; rw [hy] at h2; simp only [Val] at h1 h2
    obtain ⟨b,off,h3,h4,h5⟩:=h1
    exact ⟨_,hrun a c.w _ _ k n h3 h2 (QEL ht hi c.w b off k n h0 hlt),by simp only [Val]; exact ⟨b,_,rfl,h4,QDF h5 _⟩⟩
   ·exact hK.elim
 ·exact hK.elim

end ops
end Go.Ab
namespace Go.Ab
open Go
set_option linter.unusedSectionVars false
variable [Glob]

def QLH (c:Cx) (l:List (List AV)) (vs:List Value) (sz:Nat):Prop:=
 vs.length = l.length * sz ∧ ∀ (i:Nat) (r:List AV),l[i]? = some r → r.length = sz ∧ ∀ (j:Nat) (x:AV),r[j]? = some x → ∃ v,vs[i * sz + j]? = some v ∧ v.oneCell' = true ∧ Val c x v

theorem QCY (c:Cx) (sz:Nat):QLH c [] [] sz:=⟨by simp,by simp⟩

theorem QC5 {c c':Cx} (h:QIx c c') {l:List (List AV)} {vs:List Value} {sz:Nat} (hf:QLH c l vs sz):QLH c' l vs sz:=
 ⟨hf.1,fun i r hi=>⟨(hf.2 i r hi).1,fun j x hj=>let ⟨v,h1,h2,h3⟩:=(hf.2 i r hi).2 j x hj; ⟨v,h1,h2,QB1 h _ _ h3⟩⟩⟩

theorem QDp {c:Cx} {l r:List (List AV)} {vs ws:List Value} {sz:Nat} (h:QLH c l vs sz) (k:QLH c r ws sz):QLH c (l ++ r) (vs ++ ws) sz:=by
 refine ⟨by rw [List.length_append,h.1,k.1,List.length_append,Nat.add_mul],fun i x hi=>?_⟩
 by_cases hil:i < l.length
 ·rw [List.getElem?_append_left hil] at hi
  obtain ⟨h1,h2⟩:=h.2 i x hi
  refine ⟨h1,fun j y hj=>?_⟩
  obtain ⟨v,h3,h4⟩:=h2 j y hj
  exact ⟨v,by rw [List.getElem?_append_left (List.getElem?_eq_some_iff.1 h3).1]; exact h3,h4⟩
 ·rw [List.getElem?_append_right (by omega)] at hi
  obtain ⟨h1,h2⟩:=k.2 _ x hi
  refine ⟨h1,fun j y hj=>?_⟩
  obtain ⟨v,h3,h4⟩:=h2 j y hj
  refine ⟨v,?_,h4⟩
  have e:i * sz + j = vs.length + ((i - l.length) * sz + j):=by
   rw [h.1,Nat.sub_mul,← Nat.add_assoc,Nat.add_sub_cancel' (Nat.mul_le_mul_right _ (by omega))]
  rw [e,List.getElem?_append_right (by omega),Nat.add_sub_cancel_left]
  exact h3

theorem QCH {c:Cx} {l:List (List AV)} {vs:List Value} {sz b off:Nat} (h:QLH c l vs sz) (hc:∀ (j:Nat) (v:Value),vs[j]? = some v → c.w.cell? ⟨b,off + j,none⟩ = some v):QAh c l b off sz:=by
 rw [QA9]
 intro i r hi
 obtain ⟨h1,h2⟩:=h.2 i r hi
 refine ⟨h1,?_⟩
 rw [QCE]
 intro j x hj
 obtain ⟨v,h3,h4⟩:=h2 j x hj
 exact ⟨v,by rw [Nat.add_assoc]; exact hc _ v h3,h4⟩

theorem QLI {c:Cx} {r:List AV} {l:List (List AV)} {vs ws:List Value} {sz:Nat} (hr:r.length = sz) (hv:QA3 c r vs) (h1:∀ u ∈ vs,u.oneCell' = true) (h:QLH c l ws sz):QLH c (r :: l) (vs ++ ws) sz:=by
 refine QDp (l:=[r]) ⟨by simp [QCN hv,hr],fun i x hi=>?_⟩ h
 cases i with
 | zero=>
  simp at hi
  subst hi
  refine ⟨hr,fun j y hj=>?_⟩
  have hjl:j < vs.length:=by rw [QCN hv]; exact (List.getElem?_eq_some_iff.1 hj).1
  exact ⟨vs[j],by simp [hjl],h1 _ (List.getElem_mem hjl),(QBv.1 hv).2 j y _ hj (List.getElem?_eq_getElem hjl)⟩
 | succ i=>simp at hi

theorem QCI {c:Cx}:∀ {l:List (List AV)} {b off sz:Nat},QAh c l b off sz →
  ∃ vs,QLH c l vs sz ∧ (∀ u ∈ vs,u.oneCell' = true) ∧ ∀ (j:Nat) (v:Value),vs[j]? = some v → c.w.cell? ⟨b,off + j,none⟩ = some v
 | [],b,off,sz,_=>⟨[],QCY c sz,by simp,by simp⟩
 | r :: l,b,off,sz,h=>by
  simp only [QAh] at h
  obtain ⟨h1,h2,h3⟩:=h
  obtain ⟨vs,h4,h5,h6,h7⟩:=QJI h2
  obtain ⟨ws,h8,h9,h10⟩:=QCI h3
  refine ⟨vs ++ ws,QLI h1 h5 h6 h8,fun u hu=>by exact (List.mem_append.1 hu).elim (h6 u) (h9 u),fun j v hj=>?_⟩
  have hvl:vs.length = sz:=by rw [h4,h1]
  by_cases hjl:j < vs.length
  ·rw [List.getElem?_append_left hjl] at hj; exact h7 j v hj
  ·rw [List.getElem?_append_right (by omega)] at hj
   have:=h10 _ v hj
   rwa [show off + sz + (j - vs.length) = off + j from by omega] at this

theorem QFy {c:Cx}:∀ {l:List (List AV)} {b off sz:Nat} (lo n:Nat),QAh c l b off sz → QAh c ((l.drop lo).take n) b (off + lo * sz) sz
 | [],_,_,_,lo,n,_=>by simp [QAh]
 | r :: rs,b,off,sz,0,0,h=>by simp [QAh]
 | r :: rs,b,off,sz,0,n + 1,h=>by
  simp only [QAh] at h
  simp only [List.drop_zero,List.take_succ_cons,Nat.zero_mul,Nat.add_zero,QAh]
  refine ⟨h.1,h.2.1,?_⟩
  have:=QFy 0 n h.2.2
  simpa using this
 | r :: rs,b,off,sz,lo + 1,n,h=>by
  simp only [QAh] at h
  have:=QFy lo n h.2.2
  rw [List.drop_succ_cons,show off + (lo + 1) * sz = off + sz + lo * sz by rw [Nat.add_mul]; omega]
  exact this
theorem QSx {c:Cx} (hr:Rel c) {ob lo n m e sz:Nat} {l:List (List AV)} {v:Value} (hv:Val c (.pre ob lo n m) v) (hc:c.H[ob]? = some (.reg e sz l)) (hm:m = l.length):
  lo + n ≤ m ∧ ((∃ g o0 cp,v = .slice (some ⟨g,o0 + lo * sz,none⟩) n cp ∧ QAh c ((l.drop lo).take n) g (o0 + lo * sz) sz) ∨ (n = 0 ∧ ∃ a cp,v = .slice a 0 cp)):=by
 simp only [Val] at hv
 obtain ⟨_,h1⟩:=hv
 rcases h1 with ⟨e',sz',l',h2,h3,h4⟩ | h1
 ·rw [hc] at h2; simp at h2; obtain ⟨rfl,rfl,rfl⟩:=h2
  obtain ⟨h5,h6⟩:=h4 hm
  refine ⟨h5,?_⟩
  rcases h6 with ⟨g,len,cap,o0,cp,h7,rfl,h8,h9⟩ | ⟨rfl,h7⟩
  ·obtain ⟨v0,h10,h11⟩:=hr.obj _ _ hc
   rw [h7] at h10; cases h10
   rcases h11 with ⟨h11,_⟩ | ⟨g',o1,cap',cur,h11,h12,_,_,_,h16⟩
   ·cases h11
   ·cases h11
    exact .inl ⟨g,o0,cp,rfl,QFy lo n h16⟩
  ·rcases h7 with rfl | ⟨g,len,cap,o0,d,_,rfl,_⟩
   ·exact .inr ⟨rfl,none,0,rfl⟩
   ·exact .inr ⟨rfl,_,0,rfl⟩
 ·rw [hc] at h1; cases h1

section ops
variable {P:Program} {o:Oper} {T:List AV} {H:List AObj} {nid:Nat} {al:Bool} {K:SK}

def QGx (c:Cx) (v:Value) (e sz:Nat) (l:List (List AV)):Prop:=
 (v = .slice none 0 0 ∧ l = []) ∨ ∃ g o0 cap cur,v = .slice (some ⟨g,o0,none⟩) l.length cap ∧ c.w.heap[g]? = some (.cells cur e (0,0)) ∧ l.length ≤ cap ∧ cap ≤ maxLen ∧ (o0 + cap * sz ≤ cur.size ∧ (sz = 1 → o0 = 0)) ∧ QAh c l g o0 sz

theorem QE6 (z:Array Value) (n:Nat):(Builtin.zeroCells z n).size = n * z.size:=by simp [Builtin.zeroCells]

theorem QKA {c:Cx} (hr:Rel c) {y:AV} {v:Value} (hv:Val c y v) {H:List AObj} {pre:List (Nat × AObj)} {ys:List (List AV)} (hs:QGQ y H (fun p l=>p = pre ∧ l = ys)) (hpre:∀ p ∈ pre,c.H[p.1]? = some p.2) {sz:Nat} (hsz:∀ r ∈ ys,r.length = sz):
  ∃ (a:Option Addr) (cap:Nat) (news:List Value),v = .slice a ys.length cap ∧ QLH c ys news sz ∧ (∀ u ∈ news,u.oneCell' = true) ∧ (ys ≠ [] → ∃ ad,a = some ad ∧ ∀ (j:Nat) (u:Value),news[j]? = some u → c.w.cell? (ad.add j) = some u):=by
 unfold QGQ at hs
 split at hs
 ·obtain ⟨rfl,rfl⟩:=hs
  simp only [Val] at hv
  exact ⟨none,0,[],hv,QCY c sz,by simp,by simp⟩
 ·rename_i l
  obtain ⟨rfl,rfl⟩:=hs
  simp only [Val] at hv
  rcases hv with ⟨b,off,cap,sz',h1,h2,h3,h4⟩ | ⟨rfl,a,cp,h1⟩
  ·by_cases hl:l = []
   ·subst hl; exact ⟨_,_,[],h1,QCY c sz,by simp,by simp⟩
   ·have hsz':sz' = sz:=by
     cases l with
     | nil=>exact (hl rfl).elim
     | cons r l=>simp only [QAh] at h4; rw [← h4.1]; exact hsz r (by simp)
    subst hsz'
    obtain ⟨vs,h5,h6,h7⟩:=QCI h4
    exact ⟨_,_,vs,h1,h5,h6,fun _=>⟨_,rfl,fun j u hj=>by rw [Addr.add_mid]; exact h7 j u hj⟩⟩
  ·exact ⟨a,cp,[],h1,QCY c sz,by simp,by simp⟩
 ·rename_i ob n
  split at hs
  ·rename_i e sz' l hH
   obtain ⟨hn,rfl,rfl⟩:=hs
   have hc:c.H[ob]? = some (.reg e sz' l):=hpre (ob,.reg e sz' l) (by simp)
   obtain ⟨_,h4⟩:=QFm hr hv hc hn
   rcases h4 with ⟨rfl,rfl⟩ | ⟨g,o0,cap,cur,h4,h5,h6,h7,h8,h9⟩
   ·exact ⟨none,0,[],rfl,QCY c sz,by simp,by simp⟩
   ·by_cases hl:l = []
    ·subst hl; exact ⟨_,_,[],h4,QCY c sz,by simp,by simp⟩
    ·have hsz':sz' = sz:=by
      cases l with
      | nil=>exact (hl rfl).elim
      | cons r l=>simp only [QAh] at h9; rw [← h9.1]; exact hsz r (by simp)
     subst hsz'
     obtain ⟨vs,h10,h11,h12⟩:=QCI h9
     exact ⟨_,_,vs,h4,h10,h11,fun _=>⟨_,rfl,fun j u hj=>by rw [Addr.add_mid]; exact h12 j u hj⟩⟩
  ·exact hs.elim
 ·rename_i ob lo n m
  split at hs
  ·rename_i e sz' l hH
   obtain ⟨hn,rfl,rfl⟩:=hs
   have hc:c.H[ob]? = some (.reg e sz' l):=hpre (ob,.reg e sz' l) (by simp)
   obtain ⟨hle,h4⟩:=QSx hr hv hc hn
   have hlen:((l.drop lo).take n).length = n:=by rw [List.length_take,List.length_drop]; omega
   rcases h4 with ⟨g,o0,cp,rfl,h9⟩ | ⟨rfl,a,cp,rfl⟩
   ·by_cases hl:(l.drop lo).take n = []
    ·rw [hl] at hlen
     simp only [List.length_nil] at hlen
     subst hlen
     exact ⟨_,_,[],rfl,by rw [hl]; exact QCY c sz,by simp,by simp⟩
    ·have hsz':sz' = sz:=by
      generalize (l.drop lo).take n = ll at h9 hl hsz
      cases ll with
      | nil=>exact (hl rfl).elim
      | cons r ll=>simp only [QAh] at h9; rw [← h9.1]; exact hsz r (by simp)
     subst hsz'
     obtain ⟨vs,h10,h11,h12⟩:=QCI h9
     rw [hlen]
     exact ⟨_,_,vs,rfl,h10,h11,fun _=>⟨_,rfl,fun j u hj=>by rw [Addr.add_mid]; exact h12 j u hj⟩⟩
   ·exact ⟨a,cp,[],rfl,by simpa using QCY c sz,by simp,by simp⟩
  ·exact hs.elim
 ·obtain ⟨rfl,rfl⟩:=hs
  simp only [Val] at hv
  exact ⟨_,_,[],hv,QCY c sz,by simp,by simp⟩
 ·exact hs.elim

theorem QRW {y:AV} {H:List AObj} {KK:List (Nat × AObj) → List (List AV) → Prop} (hs:QGQ y H KK):
  ∃ pre ys,KK pre ys ∧ QGQ y H (fun p l=>p = pre ∧ l = ys) ∧ (∀ p ∈ pre,H[p.1]? = some p.2):=by
 unfold QGQ at hs ⊢
 split at hs
 ·exact ⟨_,_,hs,⟨rfl,rfl⟩,by simp⟩
 ·exact ⟨_,_,hs,⟨rfl,rfl⟩,by simp⟩
 ·split at hs
  ·rename_i h
   exact ⟨_,_,hs.2,⟨hs.1,rfl,rfl⟩,by simpa using h⟩
  ·exact hs.elim
 ·split at hs
  ·rename_i h
   exact ⟨_,_,hs.2,⟨hs.1,rfl,rfl⟩,by simpa using h⟩
  ·exact hs.elim
 ·exact ⟨_,_,hs,⟨rfl,rfl⟩,by simp⟩
 ·exact hs.elim

theorem QHp {P:Program} (w:World) (t ty e:TypeId) (i:TypeInfo) (ht:P.underlying t = some (.slice e)) (hi:P.info? e = some i)
  (g off QSv sCap:Nat) (cur:Array Value) (hg:w.heap[g]? = some (.cells cur e (0,0)))
  (a:Addr) (m c:Nat) (news:List Value) (hl:news.length = m * i.size) (hnews:∀ (j:Nat) (u:Value),news[j]? = some u → w.cell? (a.add j) = some u) (h1:∀ u ∈ news,u.oneCell' = true)
  (hroom:QSv + m ≤ sCap) (hfit:off + QSv * i.size + news.length ≤ cur.size):
  (Builtin.append_ #[t,t] ty #[.slice (some ⟨g,off,none⟩) QSv sCap,.slice (some a) m c]).run P w =
   .ok (.slice (some ⟨g,off,none⟩) (QSv + m) sCap) (w.setRow g (cur.toList.take (off + QSv * i.size) ++ news ++ cur.toList.drop (off + QSv * i.size + news.length)).toArray):=by
 have hf:=run_firstCells_some (P:=P) w i.size m a m c news hl hnews
 have hst:=run_storeCells_at P g (off + QSv * i.size) e news 0 cur w hg (by simpa using hfit) h1
 simp only [Nat.add_zero] at hst
 simp [Builtin.append_,run_underlying ht,sizeOf,typeInfo,hi,Builtin.lenOf,hroom,hf,Addr.add_mid,hst]

theorem QGy {c:Cx} {t e:TypeId} (ty:TypeId) {i:TypeInfo} {z:Value} (ht:P.underlying t = some (.slice e)) (hi:P.info? e = some i) (hz:i.zero = some z) (hzs:z.cells.size = i.size)
  {v:Value} {l ys:List (List AV)} (hreg:QGx c v e i.size l) {a:Option Addr} {cap:Nat} {news:List Value} (hf:QLH c ys news i.size) (h1:∀ u ∈ news,u.oneCell' = true)
  (hsrc:ys ≠ [] → ∃ ad,a = some ad ∧ ∀ (j:Nat) (u:Value),news[j]? = some u → c.w.cell? (ad.add j) = some u) (hfit:QOA i.bytes (l.length + ys.length)):
  ∃ v' w',(Builtin.append_ #[t,t] ty #[v,.slice a ys.length cap]).run P c.w = .ok v' w' ∧ c.w.heap.size ≤ w'.heap.size ∧ w'.os = c.w.os ∧ w'.tape = c.w.tape ∧ w'.output = c.w.output ∧
   (∀ b,b < c.w.heap.size → blk v ≠ some b → w'.heap[b]? = c.w.heap[b]?) ∧ (∀ b,blk v' = some b → b = c.w.heap.size ∨ blk v = some b) ∧ (ys = [] → v' = v) ∧
   (∃ k cp,v' = .slice k (l.length + ys.length) cp) ∧
   ∀ c',QIx c c' → c'.w = w' → QGx c' v' e i.size (l ++ ys):=by
 obtain ⟨hml,hby⟩:=hfit
 have hml':l.length + ys.length ≤ 9223372036854775807:=by simp only [maxLen] at hml; omega
 by_cases hy:ys = []
 ·subst hy
  rcases hreg with ⟨rfl,rfl⟩ | ⟨g,o0,cp,cur,rfl,h3,h4,h5,h6,h7⟩
  ·refine ⟨.slice none 0 0,c.w,?_,Nat.le_refl _,rfl,rfl,rfl,fun _ _ _=>rfl,fun b hb=>by simp [blk] at hb,fun _=>rfl,⟨_,_,rfl⟩,fun c' _ _=>.inl ⟨rfl,rfl⟩⟩
   cases a <;> simp [Builtin.append_,run_underlying ht,sizeOf,typeInfo,hi,Builtin.lenOf,Builtin.firstCells,loadCells,loadCellsFrom]
  ·refine ⟨_,c.w,?_,Nat.le_refl _,rfl,rfl,rfl,fun _ _ _=>rfl,fun b hb=>.inr hb,fun _=>rfl,⟨_,_,rfl⟩,fun c' hE hw=>.inr ⟨g,o0,cp,cur,by simp,by rw [hw]; exact h3,by simpa using h4,h5,h6,?_⟩⟩
   ·cases a <;> simp [Builtin.append_,run_underlying ht,sizeOf,typeInfo,hi,Builtin.lenOf,Builtin.firstCells,loadCells,loadCellsFrom,h4,storeCells]
   ·rw [List.append_nil]
    exact QDf hE l g o0 i.size (by rw [hw]) h7
 ·obtain ⟨ad,rfl,hcell⟩:=hsrc hy
  have hm0:0 < ys.length:=List.length_pos_iff.2 hy
  have hnl:news.length = ys.length * i.size:=hf.1
  -- the grown block
  have grown:∀ (olds:List Value),QLH c l olds i.size → ∀ (cp:Nat),cp < l.length + ys.length →
    ∀ c',QIx c c' → c'.w = c.w.drew.alloc (.cells (olds.toArray ++ news.toArray ++ Builtin.zeroCells z.cells (grownCap c.w (l.length + ys.length) cp e - (l.length + ys.length))) e) →
     QGx c' (.slice (some ⟨c.w.heap.size,0,none⟩) (l.length + ys.length) (grownCap c.w (l.length + ys.length) cp e)) e i.size (l ++ ys):=by
   intro olds ho cp hcp c' hE hw
   have hge:=grownCap_ge c.w (l.length + ys.length) cp e
   have hcm:=grownCap_le_maxLen c.w (l.length + ys.length) cp e hml
   refine .inr ⟨c.w.heap.size,0,_,_,by simp,by rw [hw]; exact QCT c.w.drew _,by simpa using hge,hcm,⟨?_,fun _=>rfl⟩,?_⟩
   ·simp only [Array.size_append,List.size_toArray,QE6,hzs,ho.1,hnl,← Nat.add_mul]
    rw [Nat.zero_add]
    exact Nat.mul_le_mul_right _ (by omega)
   ·refine QCH (QDp (QC5 hE ho) (QC5 hE hf)) fun j u hj=>?_
    have hh:c'.w.heap[c.w.heap.size]? = some (.cells (olds.toArray ++ news.toArray ++ Builtin.zeroCells z.cells (grownCap c.w (l.length + ys.length) cp e - (l.length + ys.length))) e (0,0)):=by rw [hw]; exact QCT c.w.drew _
    rw [Nat.zero_add,cell_of_row _ _ _ _ _ _ hh,← Array.getElem?_toList]
    simp only [Array.toList_append]
    rw [List.getElem?_append_left (by simpa using (List.getElem?_eq_some_iff.1 hj).1)]
    exact hj
  rcases hreg with ⟨rfl,rfl⟩ | ⟨g,o0,cp,cur,rfl,h3,h4,h5,h6,h7⟩
  ·have hr:=run_append_nil (P:=P) c.w t ty e i z ht hi hz ad ys.length cap news hnl hcell hm0 (by simp at hml'; omega) (by simp at hby; omega)
   refine ⟨_,_,hr,by simp,rfl,rfl,rfl,fun b hb _=>QDS c.w.drew _ b hb,fun b hb=>.inl (by simpa [blk] using hb.symm),fun h=>(hy h).elim,⟨_,_,by rw [List.length_nil,Nat.zero_add]⟩,fun c' hE hw=>?_⟩
   have:=grown [] (QCY c _) 0 (by simpa using hm0) c' hE (by simpa using hw)
   simpa using this
  ·obtain ⟨olds,h8,h9,h10⟩:=QCI h7
   by_cases hroom:l.length + ys.length ≤ cp
   ·have hle:(l.length + ys.length) * i.size ≤ cp * i.size:=Nat.mul_le_mul_right _ hroom
    rw [Nat.add_mul] at hle
    have hfitc:o0 + l.length * i.size + news.length ≤ cur.size:=by rw [hnl]; have:=h6.1; omega
    have hr:=QHp (P:=P) c.w t ty e i ht hi g o0 l.length cp cur h3 ad ys.length cap news hnl hcell h1 hroom hfitc
    refine ⟨_,_,hr,by simp,rfl,rfl,rfl,fun b hb hne=>setRow_other _ _ _ _ (fun h=>hne (by simp [blk,h])),fun b hb=>.inr hb,fun h=>(hy h).elim,⟨_,_,rfl⟩,fun c' hE hw=>?_⟩
    have hh:=setRow_heap c.w g cur (cur.toList.take (o0 + l.length * i.size) ++ news ++ cur.toList.drop (o0 + l.length * i.size + news.length)).toArray e (0,0) h3
    rw [← hw] at hh
    have hcs:cur.toList.length = cur.size:=rfl
    have hla:(cur.toList.take (o0 + l.length * i.size)).length = o0 + l.length * i.size:=by rw [List.length_take]; omega
    refine .inr ⟨g,o0,cp,_,by simp,hh,by simpa using hroom,h5,⟨?_,h6.2⟩,?_⟩
    ·simp only [List.size_toArray,List.length_append,List.length_drop,hla]; have:=h6.1; omega
    ·refine QCH (QDp (QC5 hE h8) (QC5 hE hf)) fun j u hj=>?_
     rw [cell_of_row _ _ _ _ _ _ hh]
     simp only [List.getElem?_toArray]
     by_cases hjl:j < olds.length
     ·rw [List.getElem?_append_left hjl] at hj
      have:=h10 j u hj
      rw [cell_of_row _ _ _ _ _ _ h3] at this
      have:=h8.1
      rw [List.append_assoc,List.getElem?_append_left (by omega),List.getElem?_take_of_lt (by omega)]
      simpa using ‹cur[o0 + j]? = some u›
     ·rw [List.getElem?_append_right (by omega),h8.1] at hj
      have hjn:=(List.getElem?_eq_some_iff.1 hj).1
      have:=h8.1
      rw [List.append_assoc,List.getElem?_append_right (by omega),hla,List.getElem?_append_left (by omega),show o0 + j - (o0 + l.length * i.size) = j - l.length * i.size by omega]
      exact hj
   ·have hg:Builtin.nextslicecap (l.length + ys.length) cp * i.bytes ≤ 281474976710656:=growslice_fits (by omega) hby
    have hr:=run_append_grow (P:=P) c.w t ty e i z ht hi hz ⟨g,o0,none⟩ l.length cp olds h8.1 (fun j u hj=>by rw [Addr.add_mid]; exact h10 j u hj) ad ys.length cap news hnl hcell (by omega) (by omega) hg
    exact ⟨_,_,hr,by simp,rfl,rfl,rfl,fun b hb _=>QDS c.w.drew _ b hb,fun b hb=>.inl (by simpa [blk] using hb.symm),fun h=>(hy h).elim,⟨_,_,rfl⟩,fun c' hE hw=>grown olds h8 cp (by omega) c' hE hw⟩

theorem QLJ {c:Cx} {l:List (List AV)} {b off sz:Nat} (i:Nat) (h:QAh c l b off sz):QAh c (l.drop i) b (off + i * sz) sz:=by
 rw [QA9] at h ⊢
 intro k r hr
 rw [List.getElem?_drop] at hr
 have:=h (i + k) r hr
 refine ⟨this.1,?_⟩
 rw [show off + i * sz + k * sz = off + (i + k) * sz by rw [Nat.add_mul]; omega]
 exact this.2
theorem QPm {c:Cx} (hr:Rel c) {ob nid lo n e sz:Nat} {l:List (List AV)} {v:Value} (ho:c.H[ob]? = some (.reg e sz l)) (hu:c.H[nid]? = some .unborn) (hv:Val c (.pre ob lo n l.length) v) (hs:lo + n = l.length) (hz:sz ≠ 1):
  Rel ⟨c.F,c.μ.set nid v,(c.H.set ob .dead).set nid (.reg e sz (l.drop lo)),c.w⟩ ∧ Ext c ⟨c.F,c.μ.set nid v,(c.H.set ob .dead).set nid (.reg e sz (l.drop lo)),c.w⟩ ∧
   QGx ⟨c.F,c.μ.set nid v,(c.H.set ob .dead).set nid (.reg e sz (l.drop lo)),c.w⟩ v e sz (l.drop lo) ∧ (∀ b,blk v = some b → QBi c ob b):=by
 have hol:ob < c.H.length:=(List.getElem?_eq_some_iff.1 ho).1
 have hnl:nid < c.H.length:=(List.getElem?_eq_some_iff.1 hu).1
 have hne:ob ≠ nid:=fun h=>by rw [h,hu] at ho; cases ho
 have hnm:nid < c.μ.length:=by rw [hr.len]; exact hnl
 have hget:∀ {p:Nat} {x:AObj},((c.H.set ob .dead).set nid (.reg e sz (l.drop lo)))[p]? = some x → (p = nid ∧ x = .reg e sz (l.drop lo)) ∨ (p ≠ nid ∧ p = ob ∧ x = .dead) ∨ (p ≠ nid ∧ p ≠ ob ∧ c.H[p]? = some x):=fun {p x} h=>by
  by_cases h1:nid = p
  ·subst h1
   rw [List.getElem?_set_self (by simpa using hnl)] at h
   exact .inl ⟨rfl,(Option.some.inj h).symm⟩
  ·rw [List.getElem?_set_ne h1] at h
   by_cases h2:ob = p
   ·subst h2
    rw [List.getElem?_set_self hol] at h
    exact .inr (.inl ⟨fun e=>h1 e.symm,rfl,(Option.some.inj h).symm⟩)
   ·rw [List.getElem?_set_ne h2] at h
    exact .inr (.inr ⟨fun e=>h1 e.symm,fun e=>h2 e.symm,h⟩)
 have hmu:∀ {p:Nat},p ≠ nid → (c.μ.set nid v)[p]? = c.μ[p]?:=fun {p} h=>List.getElem?_set_ne (fun e=>h e.symm)
 have hobj:∀ (o:Nat) (x:AObj),c.H[o]? = some x → ∃ y:AObj,((c.H.set ob .dead).set nid (.reg e sz (l.drop lo)))[o]? = some y ∧ OStep x y c.μ[o]? (c.μ.set nid v)[o]?:=fun o x hx=>by
  by_cases h1:nid = o
  ·subst h1
   rw [hu] at hx; cases hx
   exact ⟨_,List.getElem?_set_self (by simpa using hnl),trivial⟩
  ·by_cases h2:ob = o
   ·subst h2
    rw [ho] at hx; cases hx
    exact ⟨.dead,by rw [List.getElem?_set_ne h1,List.getElem?_set_self hol],trivial⟩
   ·exact ⟨x,by rw [List.getElem?_set_ne h1,List.getElem?_set_ne h2,hx],by rw [hmu (fun e=>h1 e.symm)]; exact OStep.refl _ _⟩
 have hE:Ext c ⟨c.F,c.μ.set nid v,(c.H.set ob .dead).set nid (.reg e sz (l.drop lo)),c.w⟩ ∨ True:=.inr trivial
 have hV:QIx c ⟨c.F,c.μ.set nid v,(c.H.set ob .dead).set nid (.reg e sz (l.drop lo)),c.w⟩:=⟨fun _ h=>h,fun _ _=>rfl,fun o x _ hx=>hobj o x hx⟩
 obtain ⟨v0,g1,g2⟩:=hr.obj _ _ ho
 simp only [Val] at hv
 obtain ⟨_,hv⟩:=hv
 have key:QGx c v e sz (l.drop lo) ∧ (∀ b,blk v = some b → QBi c ob b):=by
  rcases hv with ⟨e',sz',l',k1,_,k2⟩ | k1
  ·rw [ho] at k1; cases k1
   obtain ⟨_,k3⟩:=k2 rfl
   rcases k3 with ⟨g,len,cap,o0,cp,k4,rfl,k5,k6⟩ | ⟨rfl,k4⟩
   ·rw [k4] at g1; cases g1
    rcases g2 with ⟨g2,_⟩ | ⟨g',o1,cap',cur,g2,g3,g4,g5,g6,g7⟩
    ·cases g2
    ·cases g2
     refine ⟨.inr ⟨g,o0 + lo * sz,cp,cur,by rw [List.length_drop]; congr; omega,g3,by rw [List.length_drop]; omega,by omega,⟨?_,fun h=>(hz h).elim⟩,QLJ lo g7⟩,fun b hb=>⟨_,_,ho,rfl,k4,hb⟩⟩
     have:=g6.1
     rw [← k6,Nat.add_mul] at this
     omega
   ·have hd:l.drop lo = []:=List.drop_eq_nil_of_le (by omega)
    rw [hd]
    rcases k4 with rfl | ⟨g,len,cap,o0,d,k4,rfl,k5⟩
    ·exact ⟨.inl ⟨rfl,rfl⟩,fun b hb=>by cases hb⟩
    ·rw [k4] at g1; cases g1
     rcases g2 with ⟨g2,_⟩ | ⟨g',o1,cap',cur,g2,g3,g4,g5,g6,g7⟩
     ·cases g2
     ·cases g2
      exact ⟨.inr ⟨g,o0 + d * sz,0,cur,rfl,g3,Nat.le_refl _,Nat.zero_le _,⟨by have:=g6.1; have:=Nat.mul_le_mul_right sz k5; omega,fun h=>(hz h).elim⟩,trivial⟩,fun b hb=>⟨_,_,ho,rfl,k4,hb⟩⟩
  ·rw [ho] at k1; cases k1
 obtain ⟨key,hblk⟩:=key
 have key':QGx ⟨c.F,c.μ.set nid v,(c.H.set ob .dead).set nid (.reg e sz (l.drop lo)),c.w⟩ v e sz (l.drop lo):=by
  rcases key with k | ⟨g,o0,cap,cur,k1,k2,k3,k4,k5,k6⟩
  ·exact .inl k
  ·exact .inr ⟨g,o0,cap,cur,k1,k2,k3,k4,k5,QDf hV _ _ _ _ rfl k6⟩
 have hown:∀ {p b:Nat},QBi ⟨c.F,c.μ.set nid v,(c.H.set ob .dead).set nid (.reg e sz (l.drop lo)),c.w⟩ p b → (p = nid ∧ QBi c ob b) ∨ (p ≠ nid ∧ p ≠ ob ∧ QBi c p b):=fun {p b} ⟨x,u,h1,h2,h3,h4⟩=>by
  rcases hget h1 with ⟨rfl,rfl⟩ | ⟨h5,rfl,rfl⟩ | ⟨h5,h6,h7⟩
  ·have h3':(c.μ.set p v)[p]? = some u:=h3
   rw [List.getElem?_set_self hnm] at h3'
   cases h3'
   exact .inl ⟨rfl,hblk b h4⟩
  ·cases h2
  ·have h3':(c.μ.set nid v)[p]? = some u:=h3
   rw [hmu h5] at h3'
   exact .inr ⟨h5,h6,x,u,h7,h2,h3',h4⟩
 refine ⟨⟨by simp [hr.len],fun p x hx=>?_,fun p q b hp hq=>?_,fun p b hp=>?_,hr.lt,hr.gl,hr.gb,fun p b hp=>?_⟩,
  ⟨fun _ h=>h,fun _ h=>.inl h,fun _ _ _=>rfl,Nat.le_refl _,rfl,rfl,rfl,fun p b hp=>(hown hp).elim (fun h=>.inr ⟨ob,h.2⟩) (fun h=>.inr ⟨p,h.2.2⟩),hobj⟩,key',hblk⟩
 ·rcases hget hx with ⟨rfl,rfl⟩ | ⟨_,rfl,rfl⟩ | ⟨h1,h2,h3⟩
  ·exact ⟨v,List.getElem?_set_self hnm,key'⟩
  ·trivial
  ·exact QDn hV (hr.obj p x h3) h3 (hmu h1) fun _ _=>rfl
 ·rcases hown hp with ⟨rfl,h1⟩ | ⟨h0,h1,h2⟩ <;> rcases hown hq with ⟨rfl,h4⟩ | ⟨h3,h4,h5⟩
  ·rfl
  ·exact absurd (hr.inj _ _ _ h1 h5).symm h4
  ·exact absurd (hr.inj _ _ _ h2 h4) h1
  ·exact hr.inj _ _ _ h2 h5
 ·exact (hown hp).elim (fun h=>hr.free _ _ h.2) (fun h=>hr.free _ _ h.2.2)
 ·exact (hown hp).elim (fun h=>hr.go _ _ h.2) (fun h=>hr.go _ _ h.2.2)

theorem QOG {t e:TypeId} {x y:Operand} {i:TypeInfo} {z:Value} (hal:al = true) (ho:o.op = .call { callee:=.builtin .append,args:=#[x,y],argTypes:=#[t,t] }) (ht:P.underlying t = some (.slice e))
  (hi:P.info? e = some i) (hz:i.zero = some z) (hzs:z.cells.size = i.size) (hs:QEg e i.size i.bytes ((opd x).ev T) ((opd y).ev T) H nid K):Out P o T H nid al K:=by
 have hxy:∀ (c:Cx) (a:Act),(∀ x ∈ o.op.operands.toList,Val c ((opd x).ev T) (a.eval x)) → Val c ((opd x).ev T) (a.eval x) ∧ Val c ((opd y).ev T) (a.eval y):=
  fun c a hv=>⟨hv x (by simp [ho,Op.operands,Call.operands]),hv y (by simp [ho,Op.operands,Call.operands])⟩
 have hrun:∀ (a:Act) (w w':World) (u v v':Value),a.eval x = u → a.eval y = v → (Builtin.append_ #[t,t] o.type #[u,v]).run P w = .ok v' w' → (execOp a.eval o).run P w = .ok (.value v') w':=fun a w w' u v v' h1 h2 h=>by
  subst h1 h2
  simp [execOp,ho,resolve,invoke,builtin,h]
 obtain ⟨pre,ys,⟨hsz,hK⟩,hsr,hpre⟩:=QRW hs
 split at hK
 ·rename_i hx
  obtain ⟨hfit,hK⟩:=hK
  refine ⟨_,_,_,hK,?_,by simp,.inr ⟨hal,[],_,rfl,by simp⟩,fun c a hr hv hp=>?_⟩
  ·intro p hp
   rcases List.mem_cons.1 hp with rfl | hp
   ·exact .inr rfl
   ·exact .inl (hpre p hp)
  have hu:c.H[nid]? = some .unborn:=hp (nid,.unborn) (by simp)
  have hlt:nid < c.H.length:=(List.getElem?_eq_some_iff.1 hu).1
  obtain ⟨h1,h2⟩:=hxy c a hv
  rw [hx] at h1; simp only [Val] at h1
  obtain ⟨ad,cap,news,h3,h4,h5,h6⟩:=QKA hr h2 hsr (fun p hp'=>hp p (by simp [hp'])) hsz
  obtain ⟨v',w',r1,r2,r3,r4,r5,r6,r7,r8,r9,r10⟩:=QGy (P:=P) (c:=c) o.type ht hi hz hzs (v:=.slice none 0 0) (l:=[]) (.inl ⟨rfl,rfl⟩) h4 h5 h6 (a:=ad) (cap:=cap) (by simpa using hfit)
  have hN:=QC3 hr (o:=nid) (x':=.reg e i.size ys) (v':=v') (F':=c.F) (w':=w') hu (by simp [OStep]) (fun _ h=>h) (fun _ h=>.inl h) (fun b hb _=>r6 b hb (by simp [blk])) r2 r3 r4 r5
   (fun b _ hb=>.inl ((r7 b hb).elim (fun h=>by omega) (fun h=>by simp [blk] at h))) (fun hE=>⟨v',by simp [hr.len,hlt],by have:=r10 _ (hE.vext hr) rfl; simpa [QGx] using this⟩)
  refine ⟨v',_,hN.1,hN.2,rfl,?_,.value (hrun a c.w w' _ _ v' h1 h3 r1)⟩
  simp only [Val]
  obtain ⟨k,cp,r9⟩:=r9
  exact ⟨⟨k,_,cp,r9⟩,.inl ⟨e,i.size,ys,set_getElem?_self hu,Nat.le_refl _,fun _=>by simp [hr.len,hlt]⟩⟩
 ·rename_i ob n hx
  split at hK
  ·rename_i e' sz' l hH
   obtain ⟨hn,rfl,rfl,hfit,hK⟩:=hK
   refine ⟨_,_,_,hK,?_,by simp,?_,fun c a hr hv hp=>?_⟩
   ·intro p hp
    rcases List.mem_cons.1 hp with rfl | hp
    ·exact .inl hH
    ·exact .inl (hpre p hp)
   ·refine .inl fun p hp=>?_
    rcases List.mem_cons.1 hp with rfl | hp
    ·exact hH
    ·exact hpre p hp
   have hu:c.H[ob]? = some (.reg e' i.size l):=hp (ob,.reg e' i.size l) (by simp)
   have hlt:ob < c.H.length:=(List.getElem?_eq_some_iff.1 hu).1
   obtain ⟨h1,h2⟩:=hxy c a hv
   rw [hx] at h1
   obtain ⟨ad,cap,news,h3,h4,h5,h6⟩:=QKA hr h2 hsr (fun p hp'=>hp p (by simp [hp'])) hsz
   obtain ⟨g1,g2⟩:=QFm hr h1 hu hn
   obtain ⟨v',w',r1,r2,r3,r4,r5,r6,r7,r8,r9,r10⟩:=QGy (P:=P) (c:=c) o.type ht hi hz hzs (v:=a.eval x) (l:=l) g2 h4 h5 h6 (a:=ad) (cap:=cap) hfit
   have hN:=QC3 hr (o:=ob) (x':=.reg e' i.size (l ++ ys)) (v':=v') (F':=c.F) (w':=w') hu (by
     simp only [OStep,List.length_append]
     refine ⟨trivial,trivial,by omega,fun hl=>?_⟩
     have:ys = []:=List.eq_nil_of_length_eq_zero (by omega)
     rw [r8 this,g1]) (fun _ h=>h) (fun _ h=>.inl h)
    (fun b hb hnb=>r6 b hb (fun h=>hnb ⟨_,_,hu,rfl,g1,h⟩)) r2 r3 r4 r5
    (fun b _ hb=>(r7 b hb).elim (fun h=>.inl (by omega)) (fun h=>.inr ⟨_,_,hu,rfl,g1,h⟩)) (fun hE=>⟨v',by simp [hr.len,hlt],by have:=r10 _ (hE.vext hr) rfl; simpa [QGx] using this⟩)
   refine ⟨v',_,hN.1,hN.2,rfl,?_,.value (hrun a c.w w' _ _ v' rfl h3 r1)⟩
   simp only [Val]
   obtain ⟨k,cp,r9⟩:=r9
   exact ⟨⟨k,_,cp,r9⟩,.inl ⟨e',i.size,l ++ ys,set_getElem?_self hu,by simp,fun _=>by simp [hr.len,hlt]⟩⟩
  ·exact hK.elim
 ·rename_i ob lo n m hx
  split at hK
  ·rename_i e' sz' l hH
   obtain ⟨hn,hlo,rfl,rfl,hz1,hfit,hK⟩:=hK
   refine ⟨_,_,_,hK,?_,by simp,.inr ⟨hal,[(ob,.dead)],_,rfl,fun p hp=>?_⟩,fun c a hr hv hp=>?_⟩
   ·intro p hp
    rcases List.mem_cons.1 hp with rfl | hp
    ·exact .inl hH
    ·rcases List.mem_cons.1 hp with rfl | hp
     ·exact .inr rfl
     ·exact .inl (hpre p hp)
   ·obtain rfl:=List.mem_singleton.1 hp
    exact (List.getElem?_eq_some_iff.1 hH).1
   have hu:c.H[ob]? = some (.reg e' i.size l):=hp (ob,.reg e' i.size l) (by simp)
   have hnu:c.H[nid]? = some .unborn:=hp (nid,.unborn) (by simp)
   obtain ⟨h1,h2⟩:=hxy c a hv
   rw [hx] at h1
   obtain ⟨ad,cap,news,h3,h4,h5,h6⟩:=QKA hr h2 hsr (fun p hp'=>hp p (by simp [hp'])) hsz
   subst hn
   obtain ⟨s1,s2,s3,s4⟩:=QPm hr hu hnu h1 hlo hz1
   have hdl:(l.drop lo).length = n:=by rw [List.length_drop]; omega
   have hV:=s2.vext hr
   have h4':=QC5 hV h4
   have hne:ob ≠ nid:=fun h=>by rw [h,hnu] at hu; cases hu
   have hnl:nid < c.H.length:=(List.getElem?_eq_some_iff.1 hnu).1
   obtain ⟨v',w',r1,r2,r3,r4,r5,r6,r7,r8,r9,r10⟩:=QGy (P:=P) (c:=⟨c.F,c.μ.set nid (a.eval x),(c.H.set ob .dead).set nid (.reg e' i.size (l.drop lo)),c.w⟩) o.type ht hi hz hzs (v:=a.eval x) (l:=l.drop lo) s3 h4' h5 h6 (a:=ad) (cap:=cap) (by rw [hdl]; exact hfit)
   have hnH:((c.H.set ob .dead).set nid (.reg e' i.size (l.drop lo)))[nid]? = some (.reg e' i.size (l.drop lo)):=List.getElem?_set_self (by simpa using hnl)
   have hnM:(c.μ.set nid (a.eval x))[nid]? = some (a.eval x):=List.getElem?_set_self (by rw [hr.len]; exact hnl)
   have hN:=QC3 s1 (o:=nid) (x':=.reg e' i.size (l.drop lo ++ ys)) (v':=v') (F':=c.F) (w':=w') hnH (by
     simp only [OStep,List.length_append]
     refine ⟨trivial,trivial,by omega,fun hl=>?_⟩
     have:ys = []:=List.eq_nil_of_length_eq_zero (by omega)
     rw [r8 this,hnM]) (fun _ h=>h) (fun _ h=>.inl h)
    (fun b hb hnb=>r6 b hb (fun h=>hnb ⟨_,_,hnH,rfl,hnM,h⟩)) r2 r3 r4 r5
    (fun b _ hb=>(r7 b hb).elim (fun h=>.inl (by rw [h]; exact Nat.le_refl _)) (fun h=>.inr ⟨_,_,hnH,rfl,hnM,h⟩)) (fun hE=>⟨v',List.getElem?_set_self (by simpa [hr.len] using hnl),by have:=r10 _ (hE.vext s1) rfl; simpa [QGx] using this⟩)
   refine ⟨v',_,hN.1,s2.trans hN.2,by simp [QGC],?_,.value (hrun a c.w w' _ _ v' rfl h3 r1)⟩
   simp only [Val]
   obtain ⟨k,cp,r9⟩:=r9
   refine ⟨⟨k,_,cp,r9⟩,.inl ⟨e',i.size,l.drop lo ++ ys,List.getElem?_set_self (by simpa using hnl),by rw [List.length_append,hdl]; exact Nat.le_refl _,fun _=>List.getElem?_set_self (by simpa [hr.len] using hnl)⟩⟩
  ·exact hK.elim
 ·exact hK.elim

end ops
end Go.Ab
