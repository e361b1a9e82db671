/- Regions that draw their order: any order comes to what the order of the text comes to, where what touches the same place is ordered. -/
import Derived.Test.YtneghlianebffaaGreatDoorA3
namespace Go.Ab
open Go
set_option linter.unusedSectionVars false
variable [Glob]

/-! ### The masks of 'before' -/
theorem testBit_fold {after : List Edge} {acc : Array Nat} : ∀ (s : Nat) (i : Nat), (after.foldl (fun s e => if Region.binds .any e then s ||| 2 ^ e.on ||| acc.getD e.on 0 else s) s).testBit i = true →
    s.testBit i = true ∨ ∃ e ∈ after, Region.binds .any e = true ∧ (e.on = i ∨ (acc.getD e.on 0).testBit i = true) := by
  induction after with
  | nil => intro s i h; exact .inl h
  | cons e r ih =>
    intro s i h
    rw [List.foldl_cons] at h
    rcases ih _ i h with h1 | ⟨e', he, h1⟩
    · split at h1
      · rename_i hb
        rw [Nat.testBit_or, Nat.testBit_or, Bool.or_eq_true, Bool.or_eq_true, Nat.testBit_two_pow] at h1
        rcases h1 with (h1 | h1) | h1
        · exact .inl h1
        · exact .inr ⟨e, by simp, hb, .inl (by simpa using h1)⟩
        · exact .inr ⟨e, by simp, hb, .inr h1⟩
      · exact .inl h1
    · exact .inr ⟨e', by simp [he], h1⟩

def BeforeOk (l : List Oper) (acc : Array Nat) : Prop :=
  acc.size = l.length ∧ ∀ (j : Nat) (o : Oper) (i : Nat), l[j]? = some o → (acc.getD j 0).testBit i = true → ∃ e ∈ o.after, Region.binds .any e = true ∧ (e.on = i ∨ (acc.getD e.on 0).testBit i = true)

theorem before_ok (ops : Array Oper) : BeforeOk ops.toList (Region.before ops) := by
  have key : ∀ (r l : List Oper) (acc : Array Nat), BeforeOk l acc → BeforeOk (l ++ r) (r.foldl (fun acc o => acc.push (o.after.foldl (fun s e => if Region.binds .any e then s ||| 2 ^ e.on ||| acc.getD e.on 0 else s) 0)) acc) := by
    intro r
    induction r with
    | nil => intro l acc h; simpa using h
    | cons o r ih =>
      intro l acc h
      rw [List.foldl_cons, show l ++ o :: r = (l ++ [o]) ++ r from by simp]
      refine ih (l ++ [o]) _ ⟨by simp [h.1], fun j o' i hj hb => ?_⟩
      have mono : ∀ {k i : Nat} {m : Nat}, (acc.getD k 0).testBit i = true → ((acc.push m).getD k 0).testBit i = true := fun {k i m} h0 => by
        by_cases hk : k < acc.size
        · rw [Array.getD_eq_getD_getElem?, Array.getElem?_push_lt hk]
          simpa [Array.getD_eq_getD_getElem?, hk] using h0
        · rw [Array.getD_eq_getD_getElem?, Array.getElem?_eq_none (by omega)] at h0
          simp at h0
      by_cases hjl : j < l.length
      · rw [List.getElem?_append_left hjl] at hj
        have hb' : (acc.getD j 0).testBit i = true := by
          rw [Array.getD_eq_getD_getElem?, Array.getElem?_push_lt (by rw [h.1]; exact hjl)] at hb
          simpa [Array.getD_eq_getD_getElem?, h.1, hjl] using hb
        obtain ⟨e, he, h1, h2⟩ := h.2 j o' i hj hb'
        exact ⟨e, he, h1, h2.imp id mono⟩
      · rw [List.getElem?_append_right (by omega)] at hj
        have hj0 : j = l.length := by
          rcases Nat.eq_zero_or_pos (j - l.length) with h0 | h0
          · omega
          · rw [List.getElem?_eq_none (by simp; omega)] at hj; cases hj
        subst hj0
        simp at hj
        subst hj
        have hm : (acc.push (o.after.foldl (fun s e => if Region.binds .any e then s ||| 2 ^ e.on ||| acc.getD e.on 0 else s) 0)).getD l.length 0 = o.after.foldl (fun s e => if Region.binds .any e then s ||| 2 ^ e.on ||| acc.getD e.on 0 else s) 0 := by
          rw [Array.getD_eq_getD_getElem?, ← h.1]; simp
        rw [hm, ← Array.foldl_toList] at hb
        rcases testBit_fold 0 i hb with h1 | ⟨e, he, h1, h2⟩
        · simp at h1
        · exact ⟨e, by simpa using he, h1, h2.imp id mono⟩
  have := key ops.toList [] #[] ⟨rfl, by simp⟩
  rw [List.nil_append, Array.foldl_toList] at this
  exact this

def Shut (ops : Array Oper) (listed : Array Bool) : Prop := ∀ (j i : Nat), listed.getD j false = true → ((Region.before ops).getD j 0).testBit i = true → listed.getD i false = true

theorem shut_ready {ops : Array Oper} {listed : Array Bool} (h : Shut ops listed) {j : Nat} (hj : j ∈ Region.ready .any ops listed) {i : Nat} (hb : ((Region.before ops).getD j 0).testBit i = true) : listed.getD i false = true := by
  rw [mem_ready] at hj
  obtain ⟨_, o, ho, hall⟩ := hj
  obtain ⟨e, he, h1, h2⟩ := (before_ok ops).2 j o i (by simpa using ho) hb
  have hon := hall e he h1
  rcases h2 with rfl | h2
  · exact hon
  · exact h _ _ hon h2

theorem shut_set {ops : Array Oper} {listed : Array Bool} (h : Shut ops listed) {j : Nat} (hj : j ∈ Region.ready .any ops listed) : Shut ops (listed.setIfInBounds j true) := by
  intro k i hk hb
  by_cases hkj : j = k
  · subst hkj; exact getD_set_true (shut_ready h hj hb)
  · rw [getD_set_ne false hkj] at hk
    exact getD_set_true (h k i hk hb)

/-! ### Effects, in the text's order, of some of the operations -/
def updL {α : Type} (l : List α) : List (Nat × α) → List α
  | [] => l
  | p :: r => updL (l.set p.1 p.2) r

theorem updH_eq (l : List AObj) : ∀ r : List (Nat × AObj), updH l r = updL l r
  | [] => rfl
  | p :: r => by rw [updH, updL, updH_eq]

@[simp] theorem length_updL {α : Type} : ∀ (r : List (Nat × α)) (l : List α), (updL l r).length = l.length
  | [], _ => rfl
  | p :: r, l => by simp [updL, length_updL r]

theorem updL_other {α : Type} : ∀ (r : List (Nat × α)) (l : List α) (t : Nat), t ∉ r.map (·.1) → (updL l r)[t]? = l[t]?
  | [], _, _, _ => rfl
  | p :: r, l, t, h => by
    simp only [List.map_cons, List.mem_cons, not_or] at h
    rw [updL, updL_other r _ t h.2, List.getElem?_set_ne (fun e => h.1 e.symm)]

theorem updL_same {α : Type} : ∀ (r : List (Nat × α)) (l l' : List α) (t : Nat), t ∈ r.map (·.1) → l.length = l'.length → (updL l r)[t]? = (updL l' r)[t]?
  | [], _, _, _, h, _ => by simp at h
  | p :: r, l, l', t, h, hl => by
    rw [updL, updL]
    by_cases ht : t ∈ r.map (·.1)
    · exact updL_same r _ _ t ht (by simp [hl])
    · have hp : t = p.1 := by simp only [List.map_cons, List.mem_cons] at h; exact h.resolve_right ht
      rw [updL_other r _ t ht, updL_other r _ t ht, hp]
      by_cases hlt : p.1 < l.length
      · rw [List.getElem?_set_self hlt, List.getElem?_set_self (by omega)]
      · rw [List.getElem?_eq_none (by simp; omega), List.getElem?_eq_none (by simp; omega)]

def runE {α : Type} (L : Nat → Bool) : Nat → List (List (Nat × α)) → List α → List α
  | _, [], x => x
  | k, e :: r, x => runE L (k + 1) r (if L k then updL x e else x)

@[simp] theorem length_runE {α : Type} (L : Nat → Bool) : ∀ (es : List (List (Nat × α))) (k : Nat) (x : List α), (runE L k es x).length = x.length
  | [], _, _ => rfl
  | e :: r, k, x => by rw [runE, length_runE L r]; split <;> simp

theorem runE_agree {α : Type} {L L' : Nat → Bool} : ∀ (es : List (List (Nat × α))) (k : Nat) (x x' : List α) (t : Nat), x.length = x'.length → x[t]? = x'[t]? →
    (∀ (i : Nat) (e : List (Nat × α)), es[i]? = some e → t ∈ e.map (·.1) → L (k + i) = L' (k + i)) → (runE L k es x)[t]? = (runE L' k es x')[t]?
  | [], _, _, _, _, _, h, _ => h
  | e :: r, k, x, x', t, hl, h, hag => by
    rw [runE, runE]
    refine runE_agree r (k + 1) _ _ t ?_ ?_ fun i e' hi ht => by
      have := hag (i + 1) e' (by simpa using hi) ht
      rwa [show k + 1 + i = k + (i + 1) from by omega]
    · split <;> split <;> simp [hl]
    · by_cases ht : t ∈ e.map (·.1)
      · have h0 := hag 0 e rfl ht
        simp only [Nat.add_zero] at h0
        rw [h0]
        split
        · exact updL_same e x x' t ht hl
        · exact h
      · split <;> split <;> simp only [updL_other e _ t ht, h]

theorem runE_last {α : Type} {L : Nat → Bool} : ∀ (es : List (List (Nat × α))) (k : Nat) (x y : List α) (j : Nat) (e : List (Nat × α)) (t : Nat), x.length = y.length → es[j]? = some e → t ∈ e.map (·.1) → L (k + j) = true →
    (∀ (i : Nat) (e' : List (Nat × α)), j < i → es[i]? = some e' → t ∈ e'.map (·.1) → L (k + i) = false) → (runE L k es x)[t]? = (updL y e)[t]?
  | [], _, _, _, _, _, _, _, h, _, _, _ => by simp at h
  | e0 :: r, k, x, y, 0, e, t, hl, hj, ht, hL, hlt => by
    simp at hj
    subst hj
    rw [runE]
    simp only [Nat.add_zero] at hL
    rw [hL, if_pos rfl]
    have : (runE L (k + 1) r (updL x e0))[t]? = (runE (fun _ => false) (k + 1) r (updL x e0))[t]? := runE_agree r (k + 1) _ _ t rfl rfl fun i e' hi ht' => by
      have := hlt (i + 1) e' (by omega) (by simpa using hi) ht'
      rwa [show k + 1 + i = k + (i + 1) from by omega]
    rw [this]
    have hf : ∀ (es : List (List (Nat × α))) (k : Nat) (x : List α), runE (fun _ => false) k es x = x := by
      intro es
      induction es with
      | nil => intro k x; rfl
      | cons e es ih => intro k x; rw [runE, if_neg (by simp), ih]
    rw [hf]
    exact updL_same e0 x y t ht hl
  | e0 :: r, k, x, y, j + 1, e, t, hl, hj, ht, hL, hlt => by
    rw [runE]
    refine runE_last r (k + 1) _ y j e t ?_ (by simpa using hj) ht (by rwa [show k + 1 + j = k + (j + 1) from by omega]) fun i e' hi he ht' => ?_
    · split <;> simp [hl]
    · have := hlt (i + 1) e' (by omega) (by simpa using he) ht'
      rwa [show k + 1 + i = k + (i + 1) from by omega]

theorem runE_add {α : Type} {L L' : Nat → Bool} {es : List (List (Nat × α))} {x : List α} {j : Nat} {e : List (Nat × α)} (hj : es[j]? = some e) (hL' : L' j = true) (hsame : ∀ i, i ≠ j → L' i = L i)
    (hlater : ∀ (i : Nat) (e' : List (Nat × α)) (t : Nat), j < i → es[i]? = some e' → t ∈ e'.map (·.1) → t ∈ e.map (·.1) → L i = false) : runE L' 0 es x = updL (runE L 0 es x) e := by
  apply List.ext_getElem?
  intro t
  by_cases ht : t ∈ e.map (·.1)
  · exact runE_last es 0 x (runE L 0 es x) j e t (by simp) hj ht (by simpa using hL') fun i e' hi he ht' => by
      rw [Nat.zero_add, hsame i (by omega)]; exact hlater i e' t hi he ht' ht
  · rw [updL_other e _ t ht]
    refine runE_agree es 0 x x t rfl rfl fun i e' hi ht' => ?_
    rw [Nat.zero_add]
    by_cases hij : i = j
    · subst hij; rw [hj] at hi; cases hi; exact (ht ht').elim
    · exact hsame i hij

end Go.Ab
namespace Go.Ab
open Go
set_option linter.unusedSectionVars false
variable [Glob]

structure Eff where
  ran : Bool
  val : AV
  pre : List (Nat × AObj)
  wr : List (Nat × AObj)

def Eff.fp (e : Eff) : List Nat × List Nat := (e.pre.map (·.1), e.wr.map (·.1))

def callD (P : Program) (fv : AV) (args : List AV) (H : List AObj) (K : SK) : Prop :=
  match fv with
  | .fn (.func f) first caps => ∃ pre wr v, (∀ p ∈ pre, H[p.1]? = some p.2) ∧ (∀ p ∈ wr, p.1 ∈ pre.map (·.1)) ∧
      (∀ H2, (∀ p ∈ pre, H2[p.1]? = some p.2) → ACalls P f (first ++ args ++ caps) H2 v (updH H2 wr)) ∧ K pre wr v
  | _ => False

def execD (P : Program) (op : AOp) (T : List AV) (H : List AObj) (nid : Nat) (K : SK) : Prop :=
  match op with
  | .call f args => callD P (f.ev T) (args.map fun x => x.ev T) H K
  | op => (if op.allocs then H[nid]? = some .unborn else True) ∧ astep op T H nid K

def awpD (P : Program) (K : List (List Nat × List Nat) → St → Prop) : List AOper → Nat → List (List Nat × List Nat) → St → Prop
  | [], _, acc, σ => K acc σ
  | o :: r, nid, acc, σ => guardK o.guard σ.T
      (execD P o.op σ.T σ.H nid fun pre wr v => awpD P K r (if o.op.allocs then nid + 1 else nid) (acc ++ [(pre.map (·.1), wr.map (·.1))]) ⟨putT σ.T o.dst v, updH σ.H wr⟩)
      (awpD P K r (if o.op.allocs then nid + 1 else nid) (acc ++ [([], [])]) ⟨putT σ.T o.dst (.tup []), σ.H⟩)

def clash (p q : List Nat × List Nat) : Bool := p.2.any q.1.contains || p.1.any q.2.contains

def objOrd (bs : List Nat) (fps : List (List Nat × List Nat)) : Bool :=
  fps.zipIdx.all fun q => fps.zipIdx.all fun p => !(decide (p.2 < q.2)) || !(clash p.1 q.1) || (bs.getD q.2 0).testBit p.2

def allocN : List AOper → Nat
  | [] => 0
  | o :: r => (if o.op.allocs then 1 else 0) + allocN r

def drawK (P : Program) (l : List AOper) (bs : List Nat) (Q : St → Prop) (σ : St) : Prop :=
  awpD P (fun fps s => objOrd bs fps = true ∧ Q s) l σ.H.length [] ⟨σ.T, σ.H ++ List.replicate (allocN l) .unborn⟩

def CStep (P : Program) (o : Oper) (T : List AV) (pre wr : List (Nat × AObj)) (val : AV) : Prop :=
  ∀ (c : Cx) (a : Act), Rel c → (∀ x ∈ o.op.operands.toList, Val c ((opd x).ev T) (a.eval x)) → (∀ p ∈ pre, c.H[p.1]? = some p.2) → ∀ (next : Act → World → Prop) (Q : Exit → Act → World → Prop),
    (∀ v c', Rel c' → Ext c c' → c'.H = updH c.H wr → Val c' val v → next (a.put o.dst v) c'.w) → o.wp P a c.w next Q

def gslot (ops : Array Oper) (o : Oper) : Option Nat := match o.guard with | some (j, _) => (ops[j]?).bind (·.dst) | none => none

def WantedIs (ops : Array Oper) (o : Oper) (T : List AV) (b : Bool) : Prop :=
  ∀ (c : Cx) (a : Act), T.length = a.tmps.size → (∀ d, gslot ops o = some d → Val c ((T[d]?).getD .junk) (a.tmps.getD d undef)) → Region.wanted o (yielded ops a.tmps) = b

inductive TRun (P : Program) (ops : Array Oper) : List Oper → St → List Eff → St → Prop
  | nil (σ : St) : TRun P ops [] σ [] σ
  | run (o : Oper) (r : List Oper) (σ : St) (pre wr : List (Nat × AObj)) (val : AV) (effs : List Eff) (σ' : St) : WantedIs ops o σ.T true → CStep P o σ.T pre wr val → (∀ p ∈ pre, σ.H[p.1]? = some p.2) → (∀ p ∈ wr, p.1 ∈ pre.map (·.1)) →
      TRun P ops r ⟨putT σ.T o.dst val, updH σ.H wr⟩ effs σ' → TRun P ops (o :: r) σ (⟨true, val, pre, wr⟩ :: effs) σ'
  | skip (o : Oper) (r : List Oper) (σ : St) (effs : List Eff) (σ' : St) : WantedIs ops o σ.T false → TRun P ops r ⟨putT σ.T o.dst (.tup []), σ.H⟩ effs σ' → TRun P ops (o :: r) σ (⟨false, .tup [], [], []⟩ :: effs) σ'

theorem LStep.cstep {P : Program} {o : Oper} {T : List AV} {pre wr : List (Nat × AObj)} {val : AV} (h : LStep P o T pre wr val) : CStep P o T pre wr val := fun c a hr ho hp next Q hn =>
  let ⟨v, c', h1, h2, h3, h4, h5⟩ := h c a hr ho hp
  h5 next Q (hn v c' h1 h2 h3 h4)

theorem call_cstep {P : Program} {o : Oper} {T : List AV} {H : List AObj} {fo : Operand} {args : Array Operand} {ts : Array TypeId} {K : SK}
    (ho : o.op = .call ⟨.value fo, args, ts⟩) (h : callD P ((opd fo).ev T) (args.toList.map fun x => (opd x).ev T) H K) :
    ∃ pre wr val, K pre wr val ∧ (∀ p ∈ pre, H[p.1]? = some p.2) ∧ (∀ p ∈ wr, p.1 ∈ pre.map (·.1)) ∧ CStep P o T pre wr val := by
  unfold callD at h
  split at h
  · rename_i f first caps hf
    obtain ⟨pre, wr, val, h1, h2, h3, hK⟩ := h
    refine ⟨pre, wr, val, hK, h1, h2, fun c a hr hop hp next Q hn => ?_⟩
    have hmem : ∀ x ∈ args.toList, x ∈ o.op.operands.toList := fun x hx => by simp [ho, Op.operands, Call.operands]; exact .inr (by simpa using hx)
    have h4 := hop fo (by simp [ho, Op.operands, Call.operands])
    rw [hf] at h4
    simp only [Val] at h4
    obtain ⟨vf, vc, h5, h6, h7⟩ := h4
    have h8 : ∀ l : List Operand, (∀ x ∈ l, x ∈ args.toList) → Vals c (l.map fun x => (opd x).ev T) (l.map a.eval) := by
      intro l
      induction l with
      | nil => intro _; simp [Vals]
      | cons x l ih => intro hl; simp only [List.map_cons, Vals]; exact ⟨_, _, rfl, hop x (hmem x (hl x (by simp))), ih fun y hy => hl y (by simp [hy])⟩
    have happ : ∀ (l r : List AV) (vs ws : List Value), Vals c l vs → Vals c r ws → Vals c (l ++ r) (vs ++ ws) := by
      intro l
      induction l with
      | nil => intro r vs ws h1 h2; simp only [Vals] at h1; subst h1; exact h2
      | cons x l ih =>
        intro r vs ws h1 h2
        simp only [Vals] at h1
        obtain ⟨v, vs', rfl, h6, h7⟩ := h1
        simp only [List.cons_append, Vals]
        exact ⟨_, _, rfl, h6, ih r vs' ws h7 h2⟩
    obtain ⟨hb, hC⟩ := h3 c.H hp
    have hcall := hC c _ rfl hr (happ _ _ _ _ (happ _ _ _ _ h6 (h8 args.toList fun _ h => h)) h7)
    unfold Oper.wp
    have hrun : (execOp a.eval o).run P c.w = .ok (.enter f (vf.toList ++ args.toList.map a.eval ++ vc.toList).toArray) c.w := by
      have e : (vf.toList ++ args.toList.map a.eval ++ vc.toList).toArray = vf ++ args.map a.eval ++ vc := by
        apply Array.ext'
        simp
      rw [e]
      simp only [execOp, ho, resolve, Sem.run_bind, h5, Deferred.ofValue, Sem.run_pure, Result.andThen_ok, invoke, run_callFunc hb]
    rw [hrun]
    refine hcall.mono fun e w' hq => ?_
    obtain ⟨v, c', rfl, rfl, k6, k7, k8, k9⟩ := hq
    exact hn v c' k7 k8 k6 k9
  · exact h.elim

theorem trun_of {P : Program} {own : List Nat} {ops : Array Oper} {K : List (List Nat × List Nat) → St → Prop} : ∀ (l : List Oper) (al : List AOper) (nid : Nat) (acc : List (List Nat × List Nat)) (σ : St), compileOps P own ops l = some al →
    awpD P K al nid acc σ → ∃ effs σ', TRun P ops l σ effs σ' ∧ K (acc ++ effs.map Eff.fp) σ'
  | [], al, nid, acc, σ, hc, h => by
    simp [compileOps] at hc
    subst hc
    exact ⟨[], σ, .nil σ, by simpa [awpD] using h⟩
  | o :: r, al, nid, acc, σ, hc, h => by
    unfold compileOps at hc
    split at hc
    · rename_i op g hop hg
      cases hr' : compileOps P own ops r with
      | none => simp [hr'] at hc
      | some l =>
        simp [hr'] at hc
        subst hc
        simp only [awpD] at h
        have runs : execD P op σ.T σ.H nid (fun pre wr v => awpD P K l (if op.allocs then nid + 1 else nid) (acc ++ [(pre.map (·.1), wr.map (·.1))]) ⟨putT σ.T o.dst v, updH σ.H wr⟩) → WantedIs ops o σ.T true →
            ∃ effs σ', TRun P ops (o :: r) σ effs σ' ∧ K (acc ++ effs.map Eff.fp) σ' := by
          intro he hw
          have fin : ∀ pre wr val, awpD P K l (if op.allocs then nid + 1 else nid) (acc ++ [(pre.map (·.1), wr.map (·.1))]) ⟨putT σ.T o.dst val, updH σ.H wr⟩ → CStep P o σ.T pre wr val → (∀ p ∈ pre, σ.H[p.1]? = some p.2) → (∀ p ∈ wr, p.1 ∈ pre.map (·.1)) →
              ∃ effs σ', TRun P ops (o :: r) σ effs σ' ∧ K (acc ++ effs.map Eff.fp) σ' := fun pre wr val hk hS hp hwr => by
            obtain ⟨effs, σ', h1, h2⟩ := trun_of r l _ _ _ hr' hk
            exact ⟨_, σ', .run o r σ pre wr val effs σ' hw hS hp hwr h1, by simpa [Eff.fp] using h2⟩
          unfold execD at he
          split at he
          · obtain ⟨fo, as, ts, h1, rfl, rfl⟩ := compile_call hop
            obtain ⟨pre, wr, val, hk, hp, hwr, hS⟩ := call_cstep h1 (by simpa [List.map_map, Function.comp_def] using he)
            exact fin pre wr val hk hS hp hwr
          · obtain ⟨hal, he⟩ := he
            obtain ⟨pre, wr, val, hk, hp, hwr, hc', hL⟩ := op_sound hop he
            have hp' : ∀ p ∈ pre, σ.H[p.1]? = some p.2 := by
              rcases hc' with h | ⟨ha, _⟩
              · exact h
              · intro p hpm
                rw [if_pos ha] at hal
                rcases hp p hpm with h | rfl
                · exact h
                · exact hal
            exact fin pre wr val hk hL.cstep hp' hwr
        have skips : awpD P K l (if op.allocs then nid + 1 else nid) (acc ++ [([], [])]) ⟨putT σ.T o.dst (.tup []), σ.H⟩ → WantedIs ops o σ.T false → ∃ effs σ', TRun P ops (o :: r) σ effs σ' ∧ K (acc ++ effs.map Eff.fp) σ' := by
          intro hk hw
          obtain ⟨effs, σ', h1, h2⟩ := trun_of r l _ _ _ hr' hk
          exact ⟨_, σ', .skip o r σ effs σ' hw h1, by simpa [Eff.fp] using h2⟩
        cases hgd : o.guard with
        | none =>
          simp only [hgd, compileGuard, Option.some.injEq] at hg
          subst hg
          simp only [guardK] at h
          exact runs h fun c a _ _ => wanted_none hgd _
        | some gd =>
          obtain ⟨j, want⟩ := gd
          simp only [hgd, compileGuard] at hg
          split at hg
          · rename_i d hd
            simp only [Option.some.injEq] at hg
            subst hg
            have hs : gslot ops o = some d := by simp only [gslot, hgd]; exact hd
            have hw : ∀ (a : Act), Region.wanted o (yielded ops a.tmps) = (yielded ops a.tmps j == some want) := fun a => by simp [Region.wanted, hgd]
            have hy : ∀ (a : Act), yielded ops a.tmps j = (match a.tmps[d]? with | some (.bool b) => some b | _ => none) := fun a => by unfold yielded; rw [hd]; rfl
            simp only [guardK] at h
            split at h
            · rename_i b hb
              have hav : ∀ {c : Cx} {a : Act}, σ.T.length = a.tmps.size → Val c ((σ.T[d]?).getD .junk) (a.tmps.getD d undef) → a.tmps[d]? = some (.bool b) := fun {c a} hl hF => by
                rw [hb] at hF
                simp only [Option.getD_some, Val] at hF
                have hlt : d < a.tmps.size := by rw [← hl]; exact (List.getElem?_eq_some_iff.1 hb).1
                simp only [Array.getD_eq_getD_getElem?, Array.getElem?_eq_getElem hlt, Option.getD_some] at hF
                rw [Array.getElem?_eq_getElem hlt, hF]
              by_cases hbw : b = want
              · rw [if_pos hbw] at h
                exact runs h fun c a hl hF => by simp [hw, hy, hav hl (hF d hs), hbw]
              · rw [if_neg hbw] at h
                exact skips h fun c a hl hF => by simp [hw, hy, hav hl (hF d hs), hbw]
            · rename_i hb
              refine skips h fun c a hl hF => ?_
              have hv := hF d hs
              rw [hb] at hv
              simp only [Option.getD_some, Val, Vals] at hv
              obtain ⟨vs, h3, h4⟩ := hv
              have hlt : d < a.tmps.size := by rw [← hl]; exact (List.getElem?_eq_some_iff.1 hb).1
              simp only [Array.getD_eq_getD_getElem?, Array.getElem?_eq_getElem hlt, Option.getD_some] at h3
              rw [hw, hy, Array.getElem?_eq_getElem hlt, h3]
              rfl
            · exact h.elim
          · cases hg
    · cases hc

def dE (dst : Option Nat) (v : AV) : List (Nat × AV) := match dst with | some d => [(d, v)] | none => []
def tE (l : List Oper) (effs : List Eff) : List (List (Nat × AV)) := (l.zip effs).map fun p => dE p.1.dst p.2.val
def hE (effs : List Eff) : List (List (Nat × AObj)) := effs.map (·.wr)

theorem tE_cons (o : Oper) (r : List Oper) (e : Eff) (es : List Eff) : tE (o :: r) (e :: es) = dE o.dst e.val :: tE r es := rfl
theorem hE_cons (e : Eff) (es : List Eff) : hE (e :: es) = e.wr :: hE es := rfl

theorem putT_eq (T : List AV) (dst : Option Nat) (v : AV) : putT T dst v = updL T (dE dst v) := by cases dst <;> rfl

theorem runE_shift {α : Type} (L : Nat → Bool) : ∀ (es : List (List (Nat × α))) (k : Nat) (x : List α), runE L (k + 1) es x = runE (fun i => L (i + 1)) k es x
  | [], _, _ => rfl
  | e :: r, k, x => by rw [runE, runE, runE_shift L r]

theorem trun_len {P : Program} {ops : Array Oper} {l : List Oper} {σ σ' : St} {effs : List Eff} (h : TRun P ops l σ effs σ') : effs.length = l.length := by
  induction h with
  | nil => rfl
  | run => simp [*]
  | skip => simp [*]

theorem trun_end {P : Program} {ops : Array Oper} {l : List Oper} {σ σ' : St} {effs : List Eff} (h : TRun P ops l σ effs σ') : σ'.T = runE (fun _ => true) 0 (tE l effs) σ.T ∧ σ'.H = runE (fun _ => true) 0 (hE effs) σ.H := by
  induction h with
  | nil => exact ⟨rfl, rfl⟩
  | run o r σ pre wr val effs σ' _ _ _ _ _ ih =>
    refine ⟨?_, ?_⟩
    · rw [ih.1, tE_cons, runE, if_pos rfl, runE_shift, putT_eq]
    · rw [ih.2, hE_cons, runE, if_pos rfl, runE_shift, updH_eq]
  | skip o r σ effs σ' _ _ ih =>
    refine ⟨?_, ?_⟩
    · rw [ih.1, tE_cons, runE, if_pos rfl, runE_shift, putT_eq]
    · rw [ih.2, hE_cons, runE, if_pos rfl, runE_shift]; rfl

theorem trun_at {P : Program} {ops : Array Oper} {l : List Oper} {σ σ' : St} {effs : List Eff} (h : TRun P ops l σ effs σ') : ∀ (j : Nat) (o : Oper) (e : Eff), l[j]? = some o → effs[j]? = some e →
    (WantedIs ops o (runE (fun i => decide (i < j)) 0 (tE l effs) σ.T) true ∧ CStep P o (runE (fun i => decide (i < j)) 0 (tE l effs) σ.T) e.pre e.wr e.val ∧ (∀ p ∈ e.pre, (runE (fun i => decide (i < j)) 0 (hE effs) σ.H)[p.1]? = some p.2) ∧ (∀ p ∈ e.wr, p.1 ∈ e.pre.map (·.1))) ∨
    (WantedIs ops o (runE (fun i => decide (i < j)) 0 (tE l effs) σ.T) false ∧ e.val = .tup [] ∧ e.pre = [] ∧ e.wr = []) := by
  have f0 : ∀ {α : Type} (es : List (List (Nat × α))) (k : Nat) (x : List α), runE (fun i => decide (i < 0)) k es x = x := by
    intro α es
    induction es with
    | nil => intro k x; rfl
    | cons e es ih => intro k x; rw [runE, if_neg (by simp), ih]
  induction h with
  | nil => intro j o e hj; simp at hj
  | run o r σ pre wr val effs σ' hw hS hp hwr _ ih =>
    intro j o' e hj he
    cases j with
    | zero =>
      simp at hj he
      subst hj he
      rw [f0, f0]
      exact .inl ⟨hw, hS, hp, hwr⟩
    | succ j =>
      simp at hj he
      have := ih j o' e hj he
      rw [tE_cons, runE, if_pos (by simp), hE_cons, runE, if_pos (by simp), runE_shift, runE_shift, ← putT_eq, ← updH_eq]
      simpa [Nat.succ_lt_succ_iff] using this
  | skip o r σ effs σ' hw _ ih =>
    intro j o' e hj he
    cases j with
    | zero =>
      simp at hj he
      subst hj he
      rw [f0, f0]
      exact .inr ⟨hw, rfl, rfl, rfl⟩
    | succ j =>
      simp at hj he
      have := ih j o' e hj he
      rw [tE_cons, runE, if_pos (by simp), hE_cons, runE, if_pos (by simp), runE_shift, runE_shift, ← putT_eq]
      simpa [Nat.succ_lt_succ_iff, updL] using this

end Go.Ab
namespace Go.Ab
open Go
set_option linter.unusedSectionVars false
variable [Glob]

theorem tmpsOrd_spec {ops : Array Oper} (h : tmpsOrd ops = true) {i j : Nat} {oi oj : Oper} (hi : ops[i]? = some oi) (hj : ops[j]? = some oj) (hij : i < j) : oi.apart ops oj = true ∨ ((Region.before ops).getD j 0).testBit i = true := by
  have h1 := (List.all_eq_true.1 h) (oj, j) (by rw [List.mem_zipIdx_iff_getElem?]; simpa using hj)
  have h2 := (List.all_eq_true.1 h1) (oi, i) (by rw [List.mem_zipIdx_iff_getElem?]; simpa using hi)
  simp only [hij, decide_true, Bool.not_true, Bool.false_or, Bool.or_eq_true] at h2
  exact h2

theorem objOrd_spec {bs : List Nat} {fps : List (List Nat × List Nat)} (h : objOrd bs fps = true) {i j : Nat} {p q : List Nat × List Nat} (hi : fps[i]? = some p) (hj : fps[j]? = some q) (hij : i < j) : clash p q = false ∨ (bs.getD j 0).testBit i = true := by
  have h1 := (List.all_eq_true.1 h) (q, j) (by rw [List.mem_zipIdx_iff_getElem?]; exact hj)
  have h2 := (List.all_eq_true.1 h1) (p, i) (by rw [List.mem_zipIdx_iff_getElem?]; exact hi)
  simp only [hij, decide_true, Bool.not_true, Bool.false_or, Bool.or_eq_true, Bool.not_eq_true'] at h2
  exact h2

theorem edgesOk_spec {ops : Array Oper} (h : edgesOk ops = true) {j : Nat} {o : Oper} (hj : ops[j]? = some o) {e : Edge} (he : e ∈ o.after) (hb : Region.binds .any e = true) : e.on < j := by
  have h1 := (List.all_eq_true.1 h) (o, j) (by rw [List.mem_zipIdx_iff_getElem?]; simpa using hj)
  have h2 := (Array.all_eq_true_iff_forall_mem.1 h1) e he
  simpa [hb] using h2

def unl (ops : Array Oper) (listed : Array Bool) : Nat := ((List.range ops.size).filter fun i => !listed.getD i false).length

theorem filter_lt {α : Type} {p q : α → Bool} : ∀ {l : List α} {x : α}, x ∈ l → (∀ y, q y = true → p y = true) → p x = true → q x = false → (l.filter q).length < (l.filter p).length
  | [], _, h, _, _, _ => by simp at h
  | y :: l, x, h, hq, hp, hx => by
    have hle : ∀ l : List α, (l.filter q).length ≤ (l.filter p).length := by
      intro l
      induction l with
      | nil => simp
      | cons z l ih =>
        simp only [List.filter_cons]
        cases hz : q z
        · cases p z <;> simp <;> omega
        · rw [hq z hz]; simpa using ih
    simp only [List.filter_cons]
    rcases List.mem_cons.1 h with rfl | h
    · rw [hp, hx]
      have := hle l
      simp
      omega
    · have ih := filter_lt h hq hp hx
      cases hz : q y
      · cases p y <;> simp <;> omega
      · rw [hq y hz]; simpa using ih

theorem any_sound {P : Program} {ops : Array Oper} {σ σ' : St} {effs : List Eff} (hto : tmpsOrd ops = true) (heo : edgesOk ops = true) (hT : TRun P ops ops.toList σ effs σ') (hoo : objOrd (Region.before ops).toList (effs.map Eff.fp) = true)
    {Q : Exit → Act → World → Prop} : ∀ (fuel : Nat) (listed : Array Bool) (c : Cx) (a : Act), listed.size = ops.size → Shut ops listed → unl ops listed ≤ fuel → Rel c →
      c.H = runE (fun i => listed.getD i false) 0 (hE effs) σ.H → Fr c (runE (fun i => listed.getD i false) 0 (tE ops.toList effs) σ.T) a →
      (∀ c' a', Rel c' → Ext c c' → c'.H = σ'.H → Fr c' σ'.T a' → Q .normal a' c'.w) → wpAny P .any ops Q fuel listed a c.w := by
  have hel := trun_len hT
  have heff : ∀ {j : Nat} {o : Oper}, ops[j]? = some o → ∃ e, effs[j]? = some e ∧ (tE ops.toList effs)[j]? = some (dE o.dst e.val) ∧ (hE effs)[j]? = some e.wr := fun {j o} hj => by
    have hlt : j < effs.length := by rw [hel]; exact (List.getElem?_eq_some_iff.1 (show ops.toList[j]? = some o by simpa using hj)).1
    refine ⟨effs[j], List.getElem?_eq_getElem hlt, ?_, ?_⟩
    · rw [tE, List.getElem?_map, (List.getElem?_zip_eq_some (z := (o, effs[j]))).2 ⟨show ops.toList[j]? = some o by simpa using hj, List.getElem?_eq_getElem hlt⟩]; rfl
    · rw [hE, List.getElem?_map, List.getElem?_eq_getElem hlt]; rfl
  have htE : ∀ {i : Nat} {e : List (Nat × AV)}, (tE ops.toList effs)[i]? = some e → ∃ o ef, ops[i]? = some o ∧ effs[i]? = some ef ∧ e = dE o.dst ef.val := fun {i e} hi => by
    have hlt : i < ops.size := by
      have := (List.getElem?_eq_some_iff.1 hi).1
      rw [tE, List.length_map, List.length_zip, hel] at this
      simpa using this
    obtain ⟨ef, h1, h2, _⟩ := heff (Array.getElem?_eq_getElem hlt)
    rw [h2] at hi
    exact ⟨_, ef, Array.getElem?_eq_getElem hlt, h1, (Option.some.inj hi).symm⟩
  have hhE : ∀ {i : Nat} {e : List (Nat × AObj)}, (hE effs)[i]? = some e → ∃ ef, effs[i]? = some ef ∧ e = ef.wr := fun {i e} hi => by
    rw [hE, List.getElem?_map, Option.map_eq_some_iff] at hi
    obtain ⟨ef, h1, h2⟩ := hi
    exact ⟨ef, h1, h2.symm⟩
  have hmem_dE : ∀ {t : Nat} {dst : Option Nat} {v : AV}, t ∈ (dE dst v).map (·.1) → dst = some t := fun {t dst v} h => by
    cases dst <;> simp [dE] at h ⊢
    exact h.symm
  have hbsz : ∀ (j i : Nat), ((Region.before ops).toList.getD j 0).testBit i = ((Region.before ops).getD j 0).testBit i := fun j i => by
    simp [List.getD_eq_getElem?_getD, Array.getD_eq_getD_getElem?]
  have final : ∀ (listed : Array Bool) (c : Cx) (a : Act), (∀ i, i < ops.size → listed.getD i false = true) → Rel c → c.H = runE (fun i => listed.getD i false) 0 (hE effs) σ.H → Fr c (runE (fun i => listed.getD i false) 0 (tE ops.toList effs) σ.T) a →
      (∀ c' a', Rel c' → Ext c c' → c'.H = σ'.H → Fr c' σ'.T a' → Q .normal a' c'.w) → Q .normal a c.w := by
    intro listed c a hall hr hH hF hQ
    obtain ⟨e1, e2⟩ := trun_end hT
    have a1 : runE (fun i => listed.getD i false) 0 (tE ops.toList effs) σ.T = σ'.T := by
      rw [e1]
      apply List.ext_getElem?
      intro t
      refine runE_agree _ 0 _ _ t rfl rfl fun i e hi _ => ?_
      obtain ⟨o, _, ho, _⟩ := htE hi
      rw [Nat.zero_add]
      exact hall i (Array.getElem?_eq_some_iff.1 ho).1
    have a2 : runE (fun i => listed.getD i false) 0 (hE effs) σ.H = σ'.H := by
      rw [e2]
      apply List.ext_getElem?
      intro t
      refine runE_agree _ 0 _ _ t rfl rfl fun i e hi _ => ?_
      obtain ⟨ef, hef, _⟩ := hhE hi
      rw [Nat.zero_add]
      exact hall i (by have := (List.getElem?_eq_some_iff.1 hef).1; rw [hel] at this; simpa using this)
    exact hQ c a hr (.refl c) (hH.trans a2) (a1 ▸ hF)
  have noready : ∀ (listed : Array Bool), listed.size = ops.size → Region.ready .any ops listed = [] → ∀ i, i < ops.size → listed.getD i false = true := by
    intro listed hls hnil i
    induction i using Nat.strongRecOn with
    | _ i ih =>
      intro hi
      cases hl : listed.getD i false with
      | true => rfl
      | false =>
        exfalso
        have : i ∈ Region.ready .any ops listed := by
          rw [mem_ready]
          refine ⟨?_, _, Array.getElem?_eq_getElem hi, fun e he hb => ?_⟩
          · have hil : i < listed.size := by omega
            simpa [Array.getD_eq_getD_getElem?, hil] using hl
          · have := edgesOk_spec heo (Array.getElem?_eq_getElem hi) he hb
            exact ih e.on this (by omega)
        rw [hnil] at this
        cases this
  intro fuel
  induction fuel with
  | zero =>
    intro listed c a hls hsh hu hr hH hF hQ
    have hall : ∀ i, i < ops.size → listed.getD i false = true := by
      intro i hi
      cases hl : listed.getD i false with
      | true => rfl
      | false =>
        have : i ∈ (List.range ops.size).filter fun i => !listed.getD i false := List.mem_filter.2 ⟨List.mem_range.2 hi, by rw [hl]; rfl⟩
        have := List.length_pos_of_mem this
        simp only [unl] at hu
        omega
    refine ⟨?_, final listed c a hall hr hH hF hQ⟩
    cases hrd : Region.ready .any ops listed with
    | nil => rfl
    | cons x xs =>
      have hx : x ∈ Region.ready .any ops listed := by rw [hrd]; simp
      rw [mem_ready] at hx
      obtain ⟨h1, o, ho, _⟩ := hx
      have hxl := (Array.getElem?_eq_some_iff.1 ho).1
      have h2 := hall x hxl
      have hil : x < listed.size := by omega
      simp [Array.getD_eq_getD_getElem?, hil] at h1 h2
      rw [h1] at h2; cases h2
  | succ fuel ih =>
    intro listed c a hls hsh hu hr hH hF hQ
    refine ⟨fun hnil => final listed c a (noready listed hls hnil) hr hH hF hQ, fun j hj => ?_⟩
    have hj' := hj
    rw [mem_ready] at hj'
    obtain ⟨hjl, o, ho, _⟩ := hj'
    have hjsz : j < ops.size := (Array.getElem?_eq_some_iff.1 ho).1
    have hjlt : j < listed.size := by omega
    have hLj : listed.getD j false = false := by simpa [Array.getD_eq_getD_getElem?, hjlt] using hjl
    obtain ⟨ef, hef, hte, hhe⟩ := heff ho
    -- who comes before, who comes later
    have early : ∀ {i : Nat}, ((Region.before ops).getD j 0).testBit i = true → listed.getD i false = true := fun h => shut_ready hsh hj h
    have late : ∀ {i : Nat}, ((Region.before ops).getD i 0).testBit j = true → listed.getD i false = false := fun {i} h => by
      cases hl : listed.getD i false with
      | false => rfl
      | true => have := hsh i j hl h; rw [hLj] at this; cases this
    have tdec : ∀ {i : Nat} {oi : Oper}, ops[i]? = some oi → (∃ t, oi.dst = some t ∧ (t ∈ o.looksAt ops ∨ o.dst = some t)) → i ≠ j → listed.getD i false = decide (i < j) := fun {i oi} hoi ⟨t, ht, hc⟩ hne => by
      rcases Nat.lt_or_gt_of_ne hne with hlt | hgt
      · rcases tmpsOrd_spec hto hoi ho hlt with h | h
        · obtain ⟨g1, g2, g3⟩ := Oper.apart_spec h
          rcases hc with hc | hc
          · exact (g1 t ht hc).elim
          · exact (g2 t ht hc).elim
        · rw [early h]; simp [hlt]
      · rcases tmpsOrd_spec hto ho hoi hgt with h | h
        · obtain ⟨g1, g2, g3⟩ := Oper.apart_spec h
          rcases hc with hc | hc
          · exact (g3 t ht hc).elim
          · exact (g2 t hc ht).elim
        · rw [late h]; have : ¬ i < j := by omega
          simp [this]
    have odec : ∀ {i : Nat} {ei : Eff}, effs[i]? = some ei → (∃ t, t ∈ ei.wr.map (·.1) ∧ t ∈ ef.pre.map (·.1)) → i ≠ j → listed.getD i false = decide (i < j) := fun {i ei} hei ⟨t, ht1, ht2⟩ hne => by
      have hi' : (effs.map Eff.fp)[i]? = some ei.fp := by rw [List.getElem?_map, hei]; rfl
      have hj' : (effs.map Eff.fp)[j]? = some ef.fp := by rw [List.getElem?_map, hef]; rfl
      rcases Nat.lt_or_gt_of_ne hne with hlt | hgt
      · rcases objOrd_spec hoo hi' hj' hlt with h | h
        · simp only [clash, Bool.or_eq_false_iff, List.any_eq_false, Eff.fp] at h
          exact (h.1 t ht1 (by simpa using ht2)).elim
        · rw [hbsz] at h
          rw [early h]; simp [hlt]
      · rcases objOrd_spec hoo hj' hi' hgt with h | h
        · simp only [clash, Bool.or_eq_false_iff, List.any_eq_false, Eff.fp] at h
          exact (h.2 t ht2 (by simpa using ht1)).elim
        · rw [hbsz] at h
          rw [late h]; have : ¬ i < j := by omega
          simp [this]
    -- the temporaries and objects that the operation looks at
    have seeT : ∀ t ∈ o.looksAt ops, (runE (fun i => listed.getD i false) 0 (tE ops.toList effs) σ.T)[t]? = (runE (fun i => decide (i < j)) 0 (tE ops.toList effs) σ.T)[t]? := fun t ht =>
      runE_agree _ 0 _ _ t rfl rfl fun i e hi hte' => by
        obtain ⟨oi, ei, hoi, _, rfl⟩ := htE hi
        rw [Nat.zero_add]
        by_cases hij : i = j
        · subst hij; rw [hLj]; simp
        · exact tdec hoi ⟨t, hmem_dE hte', .inl ht⟩ hij
    have seeH : ∀ t ∈ ef.pre.map (·.1), (runE (fun i => listed.getD i false) 0 (hE effs) σ.H)[t]? = (runE (fun i => decide (i < j)) 0 (hE effs) σ.H)[t]? := fun t ht =>
      runE_agree _ 0 _ _ t rfl rfl fun i e hi hte' => by
        obtain ⟨ei, hei, rfl⟩ := hhE hi
        rw [Nat.zero_add]
        by_cases hij : i = j
        · subst hij; rw [hLj]; simp
        · exact odec hei ⟨t, hte', ht⟩ hij
    -- the effects with the operation
    have hset : ∀ i, i ≠ j → (listed.setIfInBounds j true).getD i false = listed.getD i false := fun i hi => getD_set_ne false (Ne.symm hi)
    have hsetj : (listed.setIfInBounds j true).getD j false = true := by simp [hjlt]
    have addT : runE (fun i => (listed.setIfInBounds j true).getD i false) 0 (tE ops.toList effs) σ.T = updL (runE (fun i => listed.getD i false) 0 (tE ops.toList effs) σ.T) (dE o.dst ef.val) :=
      runE_add hte hsetj hset fun i e' t hi he' ht1 ht2 => by
        obtain ⟨oi, ei, hoi, _, rfl⟩ := htE he'
        have := tdec hoi ⟨t, hmem_dE ht1, .inr (hmem_dE ht2)⟩ (by omega)
        rw [this]; have : ¬ i < j := by omega
        simp [this]
    have hsh' := shut_set hsh hj
    have hu' : unl ops (listed.setIfInBounds j true) ≤ fuel := by
      have : unl ops (listed.setIfInBounds j true) < unl ops listed := filter_lt (x := j) (by simpa using hjsz) (fun y hy => by
        by_cases hyj : y = j
        · subst hyj; simp [hLj]
        · rw [hset y hyj] at hy; exact hy) (by simp [hLj]) (by simp [hjlt])
      omega
    have hlen : (runE (fun i => decide (i < j)) 0 (tE ops.toList effs) σ.T).length = a.tmps.size := by rw [← hF.1]; simp
    have hgs : ∀ d, gslot ops o = some d → d ∈ o.looksAt ops := fun d hd => by
      simp only [Oper.looksAt, List.mem_append]
      refine .inr ?_
      simp only [gslot] at hd
      split at hd
      · rename_i g w hg; simp [hg, hd]
      · cases hd
    unfold wpOp
    simp only [ho]
    rcases trun_at hT j o ef (by simpa using ho) hef with ⟨hw, hS, hp, hwr⟩ | ⟨hw, hval, hpre, hwr⟩
    · have hwant := hw c a hlen fun d hd => by rw [← seeT d (hgs d hd)]; exact hF.2.2 d
      rw [if_pos hwant]
      refine .inl (hS c a hr (fun x hx => ?_) (fun p hpp => ?_) _ _ fun v c' h1 h2 h3 h4 => ?_)
      · cases x with
        | tmp t =>
          have ht : t ∈ o.looksAt ops := by
            simp only [Oper.looksAt, List.mem_append, List.mem_filterMap]
            exact .inl ⟨.tmp t, hx, rfl⟩
          show Val c (((runE (fun i => decide (i < j)) 0 (tE ops.toList effs) σ.T)[t]?).getD .junk) _
          rw [← seeT t ht]
          exact hF.2.2 t
        | const v => exact Val_ofValue c v
        | global g => simp [opd, Opd.ev, Act.eval, Val]
        | func f => simp [opd, Opd.ev, Act.eval, Val, Vals]
      · rw [hH, seeH p.1 (List.mem_map.2 ⟨p, hpp, rfl⟩)]; exact hp p hpp
      · refine ih _ c' _ (by simpa using hls) hsh' hu' h1 ?_ ?_ fun c2 a2 k1 k2 k3 k4 => hQ c2 a2 k1 (h2.trans k2) k3 k4
        · rw [h3, hH, updH_eq]
          refine (runE_add hhe hsetj hset fun i e' t hi he' ht1 ht2 => ?_).symm
          obtain ⟨ei, hei, rfl⟩ := hhE he'
          obtain ⟨q, hq, hqe⟩ := List.mem_map.1 ht2
          have := odec hei ⟨t, ht1, by rw [← hqe]; exact hwr q hq⟩ (by omega)
          rw [this]; have : ¬ i < j := by omega
          simp [this]
        · rw [addT, ← putT_eq]
          exact Fr_put (Fr_ext h2 hr hF) h4 o.dst
    · have hwant := hw c a hlen fun d hd => by rw [← seeT d (hgs d hd)]; exact hF.2.2 d
      rw [if_neg (by simp [hwant])]
      refine ih _ c _ (by simpa using hls) hsh' hu' hr ?_ ?_ hQ
      · rw [hH]
        have := runE_add (x := σ.H) hhe hsetj hset fun i e' t hi he' ht1 ht2 => by rw [hwr] at ht2; simp at ht2
        rw [this, hwr]; rfl
      · rw [addT, ← putT_eq, hval]
        exact Fr_put hF (by simp only [Val, Vals]; exact ⟨#[], rfl, rfl⟩) o.dst

theorem rel_pushes {c : Cx} (hr : Rel c) : ∀ n : Nat, ∃ c', c'.w = c.w ∧ c'.H = c.H ++ List.replicate n .unborn ∧ Rel c' ∧ Ext c c'
  | 0 => ⟨c, rfl, by simp, hr, .refl c⟩
  | n + 1 => by
    obtain ⟨c1, h1, h2, h3, h4⟩ := rel_pushes hr n
    obtain ⟨g1, g2⟩ := rel_push h3
    exact ⟨{ c1 with μ := c1.μ ++ [.pointer none], H := c1.H ++ [.unborn] }, h1, by show c1.H ++ [AObj.unborn] = _; rw [h2, List.append_assoc, List.replicate_succ'], g1, h4.trans g2⟩

theorem awp_draw {P : Program} {k : Nat} {l : List AOper} {bs : List Nat} {Q : Exit → St → Prop} {σ : St} (h : drawK P l bs (Q .normal) σ) : awp P k (.draw l bs) Q σ := by
  intro own code hc
  cases code <;> simp only [compileCode, Option.map_eq_some_iff, reduceCtorEq, and_false, exists_false] at hc
  case region id ops draw =>
    cases draw
    · simp only [Bool.false_and, Bool.false_eq_true, if_false, Option.map_eq_some_iff, reduceCtorEq, and_false, exists_false] at hc
    · split at hc
      · cases hc
      · rename_i hchk
        simp only [Bool.true_and, Bool.not_eq_true', Bool.not_eq_false, Bool.and_eq_true] at hchk
        obtain ⟨⟨hmix, hto⟩, heo⟩ := hchk
        simp only [if_true, Option.map_eq_some_iff, ACode.draw.injEq] at hc
        obtain ⟨l', hl, rfl, rfl⟩ := hc
        obtain ⟨effs, σ', hT, hoo, hQ⟩ := trun_of ops.toList _ _ _ _ hl h
        refine fun c a hr hH hF Q' hQ' => wp_region_any hmix ?_
        obtain ⟨c1, h1, h2, h3, h4⟩ := rel_pushes hr (allocN l')
        obtain ⟨g1, g2⟩ := rel_drew h3
        have hw : { c.w with drawn := c.w.drawn + 1 } = ({ c1 with w := c1.w.drew } : Cx).w := by show _ = c1.w.drew; rw [h1]; rfl
        rw [hw]
        have f0 : ∀ {α : Type} (es : List (List (Nat × α))) (k : Nat) (x : List α), runE (fun i => (Array.replicate ops.size false).getD i false) k es x = x := by
          intro α es
          induction es with
          | nil => intro k x; rfl
          | cons e es ih => intro k x; rw [runE, if_neg (by simp [Array.getD_eq_getD_getElem?, Array.getElem?_replicate]; split <;> simp), ih]
        refine any_sound hto heo hT (by simpa using hoo) ops.size (Array.replicate ops.size false) { c1 with w := c1.w.drew } a (by simp) ?_ ?_ g1 ?_ ?_ fun c' a' k1 k2 k3 k4 => hQ' .normal σ' c' a' hQ k1 (((h4.trans g2).trans k2).toN k) k3 k4
        · intro j i hj
          simp [Array.getD_eq_getD_getElem?, Array.getElem?_replicate] at hj
          split at hj <;> simp at hj
        · exact Nat.le_trans (List.length_filter_le _ _) (by simp)
        · rw [f0]; show c1.H = _; rw [h2, hH]
        · rw [f0]; exact Fr_ext (h4.trans g2) hr hF
  all_goals first | (cases hc; done) | (split at hc <;> (cases hc; done)) | (obtain ⟨_, _, hc⟩ := hc; first | (cases hc; done) | (split at hc <;> (cases hc; done)))

end Go.Ab
namespace Go.Ab
open Go
set_option linter.unusedSectionVars false
variable [Glob]

def awpF (P : Program) (k : Nat) : ACode → (Exit → St → Prop) → St → Prop
  | .skip, Q, σ => Q .normal σ
  | .ops l, Q, σ => awpOps P l (Q .normal) σ
  | .draw l bs, Q, σ => drawK P l bs (Q .normal) σ
  | .seq a b, Q, σ => awpF P k a (thenK (awpF P k b Q) Q) σ
  | .cond c a b, Q, σ => condK (c.ev σ.T) (awpF P k a Q σ) (awpF P k b Q σ)
  | .block id c, Q, σ => awpF P k c (blockK id Q) σ
  | .loop c, Q, σ => awp P k (.loop c) Q σ
  | .exit id, Q, σ => Q (.exit id) σ
  | .ret, Q, σ => Q .ret σ

theorem awpF_sound {P : Program} {k : Nat} {ac : ACode} : ∀ {Q : Exit → St → Prop} {σ : St}, awpF P k ac Q σ → awp P k ac Q σ := by
  induction ac with
  | skip => exact fun h => awp_jump.1 h
  | ops l => exact fun h => awp_ops h
  | draw l bs => exact fun h => awp_draw h
  | seq a b ha hb => exact fun {Q σ} h => awp_seq (awp_mono (ha h) fun e s hs => by cases e <;> first | exact hb hs | exact hs)
  | cond c a b ha hb =>
    intro Q σ h
    refine awp_cond ?_
    simp only [awpF] at h
    unfold condK at *
    split at h
    · rename_i b hb'
      cases b
      · simp only [Bool.false_eq_true, if_false] at h ⊢; exact hb h
      · simp only [if_true] at h ⊢; exact ha h
    · exact h
  | block id c ih => exact fun h => awp_block (ih h)
  | loop c ih => exact fun h => h
  | exit id => exact fun h => awp_jump.2.2 id h
  | ret => exact fun h => awp_jump.2.1 h

def cv1 (H : List AObj) (m : Nat) (x y : AV) : Prop :=
  y = .junk ∨ (x = y ∧ closed m y = true) ∨ (match x, y with
    | .own o n, .imm l => m ≤ o ∧ n = l.length ∧ (∃ e sz, H[o]? = some (.reg e sz l)) ∧ closedLL m l = true
    | .nils, .imm l => l = []
    | _, _ => False)

def cvT (H : List AObj) (m : Nat) : List AV → List AV → Prop
  | [], [] => True
  | x :: xs, y :: ys => cv1 H m x y ∧ cvT H m xs ys
  | _, _ => False

def cvA (H : List AObj) (m : Nat) (x y : AV) : Prop :=
  match x, y with
  | .agg xs, .agg ys => cvT H m xs ys
  | x, y => cv1 H m x y

def cvTA (H : List AObj) (m : Nat) : List AV → List AV → Prop
  | [], [] => True
  | x :: xs, y :: ys => cvA H m x y ∧ cvTA H m xs ys
  | _, _ => False

def cvR (H : List AObj) (m : Nat) (x y : AV) : Prop :=
  match x, y with
  | .tup xs, .tup ys => cvTA H m xs ys
  | x, y => cvA H m x y

def cvO (H : List AObj) (m : Nat) (x y : AObj) : Prop :=
  match x, y with
  | .unborn, .unborn => True
  | .dead, .dead => True
  | .box e cs, .box e' cs' => e' = e ∧ cvT H m cs cs'
  | .reg e sz l, .reg e' sz' l' => e' = e ∧ sz' = sz ∧ l' = l ∧ closedLL m l = true
  | .map kvs, .map kvs' => kvs' = kvs ∧ (kvs.all fun p => closed m p.1 && closed m p.2) = true
  | .iter o s l, .iter o' s' l' => o' = o ∧ s' = s ∧ l' = l ∧ o < m
  | _, _ => False

def cvH (H : List AObj) (m : Nat) : List AObj → List AObj → Prop
  | _, [] => True
  | x :: xs, y :: ys => cvO H m x y ∧ cvH H m xs ys
  | [], _ :: _ => False

theorem cv1_conv {H : List AObj} {m : Nat} {x y : AV} (h : cv1 H m x y) : Conv H m [] x y := by
  rcases h with rfl | ⟨rfl, h⟩ | h
  · exact .junk _
  · exact .same _ h
  · split at h
    · obtain ⟨h1, h2, ⟨e, sz, h3⟩, h4⟩ := h
      exact .frz _ _ e sz _ _ h1 (by simp) h3 h2 (ConvLL_closed h4)
    · subst h; exact .nils
    · exact h.elim

theorem cvT_conv {H : List AObj} {m : Nat} : ∀ {xs ys : List AV}, cvT H m xs ys → ConvL H m [] xs ys
  | [], [], _ => .nil
  | _ :: _, _ :: _, h => .cons _ _ _ _ (cv1_conv h.1) (cvT_conv h.2)
  | [], _ :: _, h => h.elim
  | _ :: _, [], h => h.elim

theorem cvA_conv {H : List AObj} {m : Nat} {x y : AV} (h : cvA H m x y) : Conv H m [] x y := by
  unfold cvA at h
  split at h
  · exact .agg _ _ (cvT_conv h)
  · exact cv1_conv h

theorem cvTA_conv {H : List AObj} {m : Nat} : ∀ {xs ys : List AV}, cvTA H m xs ys → ConvL H m [] xs ys
  | [], [], _ => .nil
  | _ :: _, _ :: _, h => .cons _ _ _ _ (cvA_conv h.1) (cvTA_conv h.2)
  | [], _ :: _, h => h.elim
  | _ :: _, [], h => h.elim

theorem cvR_conv {H : List AObj} {m : Nat} {x y : AV} (h : cvR H m x y) : Conv H m [] x y := by
  unfold cvR at h
  split at h
  · exact .tup _ _ (cvTA_conv h)
  · exact cvA_conv h

theorem cvO_conv {H : List AObj} {m : Nat} {x y : AObj} (h : cvO H m x y) : ConvO H m [] x y := by
  cases x <;> cases y <;> simp only [cvO] at h <;> simp only [ConvO]
  · exact ⟨h.1, cvT_conv h.2⟩
  · obtain ⟨rfl, rfl, rfl, h⟩ := h; exact ⟨rfl, rfl, ConvLL_closed h⟩
  · obtain ⟨rfl, h⟩ := h
    refine ⟨rfl, fun p hp => ?_⟩
    have := (List.all_eq_true.1 h) p hp
    simpa using this
  · exact h

theorem cvH_conv {H : List AObj} {m : Nat} : ∀ {xs ys : List AObj}, cvH H m xs ys → ys.length ≤ xs.length ∧ ∀ (o : Nat) (x y : AObj), xs[o]? = some x → ys[o]? = some y → ConvO H m [] x y
  | _, [], _ => ⟨by simp, by simp⟩
  | x :: xs, y :: ys, h => by
    obtain ⟨h1, h2⟩ := cvH_conv h.2
    refine ⟨by simp; exact h1, fun o a b ha hb => ?_⟩
    cases o with
    | zero => simp at ha hb; subst ha hb; exact cvO_conv h.1
    | succ o => simp at ha hb; exact h2 o a b ha hb
  | [], _ :: _, h => h.elim

theorem cvH_ConvH {H H' : List AObj} (h : cvH H H'.length H H') : ConvH H H'.length [] H' := by
  obtain ⟨h1, h2⟩ := cvH_conv h
  exact ⟨h1, by simp, List.nodup_nil, by simp, fun o x y _ hx hy => h2 o x y hx hy, by simp⟩

theorem Wk.cut {k : Nat} {T T' : List AV} {H H' : List AObj} (hk : k ≤ H'.length) (hT : cvT H H'.length T T') (hH : cvH H H'.length H H') : Wk k ⟨T, H⟩ ⟨T', H'⟩ := fun c a hr hHc hF => by
  have hHc' : c.H = H := hHc
  subst hHc'
  have hC := cvH_ConvH hH
  have hlen : T.length = T'.length := (ConvL_length (cvT_conv hT)).symm
  have hE := ret_ext (c0 := { c with H := c.H.take H'.length, μ := c.μ.take H'.length }) hr hC
  refine ⟨retCx c H'.length [] H', rfl, ret_rel hr hC, ?_, rfl, ?_⟩
  · refine ⟨fun b hb => .inl hb, fun b hb => ?_, fun b _ _ => rfl, Nat.le_refl _, rfl, rfl, rfl, fun o b ho => ?_, fun o x ho hx => ?_⟩
    · rcases hb with hb | ⟨o, _, _, h3⟩
      · exact .inl hb
      · exact .inr (.inr ⟨o, h3⟩)
    · obtain ⟨p, h1, _⟩ := ret_owner hr hC ho
      exact .inr ⟨p, h1⟩
    · exact (ret_vsub hr hC).obj o x (by omega) hx
  · refine ⟨by rw [← hlen]; exact hF.1, hF.2.1, fun n => ?_⟩
    have key : ∀ (xs ys : List AV), cvT c.H H'.length xs ys → ∀ n : Nat, cv1 c.H H'.length ((xs[n]?).getD .junk) ((ys[n]?).getD .junk) := by
      intro xs
      induction xs with
      | nil => intro ys h n; cases ys with | nil => exact .inl rfl | cons y ys => exact h.elim
      | cons x xs ih =>
        intro ys h n
        cases ys with
        | nil => exact h.elim
        | cons y ys =>
          cases n with
          | zero => exact h.1
          | succ n => exact ih ys h.2 n
    exact conv_val hr hC (cv1_conv (key T T' hT n)) (hF.2.2 n)

theorem Wk.nilT {k : Nat} {T : List AV} {H : List AObj} (n e sz : Nat) (hn : T[n]? = some .nils) (hk : k ≤ H.length) : Wk k ⟨T, H⟩ ⟨T.set n (.own H.length 0), H ++ [.reg e sz []]⟩ := fun c a hr hH hF => by
  have hH' : c.H = H := hH
  subst hH'
  obtain ⟨h1, h2⟩ := rel_push hr
  have hu : (c.H ++ [AObj.unborn])[c.H.length]? = some .unborn := by simp
  have hm : ((c.μ ++ [Value.pointer none]).set c.H.length (.slice none 0 0))[c.H.length]? = some (.slice none 0 0) := by
    rw [← hr.len]; simp
  have hN := rel_upd h1 (o := c.H.length) (x' := .reg e sz []) (v' := .slice none 0 0) (F' := c.F) (w' := c.w) hu (by simp [OStep]) (fun _ h => h) (fun _ h => .inl h) (fun _ _ _ => rfl) (Nat.le_refl _) rfl rfl rfl
    (fun b _ hb => by simp [blk] at hb) (fun _ => ⟨.slice none 0 0, hm, .inl ⟨rfl, rfl⟩⟩)
  have hset : (c.H ++ [AObj.unborn]).set c.H.length (.reg e sz []) = c.H ++ [.reg e sz []] := by simp
  refine ⟨⟨c.F, (c.μ ++ [Value.pointer none]).set c.H.length (.slice none 0 0), (c.H ++ [AObj.unborn]).set c.H.length (.reg e sz []), c.w⟩, rfl, hN.1, (h2.trans hN.2).toN k, hset, ?_⟩
  have hF' := Fr_ext (h2.trans hN.2) hr hF
  refine ⟨by simpa using hF'.1, hF'.2.1, fun j => ?_⟩
  by_cases hj : n = j
  · subst hj
    have hlt : n < T.length := (List.getElem?_eq_some_iff.1 hn).1
    have hv := hF'.2.2 n
    simp only [hn, Option.getD_some, Val] at hv
    rw [List.getElem?_set_self hlt, Option.getD_some, hv]
    simp only [Val]
    refine ⟨⟨_, _, _, rfl⟩, .inl ⟨e, sz, [], ?_, Nat.le_refl _, fun _ => hm⟩⟩
    show ((c.H ++ [AObj.unborn]).set c.H.length (.reg e sz []))[c.H.length]? = _
    rw [hset]; simp
  · have : (T.set n (.own c.H.length 0))[j]? = T[j]? := by simp [List.getElem?_set_ne hj]
    rw [this]
    exact hF'.2.2 j

theorem retQ_of {k0 : Nat} {res : List ARes} {av : AV} {H' : List AObj} {σ : St} (hk : k0 = H'.length) (h : resK σ.T σ.H res fun xs => cvR σ.H k0 (packR xs) av) (hH : cvH σ.H k0 σ.H H') : retQ k0 res av H' .ret σ ∧ retQ k0 res av H' .normal σ := by
  subst hk
  have mono : ∀ (l : List ARes) (K K' : List AV → Prop), (∀ xs, K xs → K' xs) → resK σ.T σ.H l K → resK σ.T σ.H l K' := by
    intro l
    induction l with
    | nil => intro K K' hk h; exact hk _ h
    | cons r l ih =>
      intro K K' hk h
      cases r with
      | tmp t => exact ih _ _ (fun xs hx => hk _ hx) h
      | cell t n =>
        have ld : ∀ (n : Option Nat) (cs : List AV) (K K' : AV → Prop), (∀ v, K v → K' v) → ldK n cs K → ldK n cs K' := by
          intro n cs K K' hk h
          unfold ldK at h ⊢
          split at h
          · split at h
            · exact hk _ h
            · exact h
          · exact ⟨h.1, hk _ h.2⟩
        simp only [resK] at h ⊢
        unfold sLoad at h ⊢
        split at h
        · split at h
          · exact ld _ _ _ _ (fun v hv => ih _ _ (fun xs hx => hk _ hx) hv) h
          · exact h
        · exact ld _ _ _ _ (fun v hv => ih _ _ (fun xs hx => hk _ hx) hv) h
        · split at h
          · refine ⟨h.1, ?_⟩
            have h2 := h.2
            split at h2
            · exact ld _ _ _ _ (fun v hv => ih _ _ (fun xs hx => hk _ hx) hv) h2
            · exact h2
          · exact h
        · exact h
  have := mono res _ _ (fun xs hx => (⟨[], cvH_ConvH hH, cvR_conv hx⟩ : ∃ ex, ConvH σ.H H'.length ex H' ∧ Conv σ.H H'.length ex (packR xs) av)) h
  exact ⟨this, this⟩

end Go.Ab
namespace Go.Ab
open Go
set_option linter.unusedSectionVars false
variable [Glob]

def retP (k0 : Nat) (res : List ARes) (av : AV) (H' : List AObj) : Exit → St → Prop
  | .normal, σ | .ret, σ => (resK σ.T σ.H res fun xs => cvR σ.H k0 (packR xs) av) ∧ cvH σ.H k0 σ.H H'
  | _, _ => False

theorem acalls_F {P : Program} {own : List Nat} {f : Nat} {fn : AFn} {as : List AV} {H H' : List AObj} {av : AV} (hf : compileF P own f = some fn) (hk : H.length = H'.length)
    (h : awpF P H.length fn.body (retP H.length fn.res av H') ⟨as ++ List.replicate (fn.nt - as.length) .junk, H⟩) : ACalls P f as H av H' :=
  acalls_intro hf (awp_mono (awpF_sound h) fun e s hs => by
    cases e with
    | normal => exact (retQ_of hk hs.1 hs.2).2
    | ret => exact (retQ_of hk hs.1 hs.2).1
    | _ => exact hs.elim)

attribute [go_sem] updP scalarEq scalarsEq kindsOk keyOk AV.one cellsOf cellsOk evParts fits allocN AOp.allocs updH
  closed closedL closedLL cv1 cvT cvA cvTA cvR cvO cvH packR plainV plainT

theorem callPure {P : Program} {f : Nat} {as : List AV} {av : AV} {H : List AObj} {K : List AObj → AV → Prop} (h : ACalls P f as [] av []) (ha : closedL 0 as = true) (hv : closed 0 av = true) (hK : K H av) :
    ∃ H' v, ACalls P f as H v H' ∧ K H' v := ⟨H, av, h.pure H ha hv, hK⟩

theorem callFrame {P : Program} {f : Nat} {as xs : List AV} {av : AV} {He He' H : List AObj} {K : List AObj → AV → Prop} (is : List Nat) (h : ACalls P f as He av He') (hle : He.length = is.length) (hlen : He'.length = is.length) (hnd : is.Nodup)
    (hx : xs = renL is as) (hH : ∀ (j p : Nat) (x : AObj), is[j]? = some p → He[j]? = some x → H[p]? = some (renO is x)) (hK : K (updAt H is (He'.map (renO is))) (ren is av)) :
    ∃ H' v, ACalls P f xs H v H' ∧ K H' v := ⟨_, _, hx ▸ h.frame is hle hlen hnd hH, hK⟩

theorem dcallPure {P : Program} {f : Nat} {as : List AV} {av : AV} {H : List AObj} {K : SK} (h : ACalls P f as [] av []) (ha : closedL 0 as = true) (hv : closed 0 av = true) (hK : K [] [] av) :
    ∃ pre wr v, (∀ p ∈ pre, H[p.1]? = some p.2) ∧ (∀ p ∈ wr, p.1 ∈ pre.map (·.1)) ∧ (∀ H2, (∀ p ∈ pre, H2[p.1]? = some p.2) → ACalls P f as H2 v (updH H2 wr)) ∧ K pre wr v :=
  ⟨[], [], av, by simp, by simp, fun H2 _ => h.pure H2 ha hv, hK⟩

theorem updAt_updH : ∀ (is : List Nat) (xs : List AObj) (H : List AObj), is.length = xs.length → updAt H is xs = updH H (is.zip xs)
  | [], [], H, _ => by simp [updAt, updH]
  | [], _ :: _, _, h => by simp at h
  | _ :: _, [], _, h => by simp at h
  | i :: is, x :: xs, H, h => by rw [updAt, List.zip_cons_cons, updH, updAt_updH is xs _ (by simpa using h)]

theorem dcallFrame {P : Program} {f : Nat} {as xs : List AV} {av : AV} {He He' H : List AObj} {K : SK} (is : List Nat) (h : ACalls P f as He av He') (hle : He.length = is.length) (hlen : He'.length = is.length) (hnd : is.Nodup)
    (hx : xs = renL is as) (hH : ∀ p ∈ is.zip (He.map (renO is)), H[p.1]? = some p.2) (hK : K (is.zip (He.map (renO is))) (is.zip (He'.map (renO is))) (ren is av)) :
    ∃ pre wr v, (∀ p ∈ pre, H[p.1]? = some p.2) ∧ (∀ p ∈ wr, p.1 ∈ pre.map (·.1)) ∧ (∀ H2, (∀ p ∈ pre, H2[p.1]? = some p.2) → ACalls P f xs H2 v (updH H2 wr)) ∧ K pre wr v := by
  refine ⟨_, _, _, hH, fun p hp => ?_, fun H2 hH2 => ?_, hK⟩
  · show p.1 ∈ List.map Prod.fst (is.zip (He.map (renO is)))
    rw [List.map_fst_zip (by simp [hle])]
    exact (List.of_mem_zip hp).1
  · rw [← updAt_updH _ _ _ (by simp [hlen])]
    subst hx
    refine h.frame is hle hlen hnd fun j p x hj hx => ?_
    have := hH2 (p, renO is x) (List.mem_of_getElem? (i := j) (by rw [List.getElem?_zip_eq_some]; exact ⟨hj, by rw [List.getElem?_map, hx]; rfl⟩))
    exact this

end Go.Ab
namespace Go.Ab
open Go
set_option linter.unusedSectionVars false
variable [Glob]

inductive TagOf {α : Type} (a : α) : Type
  | mk
def cbv {α : Type} (x : α) (F : α → Prop) (_ : TagOf F) : Prop := F x
@[go_sem] theorem cbv_eq {α : Type} (x : α) (F : α → Prop) (u : TagOf F) : cbv x F u = F x := rfl

def onBox (x : Option AObj) (K : Nat → List AV → Prop) : Prop := match x with | some (.box e cs) => K e cs | _ => False
def onReg (x : Option AObj) (K : Nat → Nat → List (List AV) → Prop) : Prop := match x with | some (.reg e sz l) => K e sz l | _ => False
def onMap (x : Option AObj) (K : List (AV × AV) → Prop) : Prop := match x with | some (.map kvs) => K kvs | _ => False
def onSome {α : Type} (x : Option α) (K : α → Prop) : Prop := match x with | some v => K v | none => False
@[go_sem ↓] theorem onBox_box (e : Nat) (cs : List AV) (K : Nat → List AV → Prop) : onBox (some (.box e cs)) K = K e cs := rfl
@[go_sem ↓] theorem onReg_reg (e sz : Nat) (l : List (List AV)) (K : Nat → Nat → List (List AV) → Prop) : onReg (some (.reg e sz l)) K = K e sz l := rfl
@[go_sem ↓] theorem onMap_map (kvs : List (AV × AV)) (K : List (AV × AV) → Prop) : onMap (some (.map kvs)) K = K kvs := rfl
@[go_sem ↓] theorem onSome_some {α : Type} (v : α) (K : α → Prop) : onSome (some v) K = K v := rfl
def grd (x : AV) (w : Bool) (p q : Prop) : Prop := match x with | .bool b => if b = w then p else q | .tup [] => q | _ => False

def callE (P : Program) (f : Nat) (as : List AV) (H : List AObj) (K : List AObj → AV → Prop) (_ : TagOf K) : Prop := ACallsR P f as H fun v H' => K H' v
def nextM (x : AV) (H : List AObj) (K : List AObj → AV → Prop) (_ : TagOf K) : Prop := mapNextK x H K
def onIter (x : Option AObj) (K : Nat → Nat → List Nat → Prop) : Prop := match x with | some (.iter m s l) => K m s l | _ => False
@[go_sem ↓] theorem onIter_iter (m s : Nat) (l : List Nat) (K : Nat → Nat → List Nat → Prop) : onIter (some (.iter m s l)) K = K m s l := rfl
def callDE (P : Program) (f : Nat) (as : List AV) (H : List AObj) (K : SK) (_ : TagOf K) : Prop := ∃ pre wr v, (∀ p ∈ pre, H[p.1]? = some p.2) ∧ (∀ p ∈ wr, p.1 ∈ pre.map (·.1)) ∧
      (∀ H2, (∀ p ∈ pre, H2[p.1]? = some p.2) → ACalls P f as H2 v (updH H2 wr)) ∧ K pre wr v
def loopE (P : Program) (k : Nat) (c : ACode) (Q : Exit → St → Prop) (T : List AV) (H : List AObj) (_ : TagOf (c, Q)) : Prop := awp P k (.loop c) Q ⟨T, H⟩

section eqs
variable {K : SK} {H : List AObj}
@[go_sem ↓] theorem q_awpOps_nil {P : Program} {K : St → Prop} {σ : St} : awpOps P [] K σ = K σ := rfl
@[go_sem ↓] theorem q_awpOps {P : Program} {d : Option Nat} {op : AOp} {g : Option (Nat × Bool)} {r : List AOper} {K : St → Prop} {T : List AV} {H : List AObj} :
    awpOps P (⟨d, op, g⟩ :: r) K ⟨T, H⟩ = guardK g T (execA P op T H fun H' v => cbv (putT T d v) (fun T' => cbv (H') (fun H'' => awpOps P r K ⟨T', H''⟩) .mk) .mk) (cbv (putT T d (.tup [])) (fun T' => awpOps P r K ⟨T', H⟩) .mk) := rfl
@[go_sem ↓] theorem q_awpD_nil {P : Program} {K : List (List Nat × List Nat) → St → Prop} {n : Nat} {acc : List (List Nat × List Nat)} {σ : St} : awpD P K [] n acc σ = K acc σ := rfl
@[go_sem ↓] theorem q_awpD {P : Program} {K : List (List Nat × List Nat) → St → Prop} {d : Option Nat} {op : AOp} {g : Option (Nat × Bool)} {r : List AOper} {n : Nat} {acc : List (List Nat × List Nat)} {T : List AV} {H : List AObj} :
    awpD P K (⟨d, op, g⟩ :: r) n acc ⟨T, H⟩ = guardK g T (execD P op T H n fun pre wr v => cbv (if op.allocs then n + 1 else n) (fun n' => cbv (acc ++ [(pre.map (·.1), wr.map (·.1))]) (fun acc' => cbv (putT T d v) (fun T' => cbv (updH H wr) (fun H' => awpD P K r n' acc' ⟨T', H'⟩) .mk) .mk) .mk) .mk)
      (cbv (if op.allocs then n + 1 else n) (fun n' => cbv (acc ++ [([], [])]) (fun acc' => cbv (putT T d (.tup [])) (fun T' => awpD P K r n' acc' ⟨T', H⟩) .mk) .mk) .mk) := rfl
@[go_sem ↓] theorem q_drawK {P : Program} {l : List AOper} {bs : List Nat} {Q : St → Prop} {T : List AV} {H : List AObj} :
    drawK P l bs Q ⟨T, H⟩ = (cbv (H.length) (fun n => cbv (H ++ List.replicate (allocN l) .unborn) (fun H' => awpD P (fun fps s => objOrd bs fps = true ∧ Q s) l n [] ⟨T, H'⟩) .mk) .mk) := rfl
@[go_sem ↓] theorem q_guard_none {T : List AV} {p q : Prop} : guardK none T p q = p := rfl
@[go_sem ↓] theorem q_guard_some {T : List AV} {d : Nat} {w : Bool} {p q : Prop} : guardK (some (d, w)) T p q = (cbv (Opd.ev T (.t d)) (fun x => grd x w p q) .mk) := by
  show (match T[d]? with | some (.bool b) => _ | some (.tup []) => _ | _ => False) = grd ((T[d]?).getD .junk) w p q
  unfold grd
  cases T[d]? with
  | none => rfl
  | some x => cases x with
    | tup l => cases l <;> rfl
    | _ => rfl
@[go_sem ↓] theorem q_grd_bool {b w : Bool} {p q : Prop} : grd (.bool b) w p q = if b = w then p else q := rfl
@[go_sem ↓] theorem q_grd_skip {w : Bool} {p q : Prop} : grd (.tup []) w p q = q := rfl
@[go_sem ↓] theorem q_cond {b : Bool} {p q : Prop} : condK (.bool b) p q = if b then p else q := rfl
@[go_sem ↓] theorem q_thenK_normal {n : St → Prop} {Q : Exit → St → Prop} {s : St} : thenK n Q .normal s = n s := rfl
@[go_sem ↓] theorem q_thenK_ret {n : St → Prop} {Q : Exit → St → Prop} {s : St} : thenK n Q .ret s = Q .ret s := rfl
@[go_sem ↓] theorem q_thenK_exit {n : St → Prop} {Q : Exit → St → Prop} {s : St} {i : Nat} : thenK n Q (.exit i) s = Q (.exit i) s := rfl
@[go_sem ↓] theorem q_blockK_normal {i : Nat} {Q : Exit → St → Prop} {s : St} : blockK i Q .normal s = Q .normal s := rfl
@[go_sem ↓] theorem q_blockK_ret {i : Nat} {Q : Exit → St → Prop} {s : St} : blockK i Q .ret s = Q .ret s := rfl
@[go_sem ↓] theorem q_blockK_exit {i j : Nat} {Q : Exit → St → Prop} {s : St} : blockK i Q (.exit j) s = if j = i then Q .normal s else Q (.exit j) s := rfl
@[go_sem ↓] theorem q_awpF_skip {P : Program} {k : Nat} {Q : Exit → St → Prop} {σ : St} : awpF P k .skip Q σ = Q .normal σ := rfl
@[go_sem ↓] theorem q_awpF_ops {P : Program} {k : Nat} {l : List AOper} {Q : Exit → St → Prop} {σ : St} : awpF P k (.ops l) Q σ = awpOps P l (Q .normal) σ := rfl
@[go_sem ↓] theorem q_awpF_draw {P : Program} {k : Nat} {l : List AOper} {bs : List Nat} {Q : Exit → St → Prop} {σ : St} : awpF P k (.draw l bs) Q σ = drawK P l bs (Q .normal) σ := rfl
@[go_sem ↓] theorem q_awpF_seq {P : Program} {k : Nat} {a b : ACode} {Q : Exit → St → Prop} {σ : St} : awpF P k (.seq a b) Q σ = awpF P k a (thenK (awpF P k b Q) Q) σ := rfl
@[go_sem ↓] theorem q_awpF_cond {P : Program} {k : Nat} {c : Opd} {a b : ACode} {Q : Exit → St → Prop} {T : List AV} {H : List AObj} : awpF P k (.cond c a b) Q ⟨T, H⟩ = (cbv (c.ev T) (fun v => condK v (awpF P k a Q ⟨T, H⟩) (awpF P k b Q ⟨T, H⟩)) .mk) := rfl
@[go_sem ↓] theorem q_awpF_block {P : Program} {k : Nat} {i : Nat} {c : ACode} {Q : Exit → St → Prop} {σ : St} : awpF P k (.block i c) Q σ = awpF P k c (blockK i Q) σ := rfl
@[go_sem ↓] theorem q_awpF_exit {P : Program} {k : Nat} {i : Nat} {Q : Exit → St → Prop} {σ : St} : awpF P k (.exit i) Q σ = Q (.exit i) σ := rfl
@[go_sem ↓] theorem q_awpF_ret {P : Program} {k : Nat} {Q : Exit → St → Prop} {σ : St} : awpF P k .ret Q σ = Q .ret σ := rfl
@[go_sem ↓] theorem q_awpF_loop {P : Program} {k : Nat} {c : ACode} {Q : Exit → St → Prop} {T : List AV} {H : List AObj} : awpF P k (.loop c) Q ⟨T, H⟩ = loopE P k c Q T H .mk := rfl
@[go_sem ↓] theorem q_a_mov (x : Opd) {P : Program} {T : List AV} {K : List AObj → AV → Prop} : execA P (.mov x) T H K = (K (updP H []) (x.ev T)) := rfl
@[go_sem ↓] theorem q_d_mov (x : Opd) {P : Program} {T : List AV} {nid : Nat} : execD P (.mov x) T H nid K = (K [] [] (x.ev T)) := true_and _
@[go_sem ↓] theorem q_a_pick (q a b : Opd) {P : Program} {T : List AV} {K : List AObj → AV → Prop} : execA P (.pick q a b) T H K = (cbv (q.ev T) (fun qv => cbv (a.ev T) (fun av => cbv (b.ev T) (fun bv => sPick qv av bv (fun (_ wr : List (Nat × AObj)) v => K (updP H wr) v)) .mk) .mk) .mk) := rfl
@[go_sem ↓] theorem q_d_pick (q a b : Opd) {P : Program} {T : List AV} {nid : Nat} : execD P (.pick q a b) T H nid K = (cbv (q.ev T) (fun qv => cbv (a.ev T) (fun av => cbv (b.ev T) (fun bv => sPick qv av bv K) .mk) .mk) .mk) := true_and _
@[go_sem ↓] theorem q_a_alloc (e : Nat) (zero : List AV) {P : Program} {T : List AV} {K : List AObj → AV → Prop} : execA P (.alloc e zero) T H K = (K (updP H [(H.length, .box e zero)]) (.ptr H.length 0)) := rfl
@[go_sem ↓] theorem q_d_alloc (e : Nat) (zero : List AV) {P : Program} {T : List AV} {nid : Nat} : execD P (.alloc e zero) T H nid K = (H[nid]? = some .unborn ∧ K [(nid, .unborn)] [(nid, .box e zero)] (.ptr nid 0)) := rfl
@[go_sem ↓] theorem q_a_box (e : Nat) (x : Opd) {P : Program} {T : List AV} {K : List AObj → AV → Prop} : execA P (.box e x) T H K = (cbv (x.ev T) (fun xv => (cellsOk xv = true ∧ K (updP H [(H.length, .box e (cellsOf xv))]) (.ptr H.length 0))) .mk) := rfl
@[go_sem ↓] theorem q_d_box (e : Nat) (x : Opd) {P : Program} {T : List AV} {nid : Nat} : execD P (.box e x) T H nid K = (H[nid]? = some .unborn ∧ cbv (x.ev T) (fun xv => (cellsOk xv = true ∧ K [(nid, .unborn)] [(nid, .box e (cellsOf xv))] (.ptr nid 0))) .mk) := rfl
@[go_sem ↓] theorem q_a_build (zero : List AV) (parts : List (Nat × Nat × Opd)) {P : Program} {T : List AV} {K : List AObj → AV → Prop} : execA P (.build zero parts) T H K = (cbv (evParts T parts) (fun ps => fillA zero ps (fun cs => K (updP H []) (.agg cs))) .mk) := rfl
@[go_sem ↓] theorem q_d_build (zero : List AV) (parts : List (Nat × Nat × Opd)) {P : Program} {T : List AV} {nid : Nat} : execD P (.build zero parts) T H nid K = (cbv (evParts T parts) (fun ps => fillA zero ps (fun cs => K [] [] (.agg cs))) .mk) := true_and _
@[go_sem ↓] theorem q_a_bslice (e sz : Nat) (own : Bool) (parts : List Opd) {P : Program} {T : List AV} {K : List AObj → AV → Prop} : execA P (.bslice e sz own parts) T H K = (cbv (parts.map fun x => x.ev T) (fun xs => sBslice e sz own xs H.length (fun (_ wr : List (Nat × AObj)) v => K (updP H wr) v)) .mk) := rfl
@[go_sem ↓] theorem q_d_bslice (e sz : Nat) (own : Bool) (parts : List Opd) {P : Program} {T : List AV} {nid : Nat} : execD P (.bslice e sz own parts) T H nid K = ((if own then H[nid]? = some .unborn else True) ∧ cbv (parts.map fun x => x.ev T) (fun xs => sBslice e sz own xs nid K) .mk) := rfl
@[go_sem ↓] theorem q_a_load (n : Option Nat) (x : Opd) {P : Program} {T : List AV} {K : List AObj → AV → Prop} : execA P (.load n x) T H K = (cbv (x.ev T) (fun xv => sLoad n xv H (fun (_ wr : List (Nat × AObj)) v => K (updP H wr) v)) .mk) := rfl
@[go_sem ↓] theorem q_d_load (n : Option Nat) (x : Opd) {P : Program} {T : List AV} {nid : Nat} : execD P (.load n x) T H nid K = (cbv (x.ev T) (fun xv => sLoad n xv H K) .mk) := true_and _
@[go_sem ↓] theorem q_a_store (n : Option Nat) (a x : Opd) {P : Program} {T : List AV} {K : List AObj → AV → Prop} : execA P (.store n a x) T H K = (cbv (a.ev T) (fun av => cbv (x.ev T) (fun xv => sStore n av xv H (fun (_ wr : List (Nat × AObj)) v => K (updP H wr) v)) .mk) .mk) := rfl
@[go_sem ↓] theorem q_d_store (n : Option Nat) (a x : Opd) {P : Program} {T : List AV} {nid : Nat} : execD P (.store n a x) T H nid K = (cbv (a.ev T) (fun av => cbv (x.ev T) (fun xv => sStore n av xv H K) .mk) .mk) := true_and _
@[go_sem ↓] theorem q_a_nilchk (x : Opd) {P : Program} {T : List AV} {K : List AObj → AV → Prop} : execA P (.nilchk x) T H K = (cbv (x.ev T) (fun xv => sNilchk xv H (fun (_ wr : List (Nat × AObj)) v => K (updP H wr) v)) .mk) := rfl
@[go_sem ↓] theorem q_d_nilchk (x : Opd) {P : Program} {T : List AV} {nid : Nat} : execD P (.nilchk x) T H nid K = (cbv (x.ev T) (fun xv => sNilchk xv H K) .mk) := true_and _
@[go_sem ↓] theorem q_a_bin (op : BinOp) (x y : Opd) {P : Program} {T : List AV} {K : List AObj → AV → Prop} : execA P (.bin op x y) T H K = (cbv (x.ev T) (fun xv => cbv (y.ev T) (fun yv => sBin op xv yv (fun (_ wr : List (Nat × AObj)) v => K (updP H wr) v)) .mk) .mk) := rfl
@[go_sem ↓] theorem q_d_bin (op : BinOp) (x y : Opd) {P : Program} {T : List AV} {nid : Nat} : execD P (.bin op x y) T H nid K = (cbv (x.ev T) (fun xv => cbv (y.ev T) (fun yv => sBin op xv yv K) .mk) .mk) := true_and _
@[go_sem ↓] theorem q_a_binb (neg : Bool) (x y : Opd) {P : Program} {T : List AV} {K : List AObj → AV → Prop} : execA P (.binb neg x y) T H K = (cbv (x.ev T) (fun xv => cbv (y.ev T) (fun yv => sBinb neg xv yv (fun (_ wr : List (Nat × AObj)) v => K (updP H wr) v)) .mk) .mk) := rfl
@[go_sem ↓] theorem q_d_binb (neg : Bool) (x y : Opd) {P : Program} {T : List AV} {nid : Nat} : execD P (.binb neg x y) T H nid K = (cbv (x.ev T) (fun xv => cbv (y.ev T) (fun yv => sBinb neg xv yv K) .mk) .mk) := true_and _
@[go_sem ↓] theorem q_a_eqs (neg : Bool) (ds : List (Option KD)) (x y : Opd) {P : Program} {T : List AV} {K : List AObj → AV → Prop} : execA P (.eqs neg ds x y) T H K = (cbv (x.ev T) (fun xv => cbv (y.ev T) (fun yv => sEqs' neg ds xv yv (fun (_ wr : List (Nat × AObj)) v => K (updP H wr) v)) .mk) .mk) := rfl
@[go_sem ↓] theorem q_d_eqs (neg : Bool) (ds : List (Option KD)) (x y : Opd) {P : Program} {T : List AV} {nid : Nat} : execD P (.eqs neg ds x y) T H nid K = (cbv (x.ev T) (fun xv => cbv (y.ev T) (fun yv => sEqs' neg ds xv yv K) .mk) .mk) := true_and _
@[go_sem ↓] theorem q_a_un (op : UnOp) (x : Opd) {P : Program} {T : List AV} {K : List AObj → AV → Prop} : execA P (.un op x) T H K = (cbv (x.ev T) (fun xv => sUn op xv (fun (_ wr : List (Nat × AObj)) v => K (updP H wr) v)) .mk) := rfl
@[go_sem ↓] theorem q_d_un (op : UnOp) (x : Opd) {P : Program} {T : List AV} {nid : Nat} : execD P (.un op x) T H nid K = (cbv (x.ev T) (fun xv => sUn op xv K) .mk) := true_and _
@[go_sem ↓] theorem q_a_conv (k : IntKind) (x : Opd) {P : Program} {T : List AV} {K : List AObj → AV → Prop} : execA P (.conv k x) T H K = (cbv (x.ev T) (fun xv => sConv k xv (fun (_ wr : List (Nat × AObj)) v => K (updP H wr) v)) .mk) := rfl
@[go_sem ↓] theorem q_d_conv (k : IntKind) (x : Opd) {P : Program} {T : List AV} {nid : Nat} : execD P (.conv k x) T H nid K = (cbv (x.ev T) (fun xv => sConv k xv K) .mk) := true_and _
@[go_sem ↓] theorem q_a_mkfn (fn : Fn) (first caps : List Opd) {P : Program} {T : List AV} {K : List AObj → AV → Prop} : execA P (.mkfn fn first caps) T H K = (K (updP H []) (.fn fn (first.map fun x => x.ev T) (caps.map fun x => x.ev T))) := rfl
@[go_sem ↓] theorem q_d_mkfn (fn : Fn) (first caps : List Opd) {P : Program} {T : List AV} {nid : Nat} : execD P (.mkfn fn first caps) T H nid K = (K [] [] (.fn fn (first.map fun x => x.ev T) (caps.map fun x => x.ev T))) := true_and _
@[go_sem ↓] theorem q_a_faddr (off : Nat) (x : Opd) {P : Program} {T : List AV} {K : List AObj → AV → Prop} : execA P (.faddr off x) T H K = (cbv (x.ev T) (fun xv => sFaddr off xv H (fun (_ wr : List (Nat × AObj)) v => K (updP H wr) v)) .mk) := rfl
@[go_sem ↓] theorem q_d_faddr (off : Nat) (x : Opd) {P : Program} {T : List AV} {nid : Nat} : execD P (.faddr off x) T H nid K = (cbv (x.ev T) (fun xv => sFaddr off xv H K) .mk) := true_and _
@[go_sem ↓] theorem q_a_field (off : Nat) (n : Option Nat) (x : Opd) {P : Program} {T : List AV} {K : List AObj → AV → Prop} : execA P (.field off n x) T H K = (cbv (x.ev T) (fun xv => sField off n xv (fun (_ wr : List (Nat × AObj)) v => K (updP H wr) v)) .mk) := rfl
@[go_sem ↓] theorem q_d_field (off : Nat) (n : Option Nat) (x : Opd) {P : Program} {T : List AV} {nid : Nat} : execD P (.field off n x) T H nid K = (cbv (x.ev T) (fun xv => sField off n xv K) .mk) := true_and _
@[go_sem ↓] theorem q_a_iaddr (arr : Option Nat) (sz : Nat) (x i : Opd) {P : Program} {T : List AV} {K : List AObj → AV → Prop} : execA P (.iaddr arr sz x i) T H K = (cbv (x.ev T) (fun xv => cbv (i.ev T) (fun iv => sIaddr arr sz xv iv H (fun (_ wr : List (Nat × AObj)) v => K (updP H wr) v)) .mk) .mk) := rfl
@[go_sem ↓] theorem q_d_iaddr (arr : Option Nat) (sz : Nat) (x i : Opd) {P : Program} {T : List AV} {nid : Nat} : execD P (.iaddr arr sz x i) T H nid K = (cbv (x.ev T) (fun xv => cbv (i.ev T) (fun iv => sIaddr arr sz xv iv H K) .mk) .mk) := true_and _
@[go_sem ↓] theorem q_a_idx (x i : Opd) {P : Program} {T : List AV} {K : List AObj → AV → Prop} : execA P (.idx x i) T H K = (cbv (x.ev T) (fun xv => cbv (i.ev T) (fun iv => sIdx xv iv (fun (_ wr : List (Nat × AObj)) v => K (updP H wr) v)) .mk) .mk) := rfl
@[go_sem ↓] theorem q_d_idx (x i : Opd) {P : Program} {T : List AV} {nid : Nat} : execD P (.idx x i) T H nid K = (cbv (x.ev T) (fun xv => cbv (i.ev T) (fun iv => sIdx xv iv K) .mk) .mk) := true_and _
@[go_sem ↓] theorem q_a_len (lk : LK) (x : Opd) {P : Program} {T : List AV} {K : List AObj → AV → Prop} : execA P (.len lk x) T H K = (cbv (x.ev T) (fun xv => sLen' lk xv H (fun (_ wr : List (Nat × AObj)) v => K (updP H wr) v)) .mk) := rfl
@[go_sem ↓] theorem q_d_len (lk : LK) (x : Opd) {P : Program} {T : List AV} {nid : Nat} : execD P (.len lk x) T H nid K = (cbv (x.ev T) (fun xv => sLen' lk xv H K) .mk) := true_and _
@[go_sem ↓] theorem q_a_append (e sz bytes : Nat) (x y : Opd) {P : Program} {T : List AV} {K : List AObj → AV → Prop} : execA P (.append e sz bytes x y) T H K = (cbv (x.ev T) (fun xv => cbv (y.ev T) (fun yv => sAppend e sz bytes xv yv H H.length (fun (_ wr : List (Nat × AObj)) v => K (updP H wr) v)) .mk) .mk) := rfl
@[go_sem ↓] theorem q_d_append (e sz bytes : Nat) (x y : Opd) {P : Program} {T : List AV} {nid : Nat} : execD P (.append e sz bytes x y) T H nid K = (H[nid]? = some .unborn ∧ cbv (x.ev T) (fun xv => cbv (y.ev T) (fun yv => sAppend e sz bytes xv yv H nid K) .mk) .mk) := rfl
@[go_sem ↓] theorem q_a_extract (x : Opd) (i : Nat) {P : Program} {T : List AV} {K : List AObj → AV → Prop} : execA P (.extract x i) T H K = (cbv (x.ev T) (fun xv => sExtract xv i (fun (_ wr : List (Nat × AObj)) v => K (updP H wr) v)) .mk) := rfl
@[go_sem ↓] theorem q_d_extract (x : Opd) (i : Nat) {P : Program} {T : List AV} {nid : Nat} : execD P (.extract x i) T H nid K = (cbv (x.ev T) (fun xv => sExtract xv i K) .mk) := true_and _
@[go_sem ↓] theorem q_a_mkmap  {P : Program} {T : List AV} {K : List AObj → AV → Prop} : execA P (.mkmap) T H K = (K (updP H [(H.length, .map [])]) (.map H.length)) := rfl
@[go_sem ↓] theorem q_d_mkmap  {P : Program} {T : List AV} {nid : Nat} : execD P (.mkmap) T H nid K = (H[nid]? = some .unborn ∧ K [(nid, .unborn)] [(nid, .map [])] (.map nid)) := rfl
@[go_sem ↓] theorem q_a_lookup (d : KD) (zero : AV) (ok : Bool) (m k : Opd) {P : Program} {T : List AV} {K : List AObj → AV → Prop} : execA P (.lookup d zero ok m k) T H K = (cbv (m.ev T) (fun mv => cbv (k.ev T) (fun kv => sLookup' d zero ok mv kv H (fun (_ wr : List (Nat × AObj)) v => K (updP H wr) v)) .mk) .mk) := rfl
@[go_sem ↓] theorem q_d_lookup (d : KD) (zero : AV) (ok : Bool) (m k : Opd) {P : Program} {T : List AV} {nid : Nat} : execD P (.lookup d zero ok m k) T H nid K = (cbv (m.ev T) (fun mv => cbv (k.ev T) (fun kv => sLookup' d zero ok mv kv H K) .mk) .mk) := true_and _
@[go_sem ↓] theorem q_a_eqnil (neg : Bool) (x : Opd) {P : Program} {T : List AV} {K : List AObj → AV → Prop} : execA P (.eqnil neg x) T H K = (cbv (x.ev T) (fun xv => sEqnil neg xv H (fun (_ wr : List (Nat × AObj)) v => K (updP H wr) v)) .mk) := rfl
@[go_sem ↓] theorem q_d_eqnil (neg : Bool) (x : Opd) {P : Program} {T : List AV} {nid : Nat} : execD P (.eqnil neg x) T H nid K = (cbv (x.ev T) (fun xv => sEqnil neg xv H K) .mk) := true_and _
@[go_sem ↓] theorem q_a_slice (lk : LK) (sz : Nat) (x : Opd) (lo hi : Option Opd) {P : Program} {T : List AV} {K : List AObj → AV → Prop} : execA P (.slice lk sz x lo hi) T H K = (cbv (x.ev T) (fun xv => cbv (lo.map fun y => y.ev T) (fun lov => cbv (hi.map fun y => y.ev T) (fun hiv => sSlice lk sz xv lov hiv H (fun (_ wr : List (Nat × AObj)) v => K (updP H wr) v)) .mk) .mk) .mk) := rfl
@[go_sem ↓] theorem q_d_slice (lk : LK) (sz : Nat) (x : Opd) (lo hi : Option Opd) {P : Program} {T : List AV} {nid : Nat} : execD P (.slice lk sz x lo hi) T H nid K = (cbv (x.ev T) (fun xv => cbv (lo.map fun y => y.ev T) (fun lov => cbv (hi.map fun y => y.ev T) (fun hiv => sSlice lk sz xv lov hiv H K) .mk) .mk) .mk) := true_and _
@[go_sem ↓] theorem q_a_mapset (d : KD) (m k x : Opd) {P : Program} {T : List AV} {K : List AObj → AV → Prop} : execA P (.mapset d m k x) T H K = (cbv (m.ev T) (fun mv => cbv (k.ev T) (fun kv => cbv (x.ev T) (fun xv => sMapset' d mv kv xv H (fun (_ wr : List (Nat × AObj)) v => K (updP H wr) v)) .mk) .mk) .mk) := rfl
@[go_sem ↓] theorem q_d_mapset (d : KD) (m k x : Opd) {P : Program} {T : List AV} {nid : Nat} : execD P (.mapset d m k x) T H nid K = (cbv (m.ev T) (fun mv => cbv (k.ev T) (fun kv => cbv (x.ev T) (fun xv => sMapset' d mv kv xv H K) .mk) .mk) .mk) := true_and _
@[go_sem ↓] theorem q_a_mdel (d : KD) (m k : Opd) {P : Program} {T : List AV} {K : List AObj → AV → Prop} : execA P (.mdel d m k) T H K = (cbv (m.ev T) (fun mv => cbv (k.ev T) (fun kv => sMdel d mv kv H (fun (_ wr : List (Nat × AObj)) v => K (updP H wr) v)) .mk) .mk) := rfl
@[go_sem ↓] theorem q_d_mdel (d : KD) (m k : Opd) {P : Program} {T : List AV} {nid : Nat} : execD P (.mdel d m k) T H nid K = (cbv (m.ev T) (fun mv => cbv (k.ev T) (fun kv => sMdel d mv kv H K) .mk) .mk) := true_and _
@[go_sem ↓] theorem q_a_mrange (x : Opd) {P : Program} {T : List AV} {K : List AObj → AV → Prop} : execA P (.mrange x) T H K = (cbv (x.ev T) (fun xv => sRange xv H H.length (fun (_ wr : List (Nat × AObj)) v => K (updP H wr) v)) .mk) := rfl
@[go_sem ↓] theorem q_d_mrange (x : Opd) {P : Program} {T : List AV} {nid : Nat} : execD P (.mrange x) T H nid K = (H[nid]? = some .unborn ∧ cbv (x.ev T) (fun xv => sRange xv H nid K) .mk) := rfl
@[go_sem ↓] theorem q_a_mksl (e sz bytes : Nat) (zero : List AV) (x y : Opd) {P : Program} {T : List AV} {K : List AObj → AV → Prop} : execA P (.mksl e sz bytes zero x y) T H K = (cbv (x.ev T) (fun xv => cbv (y.ev T) (fun yv => sMksl e sz bytes zero xv yv H.length (fun (_ wr : List (Nat × AObj)) v => K (updP H wr) v)) .mk) .mk) := rfl
@[go_sem ↓] theorem q_d_mksl (e sz bytes : Nat) (zero : List AV) (x y : Opd) {P : Program} {T : List AV} {nid : Nat} : execD P (.mksl e sz bytes zero x y) T H nid K = (H[nid]? = some .unborn ∧ cbv (x.ev T) (fun xv => cbv (y.ev T) (fun yv => sMksl e sz bytes zero xv yv nid K) .mk) .mk) := rfl
@[go_sem ↓] theorem q_mksl {e sz bytes nid : Nat} {zero : List AV} {k k' : IntKind} {n m : Int} : sMksl e sz bytes zero (.int k n) (.int k' m) nid K = (n = m ∧ 0 ≤ n ∧ fits bytes n.toNat ∧ cbv (List.replicate n.toNat zero) (fun l => cbv n.toNat (fun q => K [(nid, .unborn)] [(nid, .reg e sz l)] (.own nid q)) .mk) .mk) := rfl
@[go_sem ↓] theorem q_a_mentry (x : Opd) {P : Program} {T : List AV} {K : List AObj → AV → Prop} : execA P (.mentry x) T H K = (cbv (x.ev T) (fun xv => sEntry xv H (fun (_ wr : List (Nat × AObj)) v => K (updP H wr) v)) .mk) := rfl
@[go_sem ↓] theorem q_d_mentry (x : Opd) {P : Program} {T : List AV} {nid : Nat} : execD P (.mentry x) T H nid K = (cbv (x.ev T) (fun xv => sEntry xv H K) .mk) := true_and _
@[go_sem ↓] theorem q_a_call (f : Opd) (args : List Opd) {P : Program} {T : List AV} {K : List AObj → AV → Prop} : execA P (.call f args) T H K = (cbv (f.ev T) (fun fv => cbv (args.map fun x => x.ev T) (fun as => callK P fv as H K) .mk) .mk) := rfl
@[go_sem ↓] theorem q_d_call (f : Opd) (args : List Opd) {P : Program} {T : List AV} {nid : Nat} : execD P (.call f args) T H nid K = (cbv (f.ev T) (fun fv => cbv (args.map fun x => x.ev T) (fun as => callD P fv as H K) .mk) .mk) := rfl
@[go_sem ↓] theorem q_callK {P : Program} {f : Nat} {first caps args : List AV} {K : List AObj → AV → Prop} : callK P (.fn (.func f) first caps) args H K = callE P f (first ++ args ++ caps) H K .mk := rfl
@[go_sem ↓] theorem q_callD {P : Program} {f : Nat} {first caps args : List AV} : callD P (.fn (.func f) first caps) args H K = callDE P f (first ++ args ++ caps) H K .mk := rfl
@[go_sem ↓] theorem q_pick {q : Bool} {a b : AV} : sPick (.bool q) a b K = K [] [] (if q then a else b) := by cases q <;> rfl
@[go_sem] theorem q_ite_bool {c : Prop} [Decidable c] {a b : Bool} : (if c then AV.bool a else .bool b) = .bool (if c then a else b) := by split <;> rfl
@[go_sem] theorem q_ite_int {c : Prop} [Decidable c] {k : IntKind} {a b : Int} : (if c then AV.int k a else .int k b) = .int k (if c then a else b) := by split <;> rfl
@[go_sem] theorem q_ite_str {c : Prop} [Decidable c] {a b : List UInt8} : (if c then AV.str a else .str b) = .str (if c then a else b) := by split <;> rfl
@[go_sem ↓] theorem q_ld_one {x : AV} {cs : List AV} {K : AV → Prop} : ldK none (x :: cs) K = K x := rfl
@[go_sem ↓] theorem q_ld_many {n : Nat} {cs : List AV} {K : AV → Prop} : ldK (some n) cs K = (n ≤ cs.length ∧ K (.agg (cs.take n))) := rfl
@[go_sem ↓] theorem q_load_ptr {n : Option Nat} {o off : Nat} : sLoad n (.ptr o off) H K = (cbv (H[o]?) (fun x => onBox x fun e cs => cbv (cs.drop off) (fun ds => ldK n ds (K [(o, .box e cs)] [])) .mk) .mk) := by
  show (match H[o]? with | some (.box e cs) => _ | _ => False) = onBox H[o]? _
  unfold onBox; cases H[o]? with | none => rfl | some x => cases x <;> rfl
@[go_sem ↓] theorem q_load_iptr {n : Option Nat} {cs : List AV} : sLoad n (.iptr cs) H K = ldK n cs (K [] []) := rfl
@[go_sem ↓] theorem q_load_eptr {n : Option Nat} {o m i off : Nat} : sLoad n (.eptr o m i off) H K = (cbv (H[o]?) (fun x => onReg x fun e sz l => m = l.length ∧ cbv (l[i]?) (fun y => onSome y fun r => cbv (r.drop off) (fun ds => ldK n ds (K [(o, .reg e sz l)] [])) .mk) .mk) .mk) := by
  show (match H[o]? with | some (.reg e sz l) => _ | _ => False) = onReg H[o]? _
  unfold onReg cbv onSome; cases H[o]? with | none => rfl | some x => cases x <;> first | rfl | (simp only; congr 1; split <;> simp_all)
@[go_sem ↓] theorem q_st_one {x : AV} {K : List AV → Prop} : stK none x K = (x.one = true ∧ K [x]) := rfl
@[go_sem ↓] theorem q_st_many {n : Nat} {xs : List AV} {K : List AV → Prop} : stK (some n) (.agg xs) K = (xs.length = n ∧ K xs) := rfl
@[go_sem ↓] theorem q_store_ptr {n : Option Nat} {o off : Nat} {x : AV} : sStore n (.ptr o off) x H K = (cbv (H[o]?) (fun y => onBox y fun e cs => stK n x fun xs => off + xs.length ≤ cs.length ∧ cbv (cs.take off ++ xs ++ cs.drop (off + xs.length)) (fun ds => K [(o, .box e cs)] [(o, .box e ds)] .junk) .mk) .mk) := by
  show (match H[o]? with | some (.box e cs) => _ | _ => False) = onBox H[o]? _
  unfold onBox; cases H[o]? with | none => rfl | some x => cases x <;> rfl
@[go_sem ↓] theorem q_store_eptr {n : Option Nat} {o m i off : Nat} {x : AV} : sStore n (.eptr o m i off) x H K = (cbv (H[o]?) (fun y => onReg y fun e sz l => m = l.length ∧ cbv (l[i]?) (fun y' => onSome y' fun r => stK n x fun xs => off + xs.length ≤ r.length ∧ cbv (r.take off ++ xs ++ r.drop (off + xs.length)) (fun ds => K [(o, .reg e sz l)] [(o, .reg e sz (l.set i ds))] .junk) .mk) .mk) .mk) := by
  show (match H[o]? with | some (.reg e sz l) => _ | _ => False) = onReg H[o]? _
  unfold onReg cbv onSome; cases H[o]? with | none => rfl | some x => cases x <;> first | rfl | (simp only; congr 1; split <;> simp_all)
@[go_sem ↓] theorem q_faddr_ptr {off o k : Nat} : sFaddr off (.ptr o k) H K = K [] [] (.ptr o (k + off)) := rfl
@[go_sem ↓] theorem q_faddr_iptr {off : Nat} {cs : List AV} : sFaddr off (.iptr cs) H K = K [] [] (.iptr (cs.drop off)) := rfl
@[go_sem ↓] theorem q_faddr_eptr {off o n i k : Nat} : sFaddr off (.eptr o n i k) H K = (cbv (H[o]?) (fun x => onReg x fun e sz l => n = l.length ∧ K [(o, .reg e sz l)] [] (.eptr o n i (k + off))) .mk) := by
  show (match H[o]? with | some (.reg e sz l) => _ | _ => False) = onReg H[o]? _
  unfold onReg; cases H[o]? with | none => rfl | some x => cases x <;> rfl
@[go_sem ↓] theorem q_field {off : Nat} {n : Option Nat} {cs : List AV} : sField off n (.agg cs) K = (cbv (cs.drop off) (fun ds => ldK n ds (K [] [])) .mk) := rfl
@[go_sem ↓] theorem q_iaddr_imm {sz : Nat} {l : List (List AV)} {k : IntKind} {n : Int} : sIaddr none sz (.imm l) (.int k n) H K = (0 ≤ n ∧ cbv (l[n.toNat]?) (fun x => onSome x fun r => r.length = sz ∧ K [] [] (.iptr r)) .mk) := by
  show (0 ≤ n ∧ match l[n.toNat]? with | some r => _ | none => False) = (0 ≤ n ∧ onSome l[n.toNat]? _)
  unfold onSome; cases l[n.toNat]? <;> rfl
@[go_sem ↓] theorem q_iaddr_own {sz o m : Nat} {k : IntKind} {n : Int} : sIaddr none sz (.own o m) (.int k n) H K = (0 ≤ n ∧ cbv (H[o]?) (fun x => onReg x fun e sz' l => m = l.length ∧ sz' = sz ∧ n.toNat < m ∧ K [(o, .reg e sz' l)] [] (.eptr o m n.toNat 0)) .mk) := by
  show (0 ≤ n ∧ match H[o]? with | some (.reg e sz l) => _ | _ => False) = (0 ≤ n ∧ onReg H[o]? _)
  unfold onReg; cases H[o]? with | none => rfl | some x => cases x <;> rfl
@[go_sem ↓] theorem q_iaddr_arrp {len sz o off : Nat} {k : IntKind} {n : Int} : sIaddr (some len) sz (.ptr o off) (.int k n) H K = (0 ≤ n ∧ n.toNat < len ∧ K [] [] (.ptr o (off + n.toNat * sz))) := rfl
@[go_sem ↓] theorem q_iaddr_arri {len sz : Nat} {cs : List AV} {k : IntKind} {n : Int} : sIaddr (some len) sz (.iptr cs) (.int k n) H K = (0 ≤ n ∧ n.toNat < len ∧ K [] [] (.iptr (cs.drop (n.toNat * sz)))) := rfl
@[go_sem ↓] theorem q_idx {s : List UInt8} {k : IntKind} {n : Int} : sIdx (.str s) (.int k n) K = (0 ≤ n ∧ cbv (s[n.toNat]?) (fun x => onSome x fun b => K [] [] (.int .u8 b.toNat)) .mk) := by
  show (0 ≤ n ∧ match s[n.toNat]? with | some r => _ | none => False) = (0 ≤ n ∧ onSome s[n.toNat]? _)
  unfold onSome; cases s[n.toNat]? <;> rfl
@[go_sem ↓] theorem q_len_str {s : List UInt8} : sLen' .str (.str s) H K = K [] [] (.int .i64 s.length) := rfl
@[go_sem ↓] theorem q_len_nils : sLen' .sl .nils H K = K [] [] (.int .i64 0) := rfl
@[go_sem ↓] theorem q_len_imm {l : List (List AV)} : sLen' .sl (.imm l) H K = K [] [] (.int .i64 l.length) := rfl
@[go_sem ↓] theorem q_len_own {o n : Nat} : sLen' .sl (.own o n) H K = (cbv (H[o]?) (fun x => onReg x fun e sz l => n = l.length ∧ K [(o, .reg e sz l)] [] (.int .i64 n)) .mk) := by
  show (match H[o]? with | some (.reg e sz l) => _ | _ => False) = onReg H[o]? _
  unfold onReg; cases H[o]? with | none => rfl | some x => cases x <;> rfl
@[go_sem ↓] theorem q_len_nilm : sLen' .mp .nilm H K = K [] [] (.int .i64 0) := rfl
@[go_sem ↓] theorem q_len_map {o : Nat} : sLen' .mp (.map o) H K = (cbv (H[o]?) (fun x => onMap x fun kvs => K [(o, .map kvs)] [] (.int .i64 (liveN kvs))) .mk) := by
  show (match H[o]? with | some (.map kvs) => _ | _ => False) = onMap H[o]? _
  unfold onMap; cases H[o]? with | none => rfl | some x => cases x <;> rfl
@[go_sem ↓] theorem q_rows_nils {K : List (Nat × AObj) → List (List AV) → Prop} : sRows .nils H K = K [] [] := rfl
@[go_sem ↓] theorem q_rows_imm {l : List (List AV)} {K : List (Nat × AObj) → List (List AV) → Prop} : sRows (.imm l) H K = K [] l := rfl
@[go_sem ↓] theorem q_rows_own {o n : Nat} {K : List (Nat × AObj) → List (List AV) → Prop} : sRows (.own o n) H K = (cbv (H[o]?) (fun x => onReg x fun e sz l => n = l.length ∧ K [(o, .reg e sz l)] l) .mk) := by
  show (match H[o]? with | some (.reg e sz l) => _ | _ => False) = onReg H[o]? _
  unfold onReg; cases H[o]? with | none => rfl | some x => cases x <;> rfl
@[go_sem ↓] theorem q_rows_pre {o lo n m : Nat} {K : List (Nat × AObj) → List (List AV) → Prop} : sRows (.pre o lo n m) H K = (cbv (H[o]?) (fun x => onReg x fun e sz l => m = l.length ∧ K [(o, .reg e sz l)] ((l.drop lo).take n)) .mk) := by
  show (match H[o]? with | some (.reg e sz l) => _ | _ => False) = onReg H[o]? _
  unfold onReg; cases H[o]? with | none => rfl | some x => cases x <;> rfl
@[go_sem ↓] theorem q_eqnil_pre {neg : Bool} {o lo n m : Nat} : sEqnil neg (.pre o lo n m) H K = (cbv (H[o]?) (fun x => onReg x fun e sz l => m = l.length ∧ n ≠ 0 ∧ K [(o, .reg e sz l)] [] (.bool neg)) .mk) := by
  show (match H[o]? with | some (.reg e sz l) => _ | _ => False) = onReg H[o]? _
  unfold onReg; cases H[o]? with | none => rfl | some x => cases x <;> rfl
@[go_sem ↓] theorem q_rows_emp {a : Option Addr} {cp : Nat} {K : List (Nat × AObj) → List (List AV) → Prop} : sRows (.raw (.slice a 0 cp)) H K = K [] [] := rfl
@[go_sem ↓] theorem q_eqnil_nils {neg : Bool} : sEqnil neg .nils H K = K [] [] (.bool (!neg)) := rfl
@[go_sem ↓] theorem q_eqnil_imm {neg : Bool} {l : List (List AV)} : sEqnil neg (.imm l) H K = (l ≠ [] ∧ K [] [] (.bool neg)) := rfl
@[go_sem ↓] theorem q_eqnil_emp {neg : Bool} {a : Option Addr} {n cp : Nat} : sEqnil neg (.raw (.slice a n cp)) H K = K [] [] (.bool (if neg then !a.isNone else a.isNone)) := rfl
@[go_sem ↓] theorem q_eqnil_own {neg : Bool} {o n : Nat} : sEqnil neg (.own o n) H K = (cbv (H[o]?) (fun x => onReg x fun e sz l => n = l.length ∧ l ≠ [] ∧ K [(o, .reg e sz l)] [] (.bool neg)) .mk) := by
  show (match H[o]? with | some (.reg e sz l) => _ | _ => False) = onReg H[o]? _
  unfold onReg; cases H[o]? with | none => rfl | some x => cases x <;> rfl
@[go_sem ↓] theorem q_append_nils {e sz b nid : Nat} {y : AV} : sAppend e sz b .nils y H nid K = sRows y H fun pre ys => (∀ r ∈ ys, r.length = sz) ∧ fits b ys.length ∧ K ((nid, .unborn) :: pre) [(nid, .reg e sz ys)] (.own nid ys.length) := rfl
@[go_sem ↓] theorem q_append_own {e sz b nid o n : Nat} {y : AV} : sAppend e sz b (.own o n) y H nid K = sRows y H fun pre ys => (∀ r ∈ ys, r.length = sz) ∧ cbv (H[o]?) (fun x => onReg x fun e' sz' l => n = l.length ∧ e' = e ∧ sz' = sz ∧ fits b (l.length + ys.length) ∧ cbv (l ++ ys) (fun l' => K ((o, .reg e' sz' l) :: pre) [(o, .reg e sz l')] (.own o (l.length + ys.length))) .mk) .mk := by
  unfold sAppend
  rfl
@[go_sem ↓] theorem q_append_pre {e sz b nid o lo n m : Nat} {y : AV} : sAppend e sz b (.pre o lo n m) y H nid K = sRows y H fun pre ys => (∀ r ∈ ys, r.length = sz) ∧ cbv (H[o]?) (fun x => onReg x fun e' sz' l => m = l.length ∧ lo + n = m ∧ e' = e ∧ sz' = sz ∧ sz ≠ 1 ∧ fits b (n + ys.length) ∧ cbv (l.drop lo ++ ys) (fun l' => K ((o, .reg e' sz' l) :: (nid, .unborn) :: pre) [(o, .dead), (nid, .reg e sz l')] (.own nid (n + ys.length))) .mk) .mk := by
  unfold sAppend
  rfl
@[go_sem ↓] theorem q_fill_nil {cs : List AV} {K : List AV → Prop} : fillA cs [] K = K cs := rfl
@[go_sem ↓] theorem q_fill_cons {cs : List AV} {off size : Nat} {x : AV} {r : List (Nat × Nat × AV)} {K : List AV → Prop} : fillA cs ((off, size, x) :: r) K = (cellsOk x = true ∧ (cellsOf x).length = size ∧ off + size ≤ cs.length ∧ cbv (cs.take off ++ cellsOf x ++ cs.drop (off + size)) (fun ds => fillA ds r K) .mk) := rfl
@[go_sem ↓] theorem q_int_add {k : IntKind} {a b : Int} : sBin .add (.int k a) (.int k b) K = K [] [] (.int k (k.wrap (a + b))) := by simp [sBin]
@[go_sem ↓] theorem q_int_sub {k : IntKind} {a b : Int} : sBin .sub (.int k a) (.int k b) K = K [] [] (.int k (k.wrap (a - b))) := by simp [sBin]
@[go_sem ↓] theorem q_int_mul {k : IntKind} {a b : Int} : sBin .mul (.int k a) (.int k b) K = K [] [] (.int k (k.wrap (a * b))) := by simp [sBin]
@[go_sem ↓] theorem q_int_eql {k : IntKind} {a b : Int} : sBin .eql (.int k a) (.int k b) K = K [] [] (.bool (a == b)) := by simp [sBin]
@[go_sem ↓] theorem q_int_neq {k : IntKind} {a b : Int} : sBin .neq (.int k a) (.int k b) K = K [] [] (.bool (a != b)) := by simp [sBin]
@[go_sem ↓] theorem q_int_lss {k : IntKind} {a b : Int} : sBin .lss (.int k a) (.int k b) K = K [] [] (.bool (decide (a < b))) := by simp [sBin]
@[go_sem ↓] theorem q_int_leq {k : IntKind} {a b : Int} : sBin .leq (.int k a) (.int k b) K = K [] [] (.bool (decide (a ≤ b))) := by simp [sBin]
@[go_sem ↓] theorem q_int_gtr {k : IntKind} {a b : Int} : sBin .gtr (.int k a) (.int k b) K = K [] [] (.bool (decide (a > b))) := by simp [sBin]
@[go_sem ↓] theorem q_int_geq {k : IntKind} {a b : Int} : sBin .geq (.int k a) (.int k b) K = K [] [] (.bool (decide (a ≥ b))) := by simp [sBin]
@[go_sem ↓] theorem q_int_and {k : IntKind} {a b : Int} : sBin .and (.int k a) (.int k b) K = K [] [] (.int k (bits .and k a b)) := by simp [sBin]
@[go_sem ↓] theorem q_int_or {k : IntKind} {a b : Int} : sBin .or (.int k a) (.int k b) K = K [] [] (.int k (bits .or k a b)) := by simp [sBin]
@[go_sem ↓] theorem q_int_xor {k : IntKind} {a b : Int} : sBin .xor (.int k a) (.int k b) K = K [] [] (.int k (bits .xor k a b)) := by simp [sBin]
@[go_sem ↓] theorem q_int_quo {k : IntKind} {a b : Int} : sBin .quo (.int k a) (.int k b) K = (b ≠ 0 ∧ K [] [] (.int k (k.wrap (a.tdiv b)))) := by simp [sBin]
@[go_sem ↓] theorem q_int_rem {k : IntKind} {a b : Int} : sBin .rem (.int k a) (.int k b) K = (b ≠ 0 ∧ K [] [] (.int k (a.tmod b))) := by simp [sBin]
@[go_sem ↓] theorem q_str_add {a b : List UInt8} : sBin .add (.str a) (.str b) K = (a.length + b.length ≤ 9223372036854775807 ∧ K [] [] (.str (a ++ b))) := rfl
@[go_sem ↓] theorem q_str_eql {a b : List UInt8} : sBin .eql (.str a) (.str b) K = K [] [] (.bool (a == b)) := rfl
@[go_sem ↓] theorem q_str_neq {a b : List UInt8} : sBin .neq (.str a) (.str b) K = K [] [] (.bool (!(a == b))) := rfl
@[go_sem ↓] theorem q_str_lss {a b : List UInt8} : sBin .lss (.str a) (.str b) K = K [] [] (.bool (Op.bytesLess a b)) := rfl
@[go_sem ↓] theorem q_str_leq {a b : List UInt8} : sBin .leq (.str a) (.str b) K = K [] [] (.bool (Op.bytesLess a b || a == b)) := rfl
@[go_sem ↓] theorem q_str_gtr {a b : List UInt8} : sBin .gtr (.str a) (.str b) K = K [] [] (.bool (!(Op.bytesLess a b || a == b))) := rfl
@[go_sem ↓] theorem q_str_geq {a b : List UInt8} : sBin .geq (.str a) (.str b) K = K [] [] (.bool (!Op.bytesLess a b)) := rfl
@[go_sem ↓] theorem q_binb {neg a b : Bool} : sBinb neg (.bool a) (.bool b) K = K [] [] (.bool (if neg then !(a == b) else a == b)) := rfl
@[go_sem ↓] theorem q_eqs {neg : Bool} {ds : List (Option KD)} {xs ys : List AV} : sEqs' neg ds (.agg xs) (.agg ys) K = (kindsOk ds xs = true ∧ cbv (scalarsEq xs ys) (fun x => onSome x fun b => K [] [] (.bool (if neg then !b else b))) .mk) := by
  show (_ ∧ match scalarsEq xs ys with | some b => _ | none => False) = (_ ∧ onSome (scalarsEq xs ys) _)
  unfold onSome; cases scalarsEq xs ys <;> rfl
@[go_sem ↓] theorem q_not {b : Bool} : sUn .not (.bool b) K = K [] [] (.bool !b) := rfl
@[go_sem ↓] theorem q_neg {k : IntKind} {n : Int} : sUn .neg (.int k n) K = K [] [] (.int k (k.wrap (0 - n))) := rfl
@[go_sem ↓] theorem q_conv {k k' : IntKind} {n : Int} : sConv k (.int k' n) K = K [] [] (.int k (k.wrap n)) := rfl
@[go_sem ↓] theorem q_extract {vs : List AV} {i : Nat} : sExtract (.tup vs) i K = (cbv (vs[i]?) (fun x => onSome x fun v => K [] [] v) .mk) := by
  show (match vs[i]? with | some b => _ | none => False) = onSome vs[i]? _
  unfold onSome; cases vs[i]? <;> rfl
@[go_sem ↓] theorem q_nilchk_ptr {o off : Nat} : sNilchk (.ptr o off) H K = K [] [] (.ptr o off) := rfl
@[go_sem ↓] theorem q_nilchk_iptr {cs : List AV} : sNilchk (.iptr cs) H K = K [] [] (.iptr cs) := rfl
@[go_sem ↓] theorem q_nilchk_eptr {o n i k : Nat} : sNilchk (.eptr o n i k) H K = (cbv (H[o]?) (fun x => onReg x fun e sz l => n = l.length ∧ K [(o, .reg e sz l)] [] (.eptr o n i k)) .mk) := by
  show (match H[o]? with | some (.reg e sz l) => _ | _ => False) = onReg H[o]? _
  unfold onReg; cases H[o]? with | none => rfl | some x => cases x <;> rfl
@[go_sem ↓] theorem q_lookup_nil {d : KD} {zero : AV} {k : AV} : sLookup' d zero false .nilm k H K = (keyOk d k = true ∧ K [] [] zero) := rfl
@[go_sem ↓] theorem q_lookup_nil_ok {d : KD} {zero : AV} {k : AV} : sLookup' d zero true .nilm k H K = (keyOk d k = true ∧ K [] [] (.tup [zero, .bool false])) := rfl
@[go_sem ↓] theorem q_lookup {d : KD} {zero : AV} {o : Nat} {k : AV} : sLookup' d zero false (.map o) k H K = (cbv (H[o]?) (fun x => onMap x fun kvs => keysOk d k kvs ∧ K [(o, .map kvs)] [] ((findKv k kvs).getD zero)) .mk) := by
  show (match H[o]? with | some (.map kvs) => _ | _ => False) = onMap H[o]? _
  unfold onMap; cases H[o]? with | none => rfl | some x => cases x <;> rfl
@[go_sem ↓] theorem q_lookup_ok {d : KD} {zero : AV} {o : Nat} {k : AV} : sLookup' d zero true (.map o) k H K = (cbv (H[o]?) (fun x => onMap x fun kvs => keysOk d k kvs ∧ K [(o, .map kvs)] [] (.tup [(findKv k kvs).getD zero, .bool (findKv k kvs).isSome])) .mk) := by
  show (match H[o]? with | some (.map kvs) => _ | _ => False) = onMap H[o]? _
  unfold onMap; cases H[o]? with | none => rfl | some x => cases x <;> rfl
@[go_sem ↓] theorem q_a_mnext (x : Opd) {P : Program} {T : List AV} {K : List AObj → AV → Prop} : execA P (.mnext x) T H K = (cbv (x.ev T) (fun xv => nextM xv H K .mk) .mk) := rfl
@[go_sem ↓] theorem q_range {o nid : Nat} : sRange (.map o) H nid K = (cbv (H[o]?) (fun y => onMap y fun kvs => K [(o, .map kvs), (nid, .unborn)] [(nid, .iter o kvs.length [])] (.it nid)) .mk) := by
  show (match H[o]? with | some (.map kvs) => _ | _ => False) = onMap H[o]? _
  unfold onMap; cases H[o]? with | none => rfl | some x => cases x <;> rfl
@[go_sem ↓] theorem q_entry {i : Nat} : sEntry (.it i) H K = (cbv (H[i]?) (fun y => onIter y fun m s l => cbv (H[m]?) (fun z => onMap z fun kvs => s = kvs.length ∧ cbv (l.getLast?) (fun lj => onSome lj fun j => cbv (kvs[j]?) (fun lp => onSome lp fun p => isGap p.1 = false ∧ K [(i, .iter m s l), (m, .map kvs)] [] (.tup [p.1, p.2])) .mk) .mk) .mk) .mk) := by
  show (match H[i]? with | some (.iter m s l) => _ | _ => False) = onIter H[i]? _
  unfold onIter; cases H[i]? with
  | none => rfl
  | some x => cases x with
    | iter m s l =>
      show (match H[m]? with | some (.map kvs) => _ | _ => False) = onMap H[m]? _
      unfold onMap; cases H[m]? with
      | none => rfl
      | some z => cases z with
        | map kvs =>
          show (_ ∧ (match l.getLast? with | some j => _ | none => False)) = (_ ∧ onSome l.getLast? _)
          unfold onSome; cases l.getLast? with
          | none => rfl
          | some j => simp only [cbv]; cases kvs[j]? <;> rfl
        | _ => rfl
    | _ => rfl
@[go_sem ↓] theorem q_mdel {d : KD} {o : Nat} {k : AV} : sMdel d (.map o) k H K = (cbv (H[o]?) (fun y => onMap y fun kvs => keysOk d k kvs ∧ cbv (delKv k kvs) (fun kvs' => K [(o, .map kvs)] [(o, .map kvs')] (.tup [])) .mk) .mk) := by
  show (match H[o]? with | some (.map kvs) => _ | _ => False) = onMap H[o]? _
  unfold onMap; cases H[o]? with | none => rfl | some x => cases x <;> rfl
@[go_sem ↓] theorem q_mapset {d : KD} {o : Nat} {k x : AV} : sMapset' d (.map o) k x H K = (cbv (H[o]?) (fun y => onMap y fun kvs => keysOk d k kvs ∧ cbv (setKv k x kvs) (fun kvs' => K [(o, .map kvs)] [(o, .map kvs')] .junk) .mk) .mk) := by
  show (match H[o]? with | some (.map kvs) => _ | _ => False) = onMap H[o]? _
  unfold onMap; cases H[o]? with | none => rfl | some x => cases x <;> rfl
@[go_sem ↓] theorem q_bslice_own {e sz nid : Nat} {xs : List AV} : sBslice e sz true xs nid K = ((∀ x ∈ xs, cellsOk x = true ∧ (cellsOf x).length = sz) ∧ K [(nid, .unborn)] [(nid, .reg e sz (xs.map cellsOf))] (.own nid xs.length)) := rfl
@[go_sem ↓] theorem q_bslice_imm {e sz nid : Nat} {xs : List AV} : sBslice e sz false xs nid K = ((∀ x ∈ xs, cellsOk x = true ∧ (cellsOf x).length = sz) ∧ K [] [] (.imm (xs.map cellsOf))) := by
  unfold sBslice; simp
@[go_sem ↓] theorem q_ret_normal {k0 : Nat} {res : List ARes} {av : AV} {H' : List AObj} {T : List AV} : retP k0 res av H' .normal ⟨T, H⟩ = ((resK T H res fun xs => cvR H k0 (packR xs) av) ∧ cvH H k0 H H') := rfl
@[go_sem ↓] theorem q_ret_ret {k0 : Nat} {res : List ARes} {av : AV} {H' : List AObj} {T : List AV} : retP k0 res av H' .ret ⟨T, H⟩ = ((resK T H res fun xs => cvR H k0 (packR xs) av) ∧ cvH H k0 H H') := rfl
@[go_sem ↓] theorem q_res_nil {T : List AV} {K : List AV → Prop} : resK T H [] K = K [] := rfl
@[go_sem ↓] theorem q_res_tmp {T : List AV} {t : Nat} {r : List ARes} {K : List AV → Prop} : resK T H (.tmp t :: r) K = (cbv (Opd.ev T (.t t)) (fun x => resK T H r fun xs => K (x :: xs)) .mk) := rfl
@[go_sem ↓] theorem q_res_cell {T : List AV} {t : Nat} {n : Option Nat} {r : List ARes} {K : List AV → Prop} : resK T H (.cell t n :: r) K = (cbv (Opd.ev T (.t t)) (fun x => sLoad n x H fun _ _ v => resK T H r fun xs => K (v :: xs)) .mk) := rfl
@[go_sem ↓] theorem q_bd_none {d : Nat} {K : Nat → Prop} : bdK none d K = K d := rfl
@[go_sem ↓] theorem q_bd_some {k : IntKind} {n : Int} {d : Nat} {K : Nat → Prop} : bdK (some (.int k n)) d K = (0 ≤ n ∧ cbv (n.toNat) (fun a => K a) .mk) := rfl
@[go_sem ↓] theorem q_slice_imm {sz : Nat} {l : List (List AV)} {lo hi : Option AV} : sSlice .sl sz (.imm l) lo hi H K = bdK lo 0 fun a => bdK hi l.length fun b => a ≤ b ∧ b ≤ l.length ∧ (∀ r ∈ l, r.length = sz) ∧ cbv ((l.take b).drop a) (fun l' => K [] [] (.imm l')) .mk := rfl
@[go_sem ↓] theorem q_slice_str {sz : Nat} {l : List UInt8} {lo hi : Option AV} : sSlice .str sz (.str l) lo hi H K = bdK lo 0 fun a => bdK hi l.length fun b => a ≤ b ∧ b ≤ l.length ∧ cbv ((l.take b).drop a) (fun l' => K [] [] (.str l')) .mk := rfl
@[go_sem ↓] theorem q_slice_own {sz o n : Nat} {lo hi : Option AV} : sSlice .sl sz (.own o n) lo hi H K = (cbv (H[o]?) (fun x => onReg x fun e sz' l => n = l.length ∧ sz' = sz ∧ bdK lo 0 fun a => bdK hi n fun b => a ≤ b ∧ b ≤ n ∧ K [(o, .reg e sz' l)] [] (.pre o a (b - a) n)) .mk) := by
  show (match H[o]? with | some (.reg e sz' l) => _ | _ => False) = onReg H[o]? _
  unfold onReg; cases H[o]? with | none => rfl | some x => cases x <;> rfl
@[go_sem ↓] theorem q_slice_pre {sz o p q m : Nat} {lo hi : Option AV} : sSlice .sl sz (.pre o p q m) lo hi H K = (cbv (H[o]?) (fun x => onReg x fun e sz' l => m = l.length ∧ sz' = sz ∧ bdK lo 0 fun a => bdK hi q fun b => a ≤ b ∧ b ≤ q ∧ K [(o, .reg e sz' l)] [] (.pre o (p + a) (b - a) m)) .mk) := by
  show (match H[o]? with | some (.reg e sz' l) => _ | _ => False) = onReg H[o]? _
  unfold onReg; cases H[o]? with | none => rfl | some x => cases x <;> rfl
@[go_sem ↓] theorem q_len_pre {o lo n m : Nat} : sLen' .sl (.pre o lo n m) H K = (cbv (H[o]?) (fun x => onReg x fun e sz l => m = l.length ∧ K [(o, .reg e sz l)] [] (.int .i64 n)) .mk) := by
  show (match H[o]? with | some (.reg e sz l) => _ | _ => False) = onReg H[o]? _
  unfold onReg; cases H[o]? with | none => rfl | some x => cases x <;> rfl
@[go_sem ↓] theorem q_iaddr_pre {sz o lo q m : Nat} {k : IntKind} {n : Int} : sIaddr none sz (.pre o lo q m) (.int k n) H K = (0 ≤ n ∧ cbv (H[o]?) (fun x => onReg x fun e sz' l => m = l.length ∧ sz' = sz ∧ n.toNat < q ∧ K [(o, .reg e sz' l)] [] (.eptr o m (lo + n.toNat) 0)) .mk) := by
  show (0 ≤ n ∧ (match H[o]? with | some (.reg e sz' l) => _ | _ => False)) = (0 ≤ n ∧ onReg H[o]? _)
  unfold onReg; cases H[o]? with | none => rfl | some x => cases x <;> rfl
@[go_sem ↓] theorem q_slice_nils {sz : Nat} {lo hi : Option AV} : sSlice .sl sz .nils lo hi H K = bdK lo 0 fun a => bdK hi 0 fun b => a ≤ b ∧ b ≤ 0 ∧ K [] [] .nils := rfl
@[go_sem ↓] theorem q_a_ext (k : XK) (xs : List Opd) {P : Program} {T : List AV} {K : List AObj → AV → Prop} : execA P (.ext k xs) T H K = (cbv (xs.map fun x => x.ev T) (fun vs => sExt k vs H (fun (_ wr : List (Nat × AObj)) v => K (updP H wr) v)) .mk) := rfl
@[go_sem ↓] theorem q_d_ext (k : XK) (xs : List Opd) {P : Program} {T : List AV} {nid : Nat} : execD P (.ext k xs) T H nid K = (cbv (xs.map fun x => x.ev T) (fun vs => sExt k vs H K) .mk) := true_and _
@[go_sem ↓] theorem onS_some (s : List UInt8) (K : List UInt8 → Prop) : onS (some s) K = K s := rfl
@[go_sem ↓] theorem q_b2s_nils : sExt .b2s [.nils] H K = K [] [] (.str []) := rfl
@[go_sem ↓] theorem q_b2s_imm {l : List (List AV)} : sExt .b2s [.imm l] H K = (cbv (unb l) (fun x => onS x fun s => K [] [] (.str s)) .mk) := rfl
@[go_sem ↓] theorem q_b2s_own {o n : Nat} : sExt .b2s [.own o n] H K = (cbv (H[o]?) (fun x => onReg x fun e sz l => n = l.length ∧ cbv (unb l) (fun y => onS y fun s => K [(o, .reg e sz l)] [] (.str s)) .mk) .mk) := by
  show (match H[o]? with | some (.reg e sz l) => _ | _ => False) = onReg H[o]? _
  unfold onReg; cases H[o]? with | none => rfl | some x => cases x <;> rfl
@[go_sem ↓] theorem q_b2s_win {o lo n : Nat} : sExt .b2s [.win o lo n] H K = (cbv (H[o]?) (fun x => onBox x fun e cs => lo + n ≤ cs.length ∧ cbv (unb (((cs.drop lo).take n).map fun x => [x])) (fun y => onS y fun s => K [(o, .box e cs)] [] (.str s)) .mk) .mk) := by
  show (match H[o]? with | some (.box e cs) => _ | _ => False) = onBox H[o]? _
  unfold onBox; cases H[o]? with | none => rfl | some x => cases x <;> rfl
@[go_sem ↓] theorem q_s2b {s : List UInt8} : sExt .s2b [.str s] H K = K [] [] (.imm (s.map bRow)) := rfl
@[go_sem ↓] theorem q_shl {k k' : IntKind} {a n : Int} : sExt (.shift true) [.int k a, .int k' n] H K = (0 ≤ n ∧ K [] [] (.int k (k.wrap (a * 2 ^ (min n.toNat k.bits))))) := rfl
@[go_sem ↓] theorem q_shr {k k' : IntKind} {a n : Int} : sExt (.shift false) [.int k a, .int k' n] H K = (0 ≤ n ∧ K [] [] (.int k (a.fdiv (2 ^ (min n.toNat k.bits))))) := rfl
@[go_sem ↓] theorem q_appStr {e o n : Nat} {s : List UInt8} : sExt (.appStr e) [.own o n, .str s] H K = (cbv (H[o]?) (fun x => onReg x fun e' sz' l => n = l.length ∧ e' = e ∧ sz' = 1 ∧ fits 1 (l.length + s.length) ∧ cbv (l ++ s.map bRow) (fun l' => K [(o, .reg e' sz' l)] [(o, .reg e 1 l')] (.own o (l.length + s.length))) .mk) .mk) := by
  show (match H[o]? with | some (.reg e sz l) => _ | _ => False) = onReg H[o]? _
  unfold onReg; cases H[o]? with | none => rfl | some x => cases x <;> rfl
@[go_sem ↓] theorem q_mkif_int {t : Nat} {k : IntKind} {n : Int} : sExt (.mkif t) [.int k n] H K = K [] [] (.raw (.iface t (.int k n))) := rfl
@[go_sem ↓] theorem q_mkif_str {t : Nat} {s : List UInt8} : sExt (.mkif t) [.str s] H K = K [] [] .ifc := rfl
@[go_sem ↓] theorem q_mkif_bool {t : Nat} {b : Bool} : sExt (.mkif t) [.bool b] H K = K [] [] .ifc := rfl
@[go_sem ↓] theorem q_mkif_junk {t : Nat} : sExt (.mkif t) [.junk] H K = K [] [] .ifc := rfl
@[go_sem ↓] theorem q_mkif_ptr {t o off : Nat} : sExt (.mkif t) [.ptr o off] H K = K [] [] .ifc := rfl
@[go_sem ↓] theorem q_mkif_raw {t : Nat} {v : Value} : sExt (.mkif t) [.raw v] H K = K [] [] .ifc := rfl
@[go_sem ↓] theorem q_mkif_own {t o n : Nat} : sExt (.mkif t) [.own o n] H K = K [] [] (.ifv t (.own o n)) := rfl
@[go_sem ↓] theorem q_mkif_agg {t : Nat} {cs : List AV} : sExt (.mkif t) [.agg cs] H K = K [] [] .ifc := rfl
@[go_sem ↓] theorem q_ifeq {neg : Bool} {ts : List Nat} {t u : Nat} {k k' : IntKind} {a b : Int} : sExt (.ifeq neg ts) [.raw (.iface t (.int k a)), .raw (.iface u (.int k' b))] H K = (t = u ∧ k = k' ∧ ts.contains t = true ∧ K [] [] (.bool ((a == b) != neg))) := rfl
@[go_sem ↓] theorem q_stop : sExt .stop [] H K = False := rfl
@[go_sem ↓] theorem q_cut {n o : Nat} {k k' : IntKind} {a b : Int} : sExt (.cut n) [.ptr o 0, .int k a, .int k' b] H K = (cbv (H[o]?) (fun x => onBox x fun e cs => cs.length = n ∧ 0 ≤ a ∧ a ≤ b ∧ a < n ∧ b ≤ n ∧ cbv (a.toNat) (fun lo => cbv ((b - a).toNat) (fun m => K [(o, .box e cs)] [] (.win o lo m)) .mk) .mk) .mk) := by
  show (match H[o]? with | some (.box e cs) => _ | _ => False) = onBox H[o]? _
  unfold onBox; cases H[o]? with | none => rfl | some x => cases x <;> rfl
@[go_sem ↓] theorem q_least {k k' : IntKind} {a b : Int} : sExt .least [.int k a, .int k' b] H K = K [] [] (.int k (if b < a then b else a)) := rfl
@[go_sem ↓] theorem q_most {k k' : IntKind} {a b : Int} : sExt .most [.int k a, .int k' b] H K = K [] [] (.int k (if b > a then b else a)) := rfl
@[go_sem ↓] theorem q_pnil_nil {neg : Bool} : sExt (.pnil neg) [.nilp] H K = K [] [] (.bool (!neg)) := rfl
@[go_sem ↓] theorem q_pnil_ptr {neg : Bool} {o off : Nat} : sExt (.pnil neg) [.ptr o off] H K = K [] [] (.bool neg) := rfl
@[go_sem ↓] theorem q_pnil_iptr {neg : Bool} {cs : List AV} : sExt (.pnil neg) [.iptr cs] H K = K [] [] (.bool neg) := rfl
@[go_sem ↓] theorem q_ifnil_nil {neg : Bool} : sExt (.ifnil neg) [.raw .nilIface] H K = K [] [] (.bool (!neg)) := rfl
@[go_sem ↓] theorem q_ifnil_some {neg : Bool} {t : TypeId} {v : Value} : sExt (.ifnil neg) [.raw (.iface t v)] H K = K [] [] (.bool neg) := rfl
@[go_sem ↓] theorem q_ifnil_ifc {neg : Bool} : sExt (.ifnil neg) [.ifc] H K = K [] [] (.bool neg) := rfl
@[go_sem ↓] theorem q_sdata {o n : Nat} : sExt .sdata [.own o n] H K = (cbv (H[o]?) (fun x => onReg x fun e sz l => n = l.length ∧ l ≠ [] ∧ K [(o, .reg e sz l)] [] (.eptr o n 0 0)) .mk) := by
  show (match H[o]? with | some (.reg e sz l) => _ | _ => False) = onReg H[o]? _
  unfold onReg; cases H[o]? with | none => rfl | some x => cases x <;> rfl
@[go_sem ↓] theorem q_ustr {e o n : Nat} {m : Int} : sExt (.ustr e) [.eptr o n 0 0, .int .i64 m] H K = (cbv (H[o]?) (fun x => onReg x fun e' sz l => e' = e ∧ n = l.length ∧ m = l.length ∧ sz = 1 ∧ l ≠ [] ∧ cbv (unb l) (fun y => onS y fun s => K [(o, .reg e' sz l)] [(o, .dead)] (.str s)) .mk) .mk) := by
  show (match H[o]? with | some (.reg e sz l) => _ | _ => False) = onReg H[o]? _
  unfold onReg; cases H[o]? with | none => rfl | some x => cases x <;> rfl
@[go_sem] theorem q_ev_v {T : List AV} {x : AV} : Opd.ev T (.v x) = x := rfl
@[go_sem] theorem q_put_none {T : List AV} {x : AV} : putT T none x = T := rfl
end eqs

end Go.Ab
