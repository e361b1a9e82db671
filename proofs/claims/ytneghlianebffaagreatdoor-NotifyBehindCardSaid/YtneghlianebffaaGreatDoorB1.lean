/- The bus: sending a notice. -/
import Derived.Test.YtneghlianebffaaGreatDoorOX
import Derived.Test.YtneghlianebffaaGreatDoorG2
import Derived.Test.YtneghlianebffaaGreatDoorA5
import Derived.Test.YtneghlianebffaaGreatDoorW3
import Derived.Test.YtneghlianebffaaGreatDoorW2
namespace Go.Ab
open Go Go.Proofs
set_option maxRecDepth 20000
structure Ntc where
  seq : Int
  kind : Int
  rc : Rcd
def ntRow (n : Ntc) : List AV := .int .i64 n.seq :: .int .i64 n.kind :: rRow n.rc
theorem ntRow_cl (k : Nat) (n : Ntc) : closedL k (ntRow n) = true := by simp [ntRow, closedL, closed, rRow_cl]
theorem ntRow_ren (is : List Nat) (n : Ntc) : renL is (ntRow n) = ntRow n := by simp [ntRow, renL, ren, rRow_ren]
theorem ntRows_cl (k : Nat) (l : List Ntc) : closedLL k (l.map ntRow) = true := closedLL_map fun x _ => ntRow_cl k x
theorem ntRows_ren (is : List Nat) : ∀ l : List Ntc, renLL is (l.map ntRow) = l.map ntRow
  | [] => rfl
  | x :: l => by rw [List.map_cons, renLL, ntRow_ren, ntRows_ren is l]
theorem bool_clm (k : Nat) (m : SMap Bool) : ∀ a b : AV, (a, b) ∈ smK AV.bool m → closed k a = true ∧ closed k b = true := fun a b h => by
  obtain ⟨x, _, hx⟩ := List.mem_map.1 h
  cases x with
  | none => cases hx; exact ⟨rfl, rfl⟩
  | some p => cases hx; exact ⟨rfl, rfl⟩
theorem sendBehind_c (w sv wv : AV) (n : Ntc) (hw : closed 1 w = true) (hs : closed 1 sv = true) (hv : closed 1 wv = true) : ACalls Tryz.prog 48 [.ptr 0 0, .agg (ntRow n)] [.box 89 [w, sv, wv, .bool true]] (.tup []) [.box 89 [w, sv, wv, .bool true]] := by
  have e : ntRow n = [.int .i64 n.seq, .int .i64 n.kind, .str n.rc.path, .int .i64 n.rc.index, .imm (n.rc.props.map aRow), .imm (n.rc.tags.map sRow), .imm (n.rc.links.map sRow), .imm (n.rc.run.map sRow), .imm (n.rc.load.map sRow), .str n.rc.name, .int .i64 n.rc.prio, .str n.rc.owner, .str n.rc.group, .int .i64 n.rc.mode] := rfl
  refine acalls_F c48_ok rfl ?_
  unfold c48
  rw [e]
  simp +decide -dsimp -implicitDefEqProofs [go_sem, hw, hs, hv]
theorem sendBehindM_c (w wv : AV) (m : SMap Bool) (n : Ntc) (hw : closed 2 w = true) (hv : closed 2 wv = true) : ACalls Tryz.prog 48 [.ptr 0 0, .agg (ntRow n)] [.box 89 [w, .map 1, wv, .bool true], .map (smK AV.bool m)] (.tup []) [.box 89 [w, .map 1, wv, .bool true], .map (smK AV.bool m)] := by
  have e : ntRow n = [.int .i64 n.seq, .int .i64 n.kind, .str n.rc.path, .int .i64 n.rc.index, .imm (n.rc.props.map aRow), .imm (n.rc.tags.map sRow), .imm (n.rc.links.map sRow), .imm (n.rc.run.map sRow), .imm (n.rc.load.map sRow), .str n.rc.name, .int .i64 n.rc.prio, .str n.rc.owner, .str n.rc.group, .int .i64 n.rc.mode] := rfl
  have hbc := fun k => bool_clm k m
  generalize smK AV.bool m = M at hbc ⊢
  refine acalls_F c48_ok rfl ?_
  unfold c48
  rw [e]
  simp +decide -dsimp -implicitDefEqProofs [go_sem, hw, hv]
  first
    | done
    | exact fun a b => hbc 2 a b
theorem bool_ren (is : List Nat) : ∀ m : SMap Bool, renKv is (smK AV.bool m) = smK AV.bool m
  | [] => rfl
  | none :: m => by
    have := bool_ren is m
    unfold smK at this ⊢
    rw [List.map_cons, renKv, this]; rfl
  | some p :: m => by
    have := bool_ren is m
    unfold smK at this ⊢
    rw [List.map_cons, renKv, this]; rfl
theorem hidB : ∀ j, j < 2 → ([0, 1, 3] : List Nat)[j]? = some j := fun j hj => by
  cases j with
  | zero => rfl
  | succ j => cases j with
    | zero => rfl
    | succ j => omega
theorem hniB {a b c : AObj} {j m s : Nat} {l : List Nat} (hj : j < 2) (h : [a, b, c][j]? = some (.iter m s l)) : a = .iter m s l ∨ b = .iter m s l := by
  cases j with
  | zero => left; simpa using h
  | succ j => cases j with
    | zero => right; simpa using h
    | succ j => omega
theorem sendA_c (w : AV) (m : SMap Bool) (n : Ntc) (_hw : ∀ k, closed k w = true) (hren : ∀ is, ren is w = w) : ACallsR Tryz.prog 48 [.ptr 0 0, .agg (ntRow n)] [.box 89 [w, .map 1, .nils, .bool false], .map (smK AV.bool m)]
    (fun v G => v = .tup [] ∧ G = [.box 89 [w, .map 1, .own 2 1, .bool false], .map (smK AV.bool (setS n.rc.path (decide (n.kind = 1)) m)), .reg 39 14 [ntRow n]]) := by
  have e : ntRow n = [.int .i64 n.seq, .int .i64 n.kind, .str n.rc.path, .int .i64 n.rc.index, .imm (n.rc.props.map aRow), .imm (n.rc.tags.map sRow), .imm (n.rc.links.map sRow), .imm (n.rc.run.map sRow), .imm (n.rc.load.map sRow), .str n.rc.name, .int .i64 n.rc.prio, .str n.rc.owner, .str n.rc.group, .int .i64 n.rc.mode] := rfl
  have hk := fun k => keys_smK AV.bool k m
  have hset : setKv (.str n.rc.path) (.bool (decide (n.kind = 1))) (smK AV.bool m) = smK AV.bool (setS n.rc.path (decide (n.kind = 1)) m) := set_smK _ _ _ _
  have hb : (n.kind == 1) = decide (n.kind = 1) := rfl
  refine acalls_W _ c48_ok ?_
  unfold c48
  rw [e]
  simp +decide -dsimp -implicitDefEqProofs [go_sem, hk, maxLen, hb, hset]
  refine endW_of (List.replicate 40 .junk) [.box 89 [w, .map 1, .own 2 1, .bool false], .map (smK AV.bool (setS n.rc.path (decide (n.kind = 1)) m)), .reg 39 14 [ntRow n]] (Wk.ren [0, 1, 3] (by decide) rfl (by decide) hidB (fun j m s l hj h => (hniB hj h).elim (fun h => by cases h) (fun h => by cases h)) ?_ (by simp +decide [rnT])) ?_
  · rw [e]
    simp +decide -dsimp -implicitDefEqProofs [go_sem, hren, bool_ren, renLL, renL, ren, renLL_aRows, renLL_sRows]
  · rw [e]
    simp +decide -dsimp -implicitDefEqProofs [go_sem, packR]
theorem sendB_c (w : AV) (m : SMap Bool) (L : List (List AV)) (n : Ntc) (hw : ∀ k, closed k w = true) (hL : ∀ k, closedLL k L = true) (hl : L.length ≤ 64) : ACalls Tryz.prog 48 [.ptr 0 0, .agg (ntRow n)] [.box 89 [w, .map 1, .own 2 L.length, .bool false], .map (smK AV.bool m), .reg 39 14 L]
    (.tup []) [.box 89 [w, .map 1, if 64 < L.length + 1 then .nils else .own 2 (L.length + 1), .bool (decide (64 < L.length + 1))], .map (smK AV.bool (setS n.rc.path (decide (n.kind = 1)) m)), .reg 39 14 (L ++ [ntRow n])] := by
  have e : ntRow n = [.int .i64 n.seq, .int .i64 n.kind, .str n.rc.path, .int .i64 n.rc.index, .imm (n.rc.props.map aRow), .imm (n.rc.tags.map sRow), .imm (n.rc.links.map sRow), .imm (n.rc.run.map sRow), .imm (n.rc.load.map sRow), .str n.rc.name, .int .i64 n.rc.prio, .str n.rc.owner, .str n.rc.group, .int .i64 n.rc.mode] := rfl
  have hk := fun k => keys_smK AV.bool k m
  have hset : setKv (.str n.rc.path) (.bool (decide (n.kind = 1))) (smK AV.bool m) = smK AV.bool (setS n.rc.path (decide (n.kind = 1)) m) := set_smK _ _ _ _
  have hb : (n.kind == 1) = decide (n.kind = 1) := rfl
  have hbc := fun k => bool_clm k (setS n.rc.path (decide (n.kind = 1)) m)
  generalize smK AV.bool (setS n.rc.path (decide (n.kind = 1)) m) = M at hset hbc ⊢
  refine acalls_F c48_ok rfl ?_
  unfold c48
  rw [e]
  by_cases h : 64 < L.length + 1
  · have h' : (64 : Int) < (L.length : Int) + 1 := by omega
    simp +decide -dsimp -implicitDefEqProofs [go_sem, hk, maxLen, hb, hset, h', h]
    exact ⟨⟨by omega, by omega⟩, .inr (hw 3), fun a b => hbc 3 a b, hL 3⟩
  · have h' : ¬ (64 : Int) < (L.length : Int) + 1 := by omega
    simp +decide -dsimp -implicitDefEqProofs [go_sem, hk, maxLen, hb, hset, h', h]
    exact ⟨⟨by omega, by omega⟩, .inr (hw 3), fun a b => hbc 3 a b, hL 3⟩
end Go.Ab
namespace Go.Ab
open Go Go.Proofs
set_option maxRecDepth 20000
theorem hidC : ∀ j, j < 3 → ([0, 1, 2, 4] : List Nat)[j]? = some j := fun j hj => by
  cases j with
  | zero => rfl
  | succ j => cases j with
    | zero => rfl
    | succ j => cases j with
      | zero => rfl
      | succ j => omega
theorem hniC {a b c d : AObj} {j m s : Nat} {l : List Nat} (hj : j < 3) (h : [a, b, c, d][j]? = some (.iter m s l)) : a = .iter m s l ∨ b = .iter m s l ∨ c = .iter m s l := by
  cases j with
  | zero => left; simpa using h
  | succ j => cases j with
    | zero => right; left; simpa using h
    | succ j => cases j with
      | zero => right; right; simpa using h
      | succ j => omega
theorem sendC_c (w : AV) (m : SMap Bool) (L : List (List AV)) (lo j : Nat) (n : Ntc) (_hw : ∀ k, closed k w = true) (hren : ∀ is, ren is w = w) (hLr : ∀ is, renLL is (L.drop lo) = L.drop lo) (hl : lo + j = L.length) (hj : j + 1 ≤ 64) : ACallsR Tryz.prog 48 [.ptr 0 0, .agg (ntRow n)] [.box 89 [w, .map 1, .pre 2 lo j L.length, .bool false], .map (smK AV.bool m), .reg 39 14 L]
    (fun v G => v = .tup [] ∧ G = [.box 89 [w, .map 1, .own 3 (j + 1), .bool false], .map (smK AV.bool (setS n.rc.path (decide (n.kind = 1)) m)), .dead, .reg 39 14 (L.drop lo ++ [ntRow n])]) := by
  have e : ntRow n = [.int .i64 n.seq, .int .i64 n.kind, .str n.rc.path, .int .i64 n.rc.index, .imm (n.rc.props.map aRow), .imm (n.rc.tags.map sRow), .imm (n.rc.links.map sRow), .imm (n.rc.run.map sRow), .imm (n.rc.load.map sRow), .str n.rc.name, .int .i64 n.rc.prio, .str n.rc.owner, .str n.rc.group, .int .i64 n.rc.mode] := rfl
  have hk := fun k => keys_smK AV.bool k m
  have hset : setKv (.str n.rc.path) (.bool (decide (n.kind = 1))) (smK AV.bool m) = smK AV.bool (setS n.rc.path (decide (n.kind = 1)) m) := set_smK _ _ _ _
  have hb : (n.kind == 1) = decide (n.kind = 1) := rfl
  have h' : ¬ (64 : Int) < (j : Int) + 1 := by omega
  refine acalls_W _ c48_ok ?_
  unfold c48
  rw [e]
  simp +decide -dsimp -implicitDefEqProofs [go_sem, hk, maxLen, hb, hset, hl, h']
  refine ⟨⟨by omega, by omega⟩, by omega, ?_⟩
  refine endW_of (List.replicate 40 .junk) [.box 89 [w, .map 1, .own 3 (j + 1), .bool false], .map (smK AV.bool (setS n.rc.path (decide (n.kind = 1)) m)), .dead, .reg 39 14 (L.drop lo ++ [ntRow n])] (Wk.ren [0, 1, 2, 4] (by decide) rfl (by decide) hidC (fun j m s l hj h => (hniC hj h).elim (fun h => by cases h) (fun h => h.elim (fun h => by cases h) (fun h => by cases h))) ?_ (by simp +decide [rnT])) ?_
  · rw [e]
    simp +decide -dsimp -implicitDefEqProofs [go_sem, hren, bool_ren, renLL, renL, ren, renLL_aRows, renLL_sRows, hLr]
  · rw [e]
    simp +decide -dsimp -implicitDefEqProofs [go_sem, packR]
theorem sendD_c (w : AV) (m : SMap Bool) (L : List (List AV)) (lo j : Nat) (n : Ntc) (_hw : ∀ k, closed k w = true) (hren : ∀ is, ren is w = w) (hLr : ∀ is, renLL is (L.drop lo) = L.drop lo) (hl : lo + j = L.length) (hj : 64 < j + 1) (hb' : j ≤ 64) : ACallsR Tryz.prog 48 [.ptr 0 0, .agg (ntRow n)] [.box 89 [w, .map 1, .pre 2 lo j L.length, .bool false], .map (smK AV.bool m), .reg 39 14 L]
    (fun v G => v = .tup [] ∧ G = [.box 89 [w, .map 1, .nils, .bool true], .map (smK AV.bool (setS n.rc.path (decide (n.kind = 1)) m)), .dead, .reg 39 14 (L.drop lo ++ [ntRow n])]) := by
  have e : ntRow n = [.int .i64 n.seq, .int .i64 n.kind, .str n.rc.path, .int .i64 n.rc.index, .imm (n.rc.props.map aRow), .imm (n.rc.tags.map sRow), .imm (n.rc.links.map sRow), .imm (n.rc.run.map sRow), .imm (n.rc.load.map sRow), .str n.rc.name, .int .i64 n.rc.prio, .str n.rc.owner, .str n.rc.group, .int .i64 n.rc.mode] := rfl
  have hk := fun k => keys_smK AV.bool k m
  have hset : setKv (.str n.rc.path) (.bool (decide (n.kind = 1))) (smK AV.bool m) = smK AV.bool (setS n.rc.path (decide (n.kind = 1)) m) := set_smK _ _ _ _
  have hb : (n.kind == 1) = decide (n.kind = 1) := rfl
  have h' : (64 : Int) < (j : Int) + 1 := by omega
  refine acalls_W _ c48_ok ?_
  unfold c48
  rw [e]
  simp +decide -dsimp -implicitDefEqProofs [go_sem, hk, maxLen, hb, hset, hl, h']
  refine ⟨⟨by omega, by omega⟩, by omega, ?_⟩
  refine endW_of (List.replicate 40 .junk) [.box 89 [w, .map 1, .nils, .bool true], .map (smK AV.bool (setS n.rc.path (decide (n.kind = 1)) m)), .dead, .reg 39 14 (L.drop lo ++ [ntRow n])] (Wk.ren [0, 1, 2, 4] (by decide) rfl (by decide) hidC (fun j m s l hj h => (hniC hj h).elim (fun h => by cases h) (fun h => h.elim (fun h => by cases h) (fun h => by cases h))) ?_ (by simp +decide [rnT])) ?_
  · rw [e]
    simp +decide -dsimp -implicitDefEqProofs [go_sem, hren, bool_ren, renLL, renL, ren, renLL_aRows, renLL_sRows, hLr]
  · rw [e]
    simp +decide -dsimp -implicitDefEqProofs [go_sem, packR]
end Go.Ab
namespace Go.Ab
open Go Go.Proofs
set_option maxRecDepth 20000
structure Sb where
  f : Flt
  seen : SMap Bool
  wait : List Ntc
  behind : Bool
def SeesAt (H : List AObj) (sv : AV) (fp : List Nat) (s : Sb) : Prop := (s.behind = true ∧ sv = .nilm) ∨ ∃ q, q ∈ fp ∧ sv = .map q ∧ H[q]? = some (.map (smK AV.bool s.seen))
def WaitAt (H : List AObj) (wv : AV) (fp : List Nat) (l : List Ntc) : Prop := (wv = .nils ∧ l = []) ∨ ∃ r F, r ∈ fp ∧ H[r]? = some (.reg 39 14 (F.map ntRow)) ∧ ((wv = .own r F.length ∧ F = l) ∨ ∃ lo j, lo + j = F.length ∧ wv = .pre r lo j F.length ∧ F.drop lo = l)
def SubAt (H : List AObj) (o : Nat) (fp : List Nat) (s : Sb) : Prop := ∃ sv wv, o ∈ fp ∧ H[o]? = some (.box 89 [wantsV s.f, sv, wv, .bool s.behind]) ∧ SeesAt H sv fp s ∧ WaitAt H wv fp s.wait ∧ (s.behind = true → wv = .nils) ∧ s.wait.length ≤ 64
theorem SubAt.keep {H H' : List AObj} {o : Nat} {fp fp' : List Nat} {s : Sb} (h : SubAt H o fp s) (hf : ∀ i ∈ fp, i ∈ fp') (hH : ∀ i ∈ fp, H'[i]? = H[i]?) : SubAt H' o fp' s := by
  obtain ⟨sv, wv, h1, h2, h3, h4, h5⟩ := h
  refine ⟨sv, wv, hf _ h1, (hH _ h1).trans h2, ?_, ?_, h5⟩
  · rcases h3 with h | ⟨q, hq, h6, h7⟩
    · exact .inl h
    · exact .inr ⟨q, hf _ hq, h6, (hH _ hq).trans h7⟩
  · rcases h4 with h | ⟨r, L, hr, h6, h7⟩
    · exact .inl h
    · exact .inr ⟨r, L, hf _ hr, (hH _ hr).trans h6, h7⟩
def Sb.send (n : Ntc) (s : Sb) : Sb := if s.behind then s else { s with seen := setS n.rc.path (decide (n.kind = 1)) s.seen, wait := if 64 < s.wait.length + 1 then [] else s.wait ++ [n], behind := decide (64 < s.wait.length + 1) }
theorem wantsV_cl (f : Flt) (k : Nat) : closed k (wantsV f) = true := by simp [wantsV, closed, closedL, fltRow]
theorem wantsV_ren (f : Flt) (is : List Nat) : ren is (wantsV f) = wantsV f := by simp [wantsV, ren, renL, fltRow]
def OverAt (f : Nat) (ys : List AV) (av : AV) (H : List AObj) (is : List Nat) (H' : List AObj) : Prop := ∃ He Ge, ACalls Tryz.prog f ys He av Ge ∧ He.length = is.length ∧ Ge.length = is.length ∧ is.Nodup ∧ (∀ p ∈ is.zip (He.map (renO is)), H[p.1]? = some p.2) ∧ H' = updAt H is (Ge.map (renO is))
theorem set_same {α : Type} {l : List α} {i : Nat} {x : α} (h : l[i]? = some x) : l.set i x = l := by
  apply List.ext_getElem?
  intro j
  rw [List.getElem?_set]
  split
  · rename_i e
    subst e
    rw [h]
    simp [(List.getElem?_eq_some_iff.1 h).1]
  · rfl
theorem set_at {α : Type} {l : List α} {i j : Nat} {x y : α} (h : l[i]? = some y) (hij : i ≠ j ∨ x = y) : (l.set j x)[i]? = some y := by
  by_cases e : i = j
  · subst e
    rcases hij with h' | rfl
    · exact (h' rfl).elim
    · rw [List.getElem?_set]; simp [(List.getElem?_eq_some_iff.1 h).1]
  · rw [List.getElem?_set_ne (fun h => e h.symm)]; exact h
theorem set_at' {α : Type} {l : List α} {j : Nat} {x y : α} (h : l[j]? = some y) : (l.set j x)[j]? = some x := by
  rw [List.getElem?_set]; simp [(List.getElem?_eq_some_iff.1 h).1]
theorem at_ne {α : Type} {l : List α} {i j : Nat} {x y : α} (h : l[i]? = some x) (h' : l[j]? = some y) (hxy : x ≠ y) : i ≠ j := fun e => by
  subst e; rw [h] at h'; exact hxy (Option.some.inj h')
theorem send_L {H : List AObj} {o : Nat} {fp : List Nat} {s : Sb} (n : Ntc) (h : SubAt H o fp s) {u : Nat} (hu : H[u]? = some .unborn) (_hn : u ∉ fp) :
    ∃ is H', OverAt 48 [.ptr 0 0, .agg (ntRow n)] (.tup []) H is H' ∧ is[0]? = some o ∧ (∀ i ∈ is, i ∈ fp ∨ i = u) ∧ SubAt H' o (u :: fp) (s.send n) := by
  obtain ⟨sv, wv, h1, h2, h3, h4, h5, h6⟩ := h
  have hw := wantsV_cl s.f
  have hren := fun is => wantsV_ren s.f is
  by_cases hb : s.behind = true
  · have e : s.send n = s := by simp [Sb.send, hb]
    rw [e]
    have hwv := h5 hb
    subst hwv
    have hS : SubAt H o (u :: fp) s := SubAt.keep ⟨sv, .nils, h1, h2, h3, h4, h5, h6⟩ (fun i hi => by simp [hi]) fun _ _ => rfl
    rw [hb] at h2
    rcases h3 with ⟨_, rfl⟩ | ⟨q, hq, rfl, h7⟩
    · refine ⟨[o], H, ⟨[.box 89 [wantsV s.f, .nilm, .nils, .bool true]], _, sendBehind_c _ _ _ n (hw 1) rfl rfl, rfl, rfl, by simp, ?_, ?_⟩, rfl, by simp [h1], hS⟩
      · simp [renO, renL, ren, hren, h2]
      · simp only [List.map_cons, List.map_nil, updAt, renO, renL, ren, hren]
        exact (set_same h2).symm
    · have hoq := at_ne h2 h7 (by simp)
      refine ⟨[o, q], H, ⟨[.box 89 [wantsV s.f, .map 1, .nils, .bool true], .map (smK AV.bool s.seen)], _, sendBehindM_c _ .nils s.seen n (hw 2) rfl, rfl, rfl, by simp [hoq], ?_, ?_⟩, rfl, by simp [h1, hq], hS⟩
      · simp [renO, renL, ren, hren, h2, h7, bool_ren]
      · have e1 := set_same h2
        have e2 := set_same h7
        simp only [List.map_cons, List.map_nil, updAt, renO, renL, ren, hren, bool_ren, List.getElem?_cons_succ, List.getElem?_cons_zero, e1, e2]
  · have hb' : s.behind = false := by simpa using hb
    rcases h3 with ⟨h3, _⟩ | ⟨q, hq, rfl, h7⟩
    · exact (hb h3).elim
    have hoq := at_ne h2 h7 (by simp)
    have hou := at_ne h2 hu (by simp)
    have hqu := at_ne h7 hu (by simp)
    rw [hb'] at h2
    rcases h4 with ⟨rfl, h8⟩ | ⟨r, F, hr, h8, h9⟩
    · have e : s.send n = ⟨s.f, setS n.rc.path (decide (n.kind = 1)) s.seen, [n], false⟩ := by simp [Sb.send, hb', h8]
      rw [e]
      refine ⟨[o, q, u], _, ⟨[.box 89 [wantsV s.f, .map 1, .nils, .bool false], .map (smK AV.bool s.seen)] ++ List.replicate 1 .unborn, _, (ACallsR.unbornG 1 (sendA_c (wantsV s.f) s.seen n hw hren) (fun v G h => by rw [h.2]; simp)).one, rfl, rfl, by simp [hoq, hou, hqu], ?_, rfl⟩, rfl, by simp [h1, hq], ?_⟩
      · simp [renO, renL, ren, hren, h2, h7, hu, bool_ren]
      · simp only [List.map_cons, List.map_nil, updAt, renO, renL, renLL, ren, hren, bool_ren, ntRow_ren, List.getElem?_cons_succ, List.getElem?_cons_zero]
        refine ⟨.map q, .own u 1, by simp [h1], ?_, .inr ⟨q, by simp [hq], rfl, ?_⟩, .inr ⟨u, [n], by simp, ?_, .inl ⟨rfl, rfl⟩⟩, by simp, by simp⟩
        · exact set_at (set_at (set_at' h2) (.inl hoq)) (.inl hou)
        · exact set_at (set_at' (set_at h7 (.inl (Ne.symm hoq)))) (.inl hqu)
        · exact set_at' (set_at (set_at hu (.inl (Ne.symm hou))) (.inl (Ne.symm hqu)))
    · have h9' : (wv = .own r (F.map ntRow).length ∧ F.map ntRow = s.wait.map ntRow) ∨ ∃ lo j, lo + j = (F.map ntRow).length ∧ wv = .pre r lo j (F.map ntRow).length ∧ (F.map ntRow).drop lo = s.wait.map ntRow := by
        rcases h9 with ⟨h, h'⟩ | ⟨lo, j, h, h', h''⟩
        · exact .inl ⟨by simpa using h, by rw [h']⟩
        · exact .inr ⟨lo, j, by simpa using h, by simpa using h', by rw [← List.map_drop, h'']⟩
      have hLF : ∀ is, renLL is (F.map ntRow) = F.map ntRow := fun is => ntRows_ren is _
      clear h9
      generalize F.map ntRow = L at h8 h9' hLF
      have hor := at_ne h2 h8 (by simp)
      have hqr := at_ne h7 h8 (by simp)
      have hru := at_ne h8 hu (by simp)
      rcases h9' with ⟨rfl, hL⟩ | ⟨lo, j, hlo, rfl, hL⟩
      · have hlen : L.length = s.wait.length := by rw [hL]; simp
        have hLc : ∀ k, closedLL k L = true := fun k => by rw [hL]; exact ntRows_cl k _
        have hLr : ∀ is, renLL is L = L := fun is => by rw [hL]; exact ntRows_ren is _
        refine ⟨[o, q, r], _, ⟨[.box 89 [wantsV s.f, .map 1, .own 2 L.length, .bool false], .map (smK AV.bool s.seen), .reg 39 14 L], _, sendB_c (wantsV s.f) s.seen L n hw hLc (by omega), rfl, rfl, by simp [hoq, hor, hqr], ?_, rfl⟩, rfl, by simp [h1, hq, hr], ?_⟩
        · simp [renO, renL, ren, hren, h2, h7, h8, bool_ren, hLr]
        · have hLr' : ∀ is, renLL is (L ++ [ntRow n]) = L ++ [ntRow n] := fun is => by rw [renLL_append, hLr]; simp [renLL, ntRow_ren]
          by_cases hk : 64 < s.wait.length + 1
          · have hk' : 64 < L.length + 1 := by omega
            have e : s.send n = ⟨s.f, setS n.rc.path (decide (n.kind = 1)) s.seen, [], true⟩ := by simp [Sb.send, hb', hk]
            rw [e]
            simp only [List.map_cons, List.map_nil, updAt, renO, renL, ren, hren, bool_ren, hLr', List.getElem?_cons_succ, List.getElem?_cons_zero, if_pos hk', decide_eq_true hk']
            refine ⟨.map q, .nils, by simp [h1], ?_, .inr ⟨q, by simp [hq], rfl, ?_⟩, .inl ⟨rfl, rfl⟩, by simp, by simp⟩
            · exact set_at (set_at (set_at' h2) (.inl hoq)) (.inl hor)
            · exact set_at (set_at' (set_at h7 (.inl (Ne.symm hoq)))) (.inl hqr)
          · have hk' : ¬ 64 < L.length + 1 := by omega
            have e : s.send n = ⟨s.f, setS n.rc.path (decide (n.kind = 1)) s.seen, s.wait ++ [n], false⟩ := by simp [Sb.send, hb', hk]
            rw [e]
            simp only [List.map_cons, List.map_nil, updAt, renO, renL, ren, hren, bool_ren, hLr', List.getElem?_cons_succ, List.getElem?_cons_zero, if_neg hk', decide_eq_false hk']
            refine ⟨.map q, .own r (L.length + 1), by simp [h1], ?_, .inr ⟨q, by simp [hq], rfl, ?_⟩, .inr ⟨r, s.wait ++ [n], by simp [hr], ?_, .inl ⟨by simp [hlen], rfl⟩⟩, by simp, by simp; omega⟩
            · exact set_at (set_at (set_at' h2) (.inl hoq)) (.inl hor)
            · exact set_at (set_at' (set_at h7 (.inl (Ne.symm hoq)))) (.inl hqr)
            · rw [show (s.wait ++ [n]).map ntRow = L ++ [ntRow n] by simp [hL]]
              exact set_at' (set_at (set_at h8 (.inl (Ne.symm hor))) (.inl (Ne.symm hqr)))
      · have hlen : j = s.wait.length := by
          have := congrArg List.length hL
          simp at this
          omega
        have hLr : ∀ is, renLL is (L.drop lo) = L.drop lo := fun is => by rw [hL]; exact ntRows_ren is _
        have hLr' : ∀ is, renLL is (L.drop lo ++ [ntRow n]) = L.drop lo ++ [ntRow n] := fun is => by rw [renLL_append, hLr]; simp [renLL, ntRow_ren]
        by_cases hk : 64 < s.wait.length + 1
        · have e : s.send n = ⟨s.f, setS n.rc.path (decide (n.kind = 1)) s.seen, [], true⟩ := by simp [Sb.send, hb', hk]
          rw [e]
          refine ⟨[o, q, r, u], _, ⟨[.box 89 [wantsV s.f, .map 1, .pre 2 lo j L.length, .bool false], .map (smK AV.bool s.seen), .reg 39 14 L] ++ List.replicate 1 .unborn, _, (ACallsR.unbornG 1 (sendD_c (wantsV s.f) s.seen L lo j n hw hren hLr hlo (by omega) (by omega)) (fun v G h => by rw [h.2]; simp)).one, rfl, rfl, by simp [hoq, hor, hou, hqr, hqu, hru], ?_, rfl⟩, rfl, by simp [h1, hq, hr], ?_⟩
          · simp [renO, renL, ren, hren, h2, h7, h8, hu, bool_ren, hLF]
          · simp only [List.map_cons, List.map_nil, updAt, renO, renL, ren, hren, bool_ren, hLr', List.getElem?_cons_succ, List.getElem?_cons_zero]
            refine ⟨.map q, .nils, by simp [h1], ?_, .inr ⟨q, by simp [hq], rfl, ?_⟩, .inl ⟨rfl, rfl⟩, by simp, by simp⟩
            · exact set_at (set_at (set_at (set_at' h2) (.inl hoq)) (.inl hor)) (.inl hou)
            · exact set_at (set_at (set_at' (set_at h7 (.inl (Ne.symm hoq)))) (.inl hqr)) (.inl hqu)
        · have e : s.send n = ⟨s.f, setS n.rc.path (decide (n.kind = 1)) s.seen, s.wait ++ [n], false⟩ := by simp [Sb.send, hb', hk]
          rw [e]
          refine ⟨[o, q, r, u], _, ⟨[.box 89 [wantsV s.f, .map 1, .pre 2 lo j L.length, .bool false], .map (smK AV.bool s.seen), .reg 39 14 L] ++ List.replicate 1 .unborn, _, (ACallsR.unbornG 1 (sendC_c (wantsV s.f) s.seen L lo j n hw hren hLr hlo (by omega)) (fun v G h => by rw [h.2]; simp)).one, rfl, rfl, by simp [hoq, hor, hou, hqr, hqu, hru], ?_, rfl⟩, rfl, by simp [h1, hq, hr], ?_⟩
          · simp [renO, renL, ren, hren, h2, h7, h8, hu, bool_ren, hLF]
          · simp only [List.map_cons, List.map_nil, updAt, renO, renL, ren, hren, bool_ren, hLr', List.getElem?_cons_succ, List.getElem?_cons_zero]
            refine ⟨.map q, .own u (j + 1), by simp [h1], ?_, .inr ⟨q, by simp [hq], rfl, ?_⟩, .inr ⟨u, s.wait ++ [n], by simp, ?_, .inl ⟨by simp [hlen], rfl⟩⟩, by simp, by simp; omega⟩
            · exact set_at (set_at (set_at (set_at' h2) (.inl hoq)) (.inl hor)) (.inl hou)
            · exact set_at (set_at (set_at' (set_at h7 (.inl (Ne.symm hoq)))) (.inl hqr)) (.inl hqu)
            · rw [show (s.wait ++ [n]).map ntRow = L.drop lo ++ [ntRow n] by simp [hL]]
              exact set_at' (set_at (set_at (set_at hu (.inl (Ne.symm hou))) (.inl (Ne.symm hqu))) (.inl (Ne.symm hru)))
end Go.Ab
namespace Go.Ab
open Go Go.Proofs
set_option maxRecDepth 20000
structure SbL where
  o : Nat
  fp : List Nat
  s : Sb
structure Bus where
  ready : SMap Rcd
  subs : SMap SbL
  last : Int
abbrev rdM (m : SMap Rcd) : List (AV × AV) := smK (fun r => AV.agg (rRow r)) m
abbrev sbM (m : SMap SbL) : List (AV × AV) := smK (fun x => AV.ptr x.o 0) m
def Bus.foot (B : Bus) (i : Nat) : Prop := ∃ (j : Nat) (p : List UInt8 × SbL), B.subs[j]? = some (some p) ∧ i ∈ p.2.fp
structure BusAt (H : List AObj) (ob ro so : Nat) (B : Bus) : Prop where
  box : H[ob]? = some (.box 82 [.map ro, .map so, .int .i64 B.last])
  rdy : H[ro]? = some (.map (rdM B.ready))
  sbs : H[so]? = some (.map (sbM B.subs))
  rso : ro ≠ so
  sub : ∀ (j : Nat) (p : List UInt8 × SbL), B.subs[j]? = some (some p) → SubAt H p.2.o p.2.fp p.2.s
  out : ∀ i, B.foot i → i < H.length ∧ i ≠ ob ∧ i ≠ ro ∧ i ≠ so
  dis : ∀ (i j : Nat) (p q : List UInt8 × SbL), i ≠ j → B.subs[i]? = some (some p) → B.subs[j]? = some (some q) → ∀ x ∈ p.2.fp, x ∉ q.2.fp
structure BusF (H G : List AObj) (ob ro so : Nat) (B B' : Bus) : Prop where
  len : H.length ≤ G.length
  keep : ∀ i, i < H.length → i ≠ ob → i ≠ ro → i ≠ so → ¬ B.foot i → G[i]? = H[i]? ∧ ¬ B'.foot i
def subE (B : Bus) (name : List UInt8) (f : Flt) : Int := if validB name then (if globE f.sub ≠ 0 ∨ (f.tag ≠ [] ∧ globE f.tag ≠ 0) then 301 else if (getS name B.subs).isSome then 302 else if 16 ≤ cntS B.subs then 303 else 0) else 300
def subR (H : List AObj) (ob ro so : Nat) (B : Bus) (name : List UInt8) (f : Flt) (v : AV) (G : List AObj) : Prop := v = .int .i64 (subE B name f) ∧ if subE B name f = 0 then (∃ o, BusAt G ob ro so { B with subs := setS name ⟨o, [o], ⟨f, [], [], true⟩⟩ B.subs } ∧ BusF H G ob ro so B { B with subs := setS name ⟨o, [o], ⟨f, [], [], true⟩⟩ B.subs }) else BusAt G ob ro so B ∧ BusF H G ob ro so B B
theorem setS_place {β : Type} (k : List UInt8) (v : β) : ∀ m : SMap β, ∃ j0, ∀ (j : Nat) (p : List UInt8 × β), (setS k v m)[j]? = some (some p) → (j = j0 ∧ p = (k, v)) ∨ (j ≠ j0 ∧ m[j]? = some (some p))
  | [] => ⟨0, fun j p hj => by
    cases j with
    | zero => simp [setS] at hj; exact .inl ⟨rfl, hj.symm⟩
    | succ j => simp [setS] at hj⟩
  | none :: r => by
    obtain ⟨j0, ih⟩ := setS_place k v r
    refine ⟨j0 + 1, fun j p hj => ?_⟩
    cases j with
    | zero => simp [setS] at hj
    | succ j =>
      simp only [setS, List.getElem?_cons_succ] at hj
      rcases ih j p hj with ⟨h1, h2⟩ | ⟨h1, h2⟩
      · exact .inl ⟨by omega, h2⟩
      · exact .inr ⟨by omega, by simpa using h2⟩
  | some x :: r => by
    by_cases e : x.1 = k
    · refine ⟨0, fun j p hj => ?_⟩
      simp only [setS, e, if_true] at hj
      cases j with
      | zero => simp at hj; exact .inl ⟨rfl, hj.symm⟩
      | succ j => exact .inr ⟨by omega, by simpa using hj⟩
    · obtain ⟨j0, ih⟩ := setS_place k v r
      refine ⟨j0 + 1, fun j p hj => ?_⟩
      simp only [setS, e, if_false] at hj
      cases j with
      | zero => exact .inr ⟨by omega, by simpa using hj⟩
      | succ j =>
        rcases ih j p (by simpa using hj) with ⟨h1, h2⟩ | ⟨h1, h2⟩
        · exact .inl ⟨by omega, h2⟩
        · exact .inr ⟨by omega, by simpa using h2⟩
theorem bus_new {H : List AObj} {ob ro so : Nat} {B : Bus} (h : BusAt H ob ro so B) (name : List UInt8) (f : Flt) (Y : AObj) {G : List AObj} {B' : Bus} (hB : B' = { B with subs := setS name ⟨H.length + 1, [H.length + 1], ⟨f, [], [], true⟩⟩ B.subs })
    (hG : G = (H ++ [Y, .box 89 [wantsV f, .nilm, .nils, .bool true]]).set so (.map (sbM B'.subs))) : BusAt G ob ro so B' ∧ BusF H G ob ro so B B' := by
  have b1 := h.box
  have b2 := h.rdy
  have b3 := h.sbs
  have l1 := (List.getElem?_eq_some_iff.1 b1).1
  have l2 := (List.getElem?_eq_some_iff.1 b2).1
  have l3 := (List.getElem?_eq_some_iff.1 b3).1
  have n5 : ob ≠ so := at_ne b1 b3 (by simp)
  have old : ∀ i, i < H.length → i ≠ so → G[i]? = H[i]? := fun i hi hn => by
    rw [hG, List.getElem?_set_ne (Ne.symm hn), List.getElem?_append_left hi]
  have hnew : G[H.length + 1]? = some (.box 89 [wantsV f, .nilm, .nils, .bool true]) := by
    rw [hG, List.getElem?_set_ne (by omega), List.getElem?_append_right (by omega)]
    simp
  obtain ⟨j0, hp⟩ := setS_place name (⟨H.length + 1, [H.length + 1], ⟨f, [], [], true⟩⟩ : SbL) B.subs
  have hs : B'.subs = setS name ⟨H.length + 1, [H.length + 1], ⟨f, [], [], true⟩⟩ B.subs := by rw [hB]
  have hl : B'.last = B.last := by rw [hB]
  have hr : B'.ready = B.ready := by rw [hB]
  have ft : ∀ i, B'.foot i → i = H.length + 1 ∨ B.foot i := fun i ⟨j, p, h1, h2⟩ => by
    rw [hs] at h1
    rcases hp j p h1 with ⟨_, rfl⟩ | ⟨_, h3⟩
    · left; simpa using h2
    · exact .inr ⟨j, p, h3, h2⟩
  have hlen : G.length = H.length + 2 := by rw [hG]; simp
  refine ⟨⟨?_, ?_, ?_, h.rso, fun j p hj => ?_, fun i hi => ?_, fun i j p q hij hi hj x hx => ?_⟩, ⟨by omega, fun i hi _ _ h3 h4 => ⟨old i hi h3, fun h5 => ?_⟩⟩⟩
  · rw [old _ l1 n5, hl]; exact b1
  · rw [old _ l2 h.rso, hr]; exact b2
  · rw [hG]; exact set_at' (x := AObj.map (sbM B'.subs)) (by rw [List.getElem?_append_left l3]; exact b3)
  · rw [hs] at hj
    rcases hp j p hj with ⟨_, rfl⟩ | ⟨_, h3⟩
    · exact ⟨.nilm, .nils, by simp, hnew, .inl ⟨rfl, rfl⟩, .inl ⟨rfl, rfl⟩, fun _ => rfl, by simp⟩
    · exact (h.sub j p h3).keep (fun _ h => h) fun i hi => old i (h.out i ⟨j, p, h3, hi⟩).1 (h.out i ⟨j, p, h3, hi⟩).2.2.2
  · rcases ft i hi with rfl | h3
    · exact ⟨by omega, by omega, by omega, by omega⟩
    · obtain ⟨h4, h5⟩ := h.out i h3
      exact ⟨by omega, h5⟩
  · rw [hs] at hi hj
    rcases hp i p hi with ⟨e1, rfl⟩ | ⟨_, h3⟩
    · rcases hp j q hj with ⟨e2, rfl⟩ | ⟨_, h4⟩
      · exact (hij (e1.trans e2.symm)).elim
      · intro h5
        simp only [List.mem_singleton] at hx
        subst hx
        have := (h.out _ ⟨j, q, h4, h5⟩).1
        omega
    · rcases hp j q hj with ⟨e2, rfl⟩ | ⟨_, h4⟩
      · intro h5
        simp only [List.mem_singleton] at h5
        subst h5
        have := (h.out _ ⟨i, p, h3, hx⟩).1
        omega
      · exact h.dis i j p q hij h3 h4 x hx
  · rcases ft i h5 with rfl | h6
    · omega
    · exact h4 h6
theorem subscribe_c {H : List AObj} {ob ro so : Nat} {B : Bus} (h : BusAt H ob ro so B) (name : List UInt8) (f : Flt) (h1 : f.sub.length < 9223372036854775807) (h2 : f.tag.length < 9223372036854775807) :
    ACallsR Tryz.prog 13 [.ptr ob 0, .str name, .agg (fltRow f)] H (subR H ob ro so B name f) := by
  have cv := nValid_c name
  have c1 := Check_c f.sub h1
  have c2 := Check_c f.tag h2
  have cw := wants_c f
  have b1 := h.box
  have b2 := h.rdy
  have b3 := h.sbs
  have l1 := (List.getElem?_eq_some_iff.1 b1).1
  have l3 := (List.getElem?_eq_some_iff.1 b3).1
  have ap : ∀ {i : Nat} {x : AObj} (l : List AObj), H[i]? = some x → (H ++ l)[i]? = some x := fun l hx => by
    rw [List.getElem?_append_left (List.getElem?_eq_some_iff.1 hx).1]; exact hx
  have a1 := fun l => ap l b1
  have a3 := fun l => ap l b3
  have hk := keys_smK (fun x : SbL => AV.ptr x.o 0) name B.subs
  have hf := find_smK (fun x : SbL => AV.ptr x.o 0) name B.subs
  refine acalls_WA _ c13_ok ?_
  unfold c13
  refine awp_go ?_
  simp +decide -dsimp -implicitDefEqProofs [go_sem, fltRow]
  refine awp_go ?_
  simp +decide -dsimp -implicitDefEqProofs [go_sem, a1, a3, hk, hf]
  generalize (Option.map (fun x : SbL => AV.ptr x.o 0) (getS name B.subs)).getD AV.nilp = V
  have a2 := fun l => ap l b2
  have hlen : ¬ (16 : Int) ≤ (cntS B.subs : Int) ∨ 16 ≤ cntS B.subs := by omega
  have hcnt : liveN (smK (fun x : SbL => AV.ptr x.o 0) B.subs) = cntS B.subs := live_smK _ _
  have hneg : ∀ l, BusAt (H ++ l) ob ro so B ∧ BusF H (H ++ l) ob ro so B B := fun l =>
    ⟨⟨a1 l, a2 l, a3 l, h.rso, fun j p hj => (h.sub j p hj).keep (fun _ h => h) fun i hi => List.getElem?_append_left (h.out i ⟨j, p, hj, hi⟩).1, fun i hi => ⟨by have := (h.out i hi).1; simp; omega, (h.out i hi).2⟩, h.dis⟩,
      ⟨by simp, fun i hi _ _ _ h' => ⟨List.getElem?_append_left hi, h'⟩⟩⟩
  unfold goE
  refine awp_go ?_
  simp +decide -dsimp -implicitDefEqProofs [go_sem]
  refine callE_pure cv rfl rfl ?_
  have bad : ∀ (n : Int) (l : List AObj), subE B name f = n → n ≠ 0 → subR H ob ro so B name f (.int .i64 n) (H ++ l) := fun n l e hn => by
    unfold subR; rw [e, if_neg hn]; exact ⟨rfl, hneg l⟩
  by_cases v1 : validB name = true
  rotate_left
  · simp +decide -dsimp -implicitDefEqProofs [go_sem, v1]
    refine endW_of _ _ (Wk.refl _ _) ?_
    simp +decide -dsimp -implicitDefEqProofs [go_sem, packR]
    exact bad 300 _ (by simp [subE, v1]) (by decide)
  simp +decide -dsimp -implicitDefEqProofs [go_sem, v1]
  refine callE_pure c1 rfl rfl ?_
  by_cases v2 : globE f.sub = 0
  rotate_left
  · simp +decide -dsimp -implicitDefEqProofs [go_sem, v2]
    refine endW_of _ _ (Wk.refl _ _) ?_
    simp +decide -dsimp -implicitDefEqProofs [go_sem, packR]
    exact bad 301 _ (by simp [subE, v1, v2]) (by decide)
  have vt : (f.tag = [] ∨ (f.tag ≠ [] ∧ globE f.tag = 0)) ∨ (f.tag ≠ [] ∧ globE f.tag ≠ 0) := by
    by_cases e : f.tag = []
    · exact .inl (.inl e)
    · by_cases e' : globE f.tag = 0
      · exact .inl (.inr ⟨e, e'⟩)
      · exact .inr ⟨e, e'⟩
  rcases vt with vt | ⟨vt, vu⟩
  rotate_left
  · simp +decide -dsimp -implicitDefEqProofs [go_sem, v2, vt]
    refine callE_pure c2 rfl rfl ?_
    simp +decide -dsimp -implicitDefEqProofs [go_sem, vt, vu]
    refine endW_of _ _ (Wk.refl _ _) ?_
    simp +decide -dsimp -implicitDefEqProofs [go_sem, packR]
    exact bad 301 _ (by simp [subE, v1, v2, vt, vu]) (by decide)
  have e3 : (getS name B.subs).isSome = true → subE B name f = 302 := fun e => by
    rcases vt with vt | ⟨vt, vu⟩ <;> simp [subE, *]
  have e4 : (getS name B.subs).isSome = false → 16 ≤ cntS B.subs → subE B name f = 303 := fun e e' => by
    rcases vt with vt | ⟨vt, vu⟩ <;> simp [subE, *]
  have e5 : (getS name B.subs).isSome = false → ¬ 16 ≤ cntS B.subs → subE B name f = 0 := fun e e' => by
    rcases vt with vt | ⟨vt, vu⟩ <;> simp [subE, *]
  have i16 : 16 ≤ cntS B.subs → (16 : Int) ≤ (cntS B.subs : Int) := fun e => by omega
  have j16 : ¬ 16 ≤ cntS B.subs → ¬ (16 : Int) ≤ (cntS B.subs : Int) := fun e => by omega
  generalize (getS name B.subs).isSome = b at e3 e4 e5 ⊢
  cases b with
  | true =>
    rcases vt with vt | ⟨vt, vu⟩
    · simp +decide -dsimp -implicitDefEqProofs [go_sem, v2, vt]
      refine endW_of _ _ (Wk.refl _ _) ?_
      simp +decide -dsimp -implicitDefEqProofs [go_sem, packR]
      exact bad 302 _ (e3 rfl) (by decide)
    · simp +decide -dsimp -implicitDefEqProofs [go_sem, v2, vt]
      refine callE_pure c2 rfl rfl ?_
      simp +decide -dsimp -implicitDefEqProofs [go_sem, vt, vu]
      refine endW_of _ _ (Wk.refl _ _) ?_
      simp +decide -dsimp -implicitDefEqProofs [go_sem, packR]
      exact bad 302 _ (e3 rfl) (by decide)
  | false =>
    by_cases v4 : 16 ≤ cntS B.subs
    · have v4' := i16 v4
      rcases vt with vt | ⟨vt, vu⟩
      · simp +decide -dsimp -implicitDefEqProofs [go_sem, a1, a3, v2, vt, hcnt, v4']
        refine endW_of _ _ (Wk.refl _ _) ?_
        simp +decide -dsimp -implicitDefEqProofs [go_sem, packR]
        exact bad 303 _ (e4 rfl v4) (by decide)
      · simp +decide -dsimp -implicitDefEqProofs [go_sem, v2, vt]
        refine callE_pure c2 rfl rfl ?_
        simp +decide -dsimp -implicitDefEqProofs [go_sem, a1, a3, vt, vu, hcnt, v4']
        refine endW_of _ _ (Wk.refl _ _) ?_
        simp +decide -dsimp -implicitDefEqProofs [go_sem, packR]
        exact bad 303 _ (e4 rfl v4) (by decide)
    · have v4' := j16 v4
      have e0 := e5 rfl v4
      have n1 : ob ≠ H.length + 1 := by omega
      have n2 : so ≠ H.length + 1 := by omega
      have n3 : ob ≠ H.length := by omega
      have n4 : so ≠ H.length := by omega
      have n5 : ob ≠ so := at_ne b1 b3 (by simp)
      have ord : objOrd [0, 1, 3, 7, 0, 0, 32, 96, 224, 511] [([], []), ([], []), ([], []), ([ob], []), ([], []), ([H.length], []), ([], []), ([], []), ([H.length + 1], [H.length + 1]), ([so], [so])] = true := by
        simp +decide [objOrd, clash, n1, n2, n4, n5, Ne.symm n1, Ne.symm n2, Ne.symm n4, Ne.symm n5]
      have hset : setKv (.str name) (.ptr (H.length + 1) 0) (smK (fun x : SbL => AV.ptr x.o 0) B.subs) = smK (fun x : SbL => AV.ptr x.o 0) (setS name ⟨H.length + 1, [H.length + 1], ⟨f, [], [], true⟩⟩ B.subs) := set_smK (fun x : SbL => AV.ptr x.o 0) name ⟨H.length + 1, [H.length + 1], ⟨f, [], [], true⟩⟩ B.subs
      rcases vt with vt | ⟨vt, vu⟩
      simp +decide -dsimp -implicitDefEqProofs [go_sem, a1, a3, v2, vt, hcnt, v4']
      rotate_left
      simp +decide -dsimp -implicitDefEqProofs [go_sem, v2, vt]
      refine callE_pure c2 rfl rfl ?_
      simp +decide -dsimp -implicitDefEqProofs [go_sem, a1, a3, vt, vu, hcnt, v4']
      all_goals
        unfold goE
        refine awp_of ?_
        unfold fltRow at cw
        try rw [vt] at cw
        simp +decide -dsimp -implicitDefEqProofs [go_sem, a1]
        refine callDE_pure cw rfl (wantsV_cl f 0) ?_
        simp +decide -dsimp -implicitDefEqProofs [go_sem, a3, hk]
      all_goals
        refine ⟨rfl, rfl, Nat.le_refl 1, ?_, ?_⟩
      · exact ord
      · refine endW_of _ _ (Wk.refl _ _) ?_
        simp +decide -dsimp -implicitDefEqProofs [go_sem, packR]
        rw [hset]
        unfold subR
        rw [e0, if_pos rfl]
        exact ⟨rfl, H.length + 1, bus_new h name f _ rfl rfl⟩
      · exact ord
      · refine endW_of _ _ (Wk.refl _ _) ?_
        simp +decide -dsimp -implicitDefEqProofs [go_sem, packR]
        rw [hset]
        unfold subR
        rw [e0, if_pos rfl]
        exact ⟨rfl, H.length + 1, bus_new h name f _ rfl rfl⟩
end Go.Ab
namespace Go.Ab
open Go Go.Proofs
set_option maxRecDepth 20000
theorem delS_place {β : Type} (k : List UInt8) : ∀ (m : SMap β) (j : Nat) (p : List UInt8 × β), (delS k m)[j]? = some (some p) → m[j]? = some (some p)
  | [], j, p, hj => by simp [delS] at hj
  | none :: r, j, p, hj => by
    cases j with
    | zero => simp [delS] at hj
    | succ j => simpa using delS_place k r j p (by simpa [delS] using hj)
  | some x :: r, j, p, hj => by
    by_cases e : x.1 = k
    · simp only [delS, e, if_true] at hj
      cases j with
      | zero => simp at hj
      | succ j => simpa using hj
    · simp only [delS, e, if_false] at hj
      cases j with
      | zero => simpa using hj
      | succ j => simpa using delS_place k r j p (by simpa using hj)
theorem bus_del {H : List AObj} {ob ro so : Nat} {B : Bus} (h : BusAt H ob ro so B) (name : List UInt8) {G : List AObj} {B' : Bus} (hB : B' = { B with subs := delS name B.subs })
    (hG : G = H.set so (.map (sbM B'.subs))) : BusAt G ob ro so B' ∧ BusF H G ob ro so B B' := by
  have b1 := h.box
  have b2 := h.rdy
  have b3 := h.sbs
  have n5 : ob ≠ so := at_ne b1 b3 (by simp)
  have old : ∀ i, i ≠ so → G[i]? = H[i]? := fun i hn => by rw [hG, List.getElem?_set_ne (Ne.symm hn)]
  have hs : B'.subs = delS name B.subs := by rw [hB]
  have hl : B'.last = B.last := by rw [hB]
  have hr : B'.ready = B.ready := by rw [hB]
  have hp := delS_place name B.subs
  rw [← hs] at hp
  have ft : ∀ i, B'.foot i → B.foot i := fun i ⟨j, p, h1, h2⟩ => ⟨j, p, hp j p h1, h2⟩
  have hlen : G.length = H.length := by rw [hG]; simp
  refine ⟨⟨?_, ?_, ?_, h.rso, fun j p hj => ?_, fun i hi => ?_, fun i j p q hij hi hj x hx => h.dis i j p q hij (hp i p hi) (hp j q hj) x hx⟩, ⟨by omega, fun i hi _ _ h3 h4 => ⟨old i h3, fun h5 => h4 (ft i h5)⟩⟩⟩
  · rw [old _ n5, hl]; exact b1
  · rw [old _ h.rso, hr]; exact b2
  · rw [hG]; exact set_at' (x := AObj.map (sbM B'.subs)) b3
  · exact (h.sub j p (hp j p hj)).keep (fun _ h => h) fun i hi => old i (h.out i ⟨j, p, hp j p hj, hi⟩).2.2.2
  · rw [hlen]; exact h.out i (ft i hi)
def unsR (H : List AObj) (ob ro so : Nat) (B : Bus) (name : List UInt8) (v : AV) (G : List AObj) : Prop :=
  if (getS name B.subs).isSome then v = .int .i64 0 ∧ BusAt G ob ro so { B with subs := delS name B.subs } ∧ BusF H G ob ro so B { B with subs := delS name B.subs } else v = .int .i64 300 ∧ G = H
theorem unsubscribe_c {H : List AObj} {ob ro so : Nat} {B : Bus} (h : BusAt H ob ro so B) (name : List UInt8) :
    ACallsR Tryz.prog 19 [.ptr ob 0, .str name] H (unsR H ob ro so B name) := by
  have b1 := h.box
  have b3 := h.sbs
  have hk := keys_smK (fun x : SbL => AV.ptr x.o 0) name B.subs
  have hf := find_smK (fun x : SbL => AV.ptr x.o 0) name B.subs
  have hd : delKv (.str name) (smK (fun x : SbL => AV.ptr x.o 0) B.subs) = smK (fun x : SbL => AV.ptr x.o 0) (delS name B.subs) := del_smK _ _ _
  have ok : (getS name B.subs).isSome = true → unsR H ob ro so B name (.int .i64 0) (H.set so (.map (smK (fun x : SbL => AV.ptr x.o 0) (delS name B.subs)))) := fun e => by
    unfold unsR; rw [if_pos e]; exact ⟨rfl, bus_del h name rfl rfl⟩
  have no : (getS name B.subs).isSome = false → unsR H ob ro so B name (.int .i64 300) H := fun e => by
    unfold unsR; rw [e]; exact ⟨rfl, rfl⟩
  refine acalls_W _ c19_ok ?_
  unfold c19
  have l3 := (List.getElem?_eq_some_iff.1 b3).1
  cases hg : getS name B.subs with
  | some x =>
    rw [hg] at ok hf
    simp +decide -dsimp -implicitDefEqProofs [go_sem, b1, b3, hk, hf, hd]
    refine endW_of _ _ (Wk.refl _ _) ?_
    simp +decide -dsimp -implicitDefEqProofs [go_sem, packR]
    rw [if_pos l3]
    exact ok rfl
  | none =>
    rw [hg] at no hf
    simp +decide -dsimp -implicitDefEqProofs [go_sem, b1, b3, hk, hf]
    refine endW_of _ _ (Wk.refl _ _) ?_
    simp +decide -dsimp -implicitDefEqProofs [go_sem, packR]
    exact no rfl
def newR (H : List AObj) (v : AV) (G : List AObj) : Prop := v = .ptr (H.length + 2) 0 ∧ BusAt G (H.length + 2) H.length (H.length + 1) ⟨[], [], 0⟩ ∧ BusF H G (H.length + 2) H.length (H.length + 1) ⟨[], [], 0⟩ ⟨[], [], 0⟩
theorem new_c (H : List AObj) : ACallsR Tryz.prog 12 [] H (newR H) := by
  refine acalls_W _ c12_ok ?_
  unfold c12
  simp +decide -dsimp -implicitDefEqProofs [go_sem]
  refine endW_of _ _ (Wk.refl _ _) ?_
  simp +decide -dsimp -implicitDefEqProofs [go_sem, packR]
  have nf : ∀ i, ¬ (⟨[], [], 0⟩ : Bus).foot i := fun i ⟨j, p, h, _⟩ => by simp at h
  refine ⟨rfl, ⟨?_, ?_, ?_, by omega, fun j p h => by simp at h, fun i h => (nf i h).elim, fun i j p q _ h => by simp at h⟩, ⟨by simp, fun i hi _ _ _ h => ⟨List.getElem?_append_left hi, h⟩⟩⟩
  · simp
  · simp [smK]
  · simp [smK]
end Go.Ab
/- Empty lists, told as nil. -/

namespace Go.Ab
open Go Go.Proofs Go.Sort
mutual
def nz : AV → AV
  | .nils => .imm []
  | .imm l => .imm (nzLL l)
  | .agg cs => .agg (nzL cs)
  | a => a
def nzL : List AV → List AV
  | [] => []
  | a :: r => nz a :: nzL r
def nzLL : List (List AV) → List (List AV)
  | [] => []
  | a :: r => nzL a :: nzLL r
end
theorem nzL_len : ∀ l : List AV, (nzL l).length = l.length
  | [] => rfl
  | a :: r => by simp [nzL, nzL_len r]
theorem nzLL_len : ∀ l : List (List AV), (nzLL l).length = l.length
  | [] => rfl
  | a :: r => by simp [nzLL, nzLL_len r]
mutual
theorem Val_nz {c : Cx} : ∀ (a : AV) (v : Value), Val c a v → Val c (nz a) v
  | .nils, v, h => by
    simp only [Val] at h
    simp only [nz, Val]
    exact .inr ⟨trivial, _, _, h⟩
  | .imm l, v, h => by
    simp only [Val] at h
    simp only [nz, Val, nzLL_len]
    rcases h with ⟨b, off, cap, sz, h1, h2, h3, h4⟩ | ⟨rfl, h⟩
    · exact .inl ⟨b, off, cap, sz, h1, h2, h3, Rows_nz l b off sz h4⟩
    · exact .inr ⟨rfl, h⟩
  | .agg cs, v, h => by
    simp only [Val] at h
    simp only [nz, Val]
    obtain ⟨vs, h1, h2, h3⟩ := h
    exact ⟨vs, h1, Vals_nz cs _ h2, h3⟩
  | .junk, _, h | .bot, _, h | .int _ _, _, h | .bool _, _, h | .str _, _, h | .nilp, _, h | .ptr _ _, _, h | .eptr _ _ _ _, _, h | .iptr _, _, h | .own _ _, _, h | .nilm, _, h | .map _, _, h | .nilf, _, h | .fn _ _ _, _, h | .tup _, _, h | .raw _, _, h | .ifc, _, h | .win _ _ _, _, h | .it _, _, h | .pre _ _ _ _, _, h | .ifv _ _, _, h => h
theorem Vals_nz {c : Cx} : ∀ (xs : List AV) (vs : List Value), Vals c xs vs → Vals c (nzL xs) vs
  | [], _, h => h
  | a :: r, vs, h => by
    simp only [Vals] at h
    simp only [nzL, Vals]
    obtain ⟨v, vs', h1, h2, h3⟩ := h
    exact ⟨v, vs', h1, Val_nz a v h2, Vals_nz r vs' h3⟩
theorem Cells_nz {c : Cx} : ∀ (xs : List AV) (b off : Nat), Cells c xs b off → Cells c (nzL xs) b off
  | [], _, _, h => h
  | a :: r, b, off, h => by
    simp only [Cells] at h
    simp only [nzL, Cells]
    obtain ⟨⟨v, h1, h2, h3⟩, h4⟩ := h
    exact ⟨⟨v, h1, h2, Val_nz a v h3⟩, Cells_nz r b _ h4⟩
theorem Rows_nz {c : Cx} : ∀ (l : List (List AV)) (b off sz : Nat), RowsAt c l b off sz → RowsAt c (nzLL l) b off sz
  | [], _, _, _, h => h
  | r :: rs, b, off, sz, h => by
    simp only [RowsAt] at h
    simp only [nzLL, RowsAt, nzL_len]
    exact ⟨h.1, Cells_nz r b off h.2.1, Rows_nz rs b _ sz h.2.2⟩
end
theorem ACalls.nz {P : Program} {f : Nat} {xs : List AV} {av : AV} {H H' : List AObj} (h : ACalls P f (nzL xs) H av H') : ACalls P f xs H av H' :=
  ⟨h.1, fun c vs hH hr hv => h.2 c vs hH hr (Vals_nz xs vs hv)⟩

theorem ACalls.nzR {P : Program} {f : Nat} {xs : List AV} {av : AV} {H H' : List AObj} (h : ACalls P f xs H av H') : ACalls P f xs H (Go.Ab.nz av) H' :=
  ⟨h.1, fun c vs hH hr hv => (h.2 c vs hH hr hv).mono fun e w' hq => by
    obtain ⟨v, ce, h1, h2, h3, h4, h5, h6⟩ := hq
    exact ⟨v, ce, h1, h2, h3, h4, h5, Val_nz _ _ h6⟩⟩
end Go.Ab
namespace Go.Ab
open Go Go.Proofs
def c14 : AFn := ⟨(sq [(ox 6 (.mov (.v .nils))), (ox 7 (mb false)), (ox 8 (.mov (iv 0)))] (sq [(mv 17 0), (ox 18 (.nilchk (.t 17))), (ox 19 (fa 1 18)), (ox 20 (ld 19)), (mv 21 1), (ox 22 (.lookup .str .nilp true (.t 20) (.t 21))), (mv 16 22), (ox 23 (xt 16 0)), (ox 24 (xt 16 1)), (mv 9 23), (mv 10 24)] (.seq (sq [(mv 25 10), (ox 26 (.un .not (.t 25)))] (cd 26 (sq [(ox 6 (.mov (.v .nils))), (ox 7 (mb false)), (ox 8 (.mov (iv 300)))] .ret) .skip)) (.seq (sq [(mv 27 9), (ox 28 (.nilchk (.t 27))), (ox 29 (fa 3 28)), (ox 30 (ld 29))] (cd 30 (sq [(mv 31 0), (mv 32 9), (ox 33 (fc 44 [(.t 31), (.t 32)])), (mv 11 33)] (sq [(mv 34 9), (mv 35 9), (ox 36 .mkmap), (ox 37 (.nilchk (.t 34))), (ox 38 (fa 1 37)), (on (.store none (.t 38) (.t 36))), (ox 39 (.nilchk (.t 35))), (ox 40 (fa 3 39)), (on (.store none (.t 40) (.v (.bool false))))] (.seq (sq [(mv 41 11), (ox 42 (.len .sl (.t 41))), (ox 43 (.mov (iv 0)))] (.block 0 (.loop (sq [(ox 44 (b2 .lss 43 42))] (.seq (cd 44 .skip (.exit 0)) (.seq (.block 1 (sq [(ox 45 (.iaddr none 14 (.t 41) (.t 43))), (ox 46 (.load (some 14) (.t 45))), (ox 13 (.alloc 39 [(.int .i64 0), (.int .i64 0), (.str []), (.int .i64 0), .nils, .nils, .nils, .nils, .nils, (.str []), (.int .i64 0), (.str []), (.str []), (.int .i64 0)])), (on (.store (some 14) (.t 13) (.t 46)))] (.draw [(mv 47 9), (ox 48 (.nilchk (.t 47))), (ox 49 (fa 1 48)), (ox 50 (ld 49)), (ox 51 (fa 2 13)), (ox 52 (fa 0 51)), (ox 53 (ld 52)), (on (.mapset .str (.t 50) (.t 53) (.v (.bool true))))] [0, 1, 3, 7, 0, 16, 48, 127]))) (.ops [(ox 54 (b1 .add 43 1)), (mv 43 54)]))))))) (sq [(mv 55 11), (mv 6 55), (ox 7 (mb true)), (ox 8 (.mov (iv 0)))] .ret)))) .skip)) (sq [(ox 14 (.mov (.v .nils)))] (.seq (.block 2 (.loop (.seq (sq [(mv 56 14), (ox 57 (.len .sl (.t 56))), (mv 58 2), (ox 59 (b2 .lss 57 58)), (mv 60 59), (ot 61 (.mov (.t 9)) 60), (ot 62 (.nilchk (.t 61)) 60), (ot 63 (fa 2 62) 60), (ot 64 (ld 63) 60), (ot 65 (.len .sl (.t 64)) 60), (ot 66 (b1 .gtr 65 0) 60), (ox 67 (.pick (.t 60) (.t 66) (.v (.bool false))))] (cd 67 .skip (.exit 2))) (.block 3 (sq [(mv 68 9), (ox 69 (.nilchk (.t 68))), (ox 70 (fa 2 69)), (ox 71 (ld 70)), (ox 72 (.iaddr none 14 (.t 71) (iv 0))), (ox 73 (.load (some 14) (.t 72))), (ox 15 (.alloc 39 [(.int .i64 0), (.int .i64 0), (.str []), (.int .i64 0), .nils, .nils, .nils, .nils, .nils, (.str []), (.int .i64 0), (.str []), (.str []), (.int .i64 0)])), (on (.store (some 14) (.t 15) (.t 73)))] (sq [(ox 74 (fa 2 15)), (ox 75 (.load (some 12) (.t 74))), (ox 76 (fc 45 [(.t 75)])), (ox 77 (fa 2 15)), (on (.store (some 12) (.t 77) (.t 76)))] (.draw [(mv 78 9), (mv 79 14), (ox 80 (.load (some 14) (.t 15))), (ox 81 (.bslice 39 14 false [(.t 80)])), (ox 82 (.append 39 14 224 (.t 79) (.t 81))), (mv 83 9), (ox 84 (.nilchk (.t 83))), (ox 85 (fa 2 84)), (ox 86 (ld 85)), (ox 87 (.slice .sl 14 (.t 86) (some (iv 1)) none)), (mv 14 82), (ox 88 (.nilchk (.t 78))), (ox 89 (fa 2 88)), (on (.store none (.t 89) (.t 87)))] [0, 0, 0, 4, 14, 0, 32, 96, 224, 480, 30, 2047, 4095, 8191]))))))) (sq [(mv 90 14), (mv 6 90), (ox 7 (mb false)), (ox 8 (.mov (iv 0)))] .ret))))))), 91, [(.tmp 6), (.tmp 7), (.tmp 8)]⟩
theorem c14_ok : compileF Tryz.prog [] 14 = some c14 := by kernel_rfl
def c16 : AFn := ⟨(sq [(ox 3 (.box 36 (.t 1))), (ox 4 (.mov (iv 0)))] (.seq (sq [(ox 13 (.load (some 12) (.t 3))), (ox 14 (fc 46 [(.t 13)])), (ox 15 (b1 .neq 14 0))] (cd 15 (sq [(ox 4 (.mov (iv 304)))] .ret) .skip)) (.seq (sq [(ox 17 (fa 0 3)), (ox 18 (ld 17)), (ox 19 (fc 47 [(.t 18)])), (mv 16 19), (ox 20 (xt 16 0)), (ox 21 (xt 16 1)), (mv 5 20), (mv 6 21)] (sq [(mv 22 6)] (cd 22 (sq [(mv 24 0), (ox 25 (.nilchk (.t 24))), (ox 26 (fa 0 25)), (ox 27 (ld 26)), (mv 28 5), (ox 29 (.lookup .str (.agg [(.str []), (.int .i64 0), .nils, .nils, .nils, .nils, .nils, (.str []), (.int .i64 0), (.str []), (.str []), (.int .i64 0)]) true (.t 27) (.t 28))), (mv 23 29), (ox 30 (xt 23 0)), (ox 31 (xt 23 1)), (ox 7 (.alloc 36 [(.str []), (.int .i64 0), .nils, .nils, .nils, .nils, .nils, (.str []), (.int .i64 0), (.str []), (.str []), (.int .i64 0)])), (on (.store (some 12) (.t 7) (.t 30))), (mv 8 31)] (sq [(mv 32 8), (ox 33 (.un .not (.t 32)))] (cd 33 (sq [(ox 4 (.mov (iv 305)))] .ret) .skip))) .skip))) (.seq (.seq (.draw [(mv 35 0), (ox 36 (.nilchk (.t 35))), (ox 37 (fa 0 36)), (ox 38 (ld 37)), (ox 39 (fa 0 3)), (ox 40 (ld 39)), (ox 41 (.lookup .str (.agg [(.str []), (.int .i64 0), .nils, .nils, .nils, .nils, .nils, (.str []), (.int .i64 0), (.str []), (.str []), (.int .i64 0)]) true (.t 38) (.t 40))), (mv 34 41), (ox 42 (xt 34 0)), (ox 43 (xt 34 1)), (ox 9 (.alloc 36 [(.str []), (.int .i64 0), .nils, .nils, .nils, .nils, .nils, (.str []), (.int .i64 0), (.str []), (.str []), (.int .i64 0)])), (on (.store (some 12) (.t 9) (.t 42))), (mv 10 43)] [0, 1, 3, 7, 0, 16, 63, 127, 255, 255, 0, 1535, 4095]) (sq [(mv 44 10), (mv 45 44), (ot 46 (fa 1 9) 45), (ot 47 (ld 46) 45), (ot 48 (fa 1 3) 45), (ot 49 (ld 48) 45), (ot 50 (b2 .neq 47 49) 45), (ox 51 (.pick (.t 45) (.t 50) (.v (.bool false))))] (cd 51 (sq [(ox 4 (.mov (iv 306)))] .ret) .skip))) (sq [(ox 52 (.load (some 12) (.t 3))), (ox 53 (fc 45 [(.t 52)])), (on (.store (some 12) (.t 3) (.t 53)))] (.seq (.draw [(mv 54 0), (ox 55 (.nilchk (.t 54))), (ox 56 (fa 0 55)), (ox 57 (ld 56)), (ox 58 (fa 0 3)), (ox 59 (ld 58)), (ox 60 (.load (some 12) (.t 3))), (on (.mapset .str (.t 57) (.t 59) (.t 60)))] [0, 1, 3, 7, 0, 16, 0, 127]) (sq [(mv 61 0), (ox 62 (.nilchk (.t 61))), (ox 63 (fa 2 62)), (ox 64 (ld 63)), (ox 65 (b1 .add 64 1)), (ox 66 (.nilchk (.t 61))), (ox 67 (fa 2 66)), (on (.store none (.t 67) (.t 65)))] (.seq (sq [(mv 68 0), (ox 69 (.nilchk (.t 68))), (ox 70 (fa 1 69)), (ox 71 (ld 70)), (ox 72 (.mrange (.t 71)))] (.block 0 (.loop (sq [(ox 73 (.mnext (.t 72))), (ox 74 (xt 73 0))] (.seq (cd 74 .skip (.exit 0)) (.block 1 (sq [(ox 75 (.mentry (.t 72))), (ox 76 (xt 75 1)), (mv 12 76)] (.block 2 (.seq (.draw [(mv 78 12), (ox 79 (.nilchk (.t 78))), (ox 80 (fa 0 79)), (ox 81 (ld 80)), (ox 82 (.load (some 12) (.t 3))), (ox 83 (.call (.t 81) [(.t 82)])), (mv 77 83)] [0, 1, 3, 7, 0, 31, 63]) (cd 77 (.draw [(mv 84 12), (mv 85 0), (ox 86 (.nilchk (.t 85))), (ox 87 (fa 2 86)), (ox 88 (ld 87)), (ox 89 (.load (some 12) (.t 3))), (ox 90 (.build [(.int .i64 0), (.int .i64 0), (.str []), (.int .i64 0), .nils, .nils, .nils, .nils, .nils, (.str []), (.int .i64 0), (.str []), (.str []), (.int .i64 0)] [(0, (1, (.t 88))), (1, (1, (iv 1))), (2, (12, (.t 89)))])), (ox 91 (fc 48 [(.t 84), (.t 90)]))] [0, 0, 2, 6, 14, 0, 62, 127]) (.seq (.draw [(mv 93 12), (ox 94 (.nilchk (.t 93))), (ox 95 (fa 1 94)), (ox 96 (ld 95)), (ox 97 (fa 0 3)), (ox 98 (ld 97)), (ox 99 (.lookup .str (.bool false) false (.t 96) (.t 98))), (mv 92 99)] [0, 1, 3, 7, 0, 16, 63, 127]) (cd 92 (.draw [(mv 100 12), (mv 101 0), (ox 102 (.nilchk (.t 101))), (ox 103 (fa 2 102)), (ox 104 (ld 103)), (ox 105 (.load (some 12) (.t 3))), (ox 106 (.build [(.int .i64 0), (.int .i64 0), (.str []), (.int .i64 0), .nils, .nils, .nils, .nils, .nils, (.str []), (.int .i64 0), (.str []), (.str []), (.int .i64 0)] [(0, (1, (.t 104))), (1, (1, (iv 2))), (2, (12, (.t 105)))])), (ox 107 (fc 48 [(.t 100), (.t 106)]))] [0, 0, 2, 6, 14, 0, 62, 127]) .skip)))))))))))) (sq [(ox 4 (.mov (iv 0)))] .ret))))))))), 108, [(.tmp 4)]⟩
theorem c16_ok : compileF Tryz.prog [] 16 = some c16 := by kernel_rfl
def c17 : AFn := ⟨(sq [(ox 6 (.alloc 36 [(.str []), (.int .i64 0), .nils, .nils, .nils, .nils, .nils, (.str []), (.int .i64 0), (.str []), (.str []), (.int .i64 0)]))] (sq [(mv 7 0), (mv 8 1), (mv 9 2), (ox 10 (.build [(.str []), (.str [])] [(0, (1, (.v (.str [83, 85, 66, 83, 89, 83, 84, 69, 77])))), (1, (1, (.t 9)))])), (ox 11 (.bslice 97 2 false [(.t 10)])), (ox 12 (.build [(.str []), (.int .i64 0), .nils, .nils, .nils, .nils, .nils, (.str []), (.int .i64 0), (.str []), (.str []), (.int .i64 0)] [(0, (1, (.t 7))), (1, (1, (.t 8))), (2, (1, (.t 11)))])), (on (.store (some 12) (.t 6) (.t 12)))] .ret)), 13, [(.cell 6 (some 12))]⟩
theorem c17_ok : compileF Tryz.prog [] 17 = some c17 := by kernel_rfl
def c18 : AFn := ⟨(sq [(ox 0 (mb false))] (sq [(ox 16 (fc 12 [])), (mv 1 16)] (.seq (sq [(mv 17 1), (ox 18 (.ext (.pnil false) [(.t 17)])), (mv 19 18), (of 20 (.mov (.t 1)) 19), (of 21 (.build [(.str []), (.str [])] [(0, (1, (.v (.str [98, 108, 111, 99, 107]))))]) 19), (of 22 (fc 13 [(.t 20), (.v (.str [115])), (.t 21)]) 19), (of 23 (b1 .neq 22 0) 19), (ox 24 (.pick (.t 19) (.v (.bool true)) (.t 23)))] (cd 24 (sq [(ox 0 (mb false))] .ret) .skip)) (sq [(mv 26 1), (ox 27 (fc 14 [(.t 26), (.v (.str [115])), (iv 0)])), (mv 25 27), (ox 28 (xt 25 0)), (ox 29 (xt 25 1)), (ox 30 (xt 25 2)), (mv 2 28), (mv 3 29), (mv 4 30)] (sq [(mv 31 1), (ox 32 (fc 17 [(.v (.str [47, 97, 47, 98])), (iv 2), (.v (.str [98, 108, 111, 99, 107]))])), (ox 33 (fc 16 [(.t 31), (.t 32)])), (mv 5 33)] (sq [(mv 34 1), (ox 35 (fc 17 [(.v (.str [47, 97])), (iv 1), (.v (.str [117, 115, 98]))])), (ox 36 (fc 16 [(.t 34), (.t 35)])), (mv 37 1), (ox 38 (fc 17 [(.v (.str [47, 97, 47, 98])), (iv 2), (.v (.str [98, 108, 111, 99, 107]))])), (ox 39 (fc 16 [(.t 37), (.t 38)])), (mv 6 36), (mv 7 39)] (sq [(mv 41 1), (ox 42 (fc 14 [(.t 41), (.v (.str [115])), (iv 9)])), (mv 40 42), (ox 43 (xt 40 0)), (ox 44 (xt 40 1)), (ox 45 (xt 40 2)), (mv 8 43), (mv 9 44), (mv 10 45)] (sq [(mv 46 1), (ox 47 (fc 27 [(.t 46), (.v (.str [47, 97]))])), (mv 11 47)] (sq [(mv 48 1), (ox 49 (fc 17 [(.v (.str [47, 97, 47, 98])), (iv 2), (.v (.str [115, 99, 115, 105]))])), (ox 50 (fc 16 [(.t 48), (.t 49)])), (mv 12 50)] (sq [(mv 52 1), (ox 53 (fc 14 [(.t 52), (.v (.str [115])), (iv 9)])), (mv 51 53), (ox 54 (xt 51 0)), (ox 55 (xt 51 1)), (ox 56 (xt 51 2)), (mv 13 54), (mv 14 55), (mv 15 56)] (sq [(mv 57 2), (ox 58 (.len .sl (.t 57))), (ox 59 (b1 .eql 58 0)), (mv 60 59), (ot 61 (.mov (.t 3)) 60), (ox 62 (.pick (.t 60) (.t 61) (.v (.bool false)))), (mv 63 62), (ot 64 (.mov (.t 5)) 63), (ot 65 (b1 .eql 64 305) 63), (ox 66 (.pick (.t 63) (.t 65) (.v (.bool false)))), (mv 67 66), (ot 68 (.mov (.t 6)) 67), (ot 69 (b1 .eql 68 0) 67), (ox 70 (.pick (.t 67) (.t 69) (.v (.bool false)))), (mv 71 70), (ot 72 (.mov (.t 7)) 71), (ot 73 (b1 .eql 72 0) 71), (ox 74 (.pick (.t 71) (.t 73) (.v (.bool false)))), (mv 75 74), (ot 76 (.mov (.t 9)) 75), (ot 77 (.un .not (.t 76)) 75), (ox 78 (.pick (.t 75) (.t 77) (.v (.bool false)))), (mv 79 78), (ot 80 (.mov (.t 8)) 79), (ot 81 (.len .sl (.t 80)) 79), (ot 82 (b1 .eql 81 1) 79), (ox 83 (.pick (.t 79) (.t 82) (.v (.bool false)))), (mv 84 83), (ot 85 (.mov (.t 8)) 84), (ot 86 (.iaddr none 14 (.t 85) (iv 0)) 84), (ot 87 (fa 0 86) 84), (ot 88 (ld 87) 84), (ot 89 (b1 .eql 88 2) 84), (ox 90 (.pick (.t 84) (.t 89) (.v (.bool false)))), (mv 91 90), (ot 92 (.mov (.t 8)) 91), (ot 93 (.iaddr none 14 (.t 92) (iv 0)) 91), (ot 94 (fa 2 93) 91), (ot 95 (fa 0 94) 91), (ot 96 (ld 95) 91), (ot 97 (.bin .eql (.t 96) (.v (.str [47, 97, 47, 98]))) 91), (ox 98 (.pick (.t 91) (.t 97) (.v (.bool false)))), (mv 99 98), (ot 100 (.mov (.t 11)) 99), (ot 101 (b1 .eql 100 308) 99), (ox 102 (.pick (.t 99) (.t 101) (.v (.bool false)))), (mv 103 102), (ot 104 (.mov (.t 12)) 103), (ot 105 (b1 .eql 104 0) 103), (ox 106 (.pick (.t 103) (.t 105) (.v (.bool false)))), (mv 107 106), (ot 108 (.mov (.t 13)) 107), (ot 109 (.len .sl (.t 108)) 107), (ot 110 (b1 .eql 109 1) 107), (ox 111 (.pick (.t 107) (.t 110) (.v (.bool false)))), (mv 112 111), (ot 113 (.mov (.t 13)) 112), (ot 114 (.iaddr none 14 (.t 113) (iv 0)) 112), (ot 115 (fa 1 114) 112), (ot 116 (ld 115) 112), (ot 117 (b1 .eql 116 2) 112), (ox 118 (.pick (.t 112) (.t 117) (.v (.bool false)))), (mv 119 118), (ot 120 (.mov (.t 13)) 119), (ot 121 (.iaddr none 14 (.t 120) (iv 0)) 119), (ot 122 (fa 0 121) 119), (ot 123 (ld 122) 119), (ot 124 (b1 .eql 123 3) 119), (ox 125 (.pick (.t 119) (.t 124) (.v (.bool false)))), (mv 0 125)] .ret))))))))))), 126, [(.tmp 0)]⟩
theorem c18_ok : compileF Tryz.prog [] 18 = some c18 := by kernel_rfl
def c27 : AFn := ⟨(sq [(ox 4 (.mov (iv 0)))] (sq [(mv 11 0), (ox 12 (.nilchk (.t 11))), (ox 13 (fa 0 12)), (ox 14 (ld 13)), (mv 15 1), (ox 16 (.lookup .str (.agg [(.str []), (.int .i64 0), .nils, .nils, .nils, .nils, .nils, (.str []), (.int .i64 0), (.str []), (.str []), (.int .i64 0)]) true (.t 14) (.t 15))), (mv 10 16), (ox 17 (xt 10 0)), (ox 18 (xt 10 1)), (ox 5 (.alloc 36 [(.str []), (.int .i64 0), .nils, .nils, .nils, .nils, .nils, (.str []), (.int .i64 0), (.str []), (.str []), (.int .i64 0)])), (on (.store (some 12) (.t 5) (.t 17))), (mv 6 18)] (.seq (sq [(mv 19 6), (ox 20 (.un .not (.t 19)))] (cd 20 (sq [(ox 4 (.mov (iv 307)))] .ret) .skip)) (.seq (sq [(mv 21 0), (ox 22 (.nilchk (.t 21))), (ox 23 (fa 0 22)), (ox 24 (ld 23)), (ox 25 (.mrange (.t 24)))] (.block 0 (.loop (sq [(ox 26 (.mnext (.t 25))), (ox 27 (xt 26 0))] (.seq (cd 27 .skip (.exit 0)) (.block 1 (sq [(ox 28 (.mentry (.t 25))), (ox 29 (xt 28 0)), (mv 7 29)] (sq [(mv 30 1), (mv 31 7), (ox 32 (fc 59 [(.t 30), (.t 31)]))] (cd 32 (sq [(ox 4 (.mov (iv 308)))] .ret) .skip))))))))) (sq [(mv 33 0), (ox 34 (.nilchk (.t 33))), (ox 35 (fa 0 34)), (ox 36 (ld 35)), (mv 37 1), (on (.mdel .str (.t 36) (.t 37)))] (sq [(mv 38 0), (ox 39 (.nilchk (.t 38))), (ox 40 (fa 2 39)), (ox 41 (ld 40)), (ox 42 (b1 .add 41 1)), (ox 43 (.nilchk (.t 38))), (ox 44 (fa 2 43)), (on (.store none (.t 44) (.t 42)))] (.seq (sq [(mv 45 0), (ox 46 (.nilchk (.t 45))), (ox 47 (fa 1 46)), (ox 48 (ld 47)), (ox 49 (.mrange (.t 48)))] (.block 2 (.loop (sq [(ox 50 (.mnext (.t 49))), (ox 51 (xt 50 0))] (.seq (cd 51 .skip (.exit 2)) (.block 3 (sq [(ox 52 (.mentry (.t 49))), (ox 53 (xt 52 1)), (mv 9 53)] (sq [(mv 54 9), (ox 55 (.nilchk (.t 54))), (ox 56 (fa 1 55)), (ox 57 (ld 56)), (mv 58 1), (ox 59 (.lookup .str (.bool false) false (.t 57) (.t 58)))] (cd 59 (.draw [(mv 60 9), (mv 61 0), (ox 62 (.nilchk (.t 61))), (ox 63 (fa 2 62)), (ox 64 (ld 63)), (ox 65 (.load (some 12) (.t 5))), (ox 66 (.build [(.int .i64 0), (.int .i64 0), (.str []), (.int .i64 0), .nils, .nils, .nils, .nils, .nils, (.str []), (.int .i64 0), (.str []), (.str []), (.int .i64 0)] [(0, (1, (.t 64))), (1, (1, (iv 2))), (2, (12, (.t 65)))])), (ox 67 (fc 48 [(.t 60), (.t 66)]))] [0, 0, 2, 6, 14, 0, 62, 127]) .skip))))))))) (sq [(ox 4 (.mov (iv 0)))] .ret)))))))), 68, [(.tmp 4)]⟩
theorem c27_ok : compileF Tryz.prog [] 27 = some c27 := by kernel_rfl
def c44 : AFn := ⟨(sq [(ox 4 (.mov (.v .nils)))] (sq [(ox 5 (.mov (.v .nils)))] (.seq (sq [(mv 8 0), (ox 9 (fc 22 [(.t 8)])), (ox 10 (.len .sl (.t 9))), (ox 11 (.mov (iv 0)))] (.block 0 (.loop (sq [(ox 12 (b2 .lss 11 10))] (.seq (cd 12 .skip (.exit 0)) (.seq (.block 1 (sq [(ox 13 (.iaddr none 12 (.t 9) (.t 11))), (ox 14 (.load (some 12) (.t 13))), (ox 7 (.alloc 36 [(.str []), (.int .i64 0), .nils, .nils, .nils, .nils, .nils, (.str []), (.int .i64 0), (.str []), (.str []), (.int .i64 0)])), (on (.store (some 12) (.t 7) (.t 14)))] (.seq (.draw [(mv 15 1), (ox 16 (.nilchk (.t 15))), (ox 17 (fa 0 16)), (ox 18 (ld 17)), (ox 19 (.load (some 12) (.t 7))), (ox 20 (.call (.t 18) [(.t 19)]))] [0, 1, 3, 7, 0, 31]) (cd 20 (.draw [(mv 21 5), (mv 22 0), (ox 23 (.nilchk (.t 22))), (ox 24 (fa 2 23)), (ox 25 (ld 24)), (ox 26 (.load (some 12) (.t 7))), (ox 27 (.build [(.int .i64 0), (.int .i64 0), (.str []), (.int .i64 0), .nils, .nils, .nils, .nils, .nils, (.str []), (.int .i64 0), (.str []), (.str []), (.int .i64 0)] [(0, (1, (.t 25))), (1, (1, (iv 1))), (2, (12, (.t 26)))])), (ox 28 (.bslice 39 14 false [(.t 27)])), (ox 29 (.append 39 14 224 (.t 21) (.t 28))), (mv 5 29)] [0, 0, 2, 6, 14, 0, 62, 126, 255, 511]) .skip)))) (.ops [(ox 30 (b1 .add 11 1)), (mv 11 30)]))))))) (sq [(mv 31 5), (mv 4 31)] .ret)))), 32, [(.tmp 4)]⟩
theorem c44_ok : compileF Tryz.prog [] 44 = some c44 := by kernel_rfl
def c53 : AFn := ⟨(sq [(ox 1 (.box 79 (.t 0))), (ox 2 (.mov (.v .nilf)))] (sq [(ox 3 (.mkfn (.func 94) [] [(.t 1)])), (mv 2 3)] .ret)), 4, [(.tmp 2)]⟩
theorem c53_ok : compileF Tryz.prog [] 53 = some c53 := by kernel_rfl
def c52 : AFn := ⟨(sq [(ox 4 (.mov (.v .nils)))] (sq [(mv 6 0), (ox 7 (fc 93 [(.t 6)])), (mv 5 7)] (sq [(mv 8 5), (mv 9 1), (ox 10 (fc 72 [(.t 8), (.t 9)]))] (sq [(mv 11 5), (mv 4 11)] .ret)))), 12, [(.tmp 4)]⟩
theorem c52_ok : compileF Tryz.prog [] 52 = some c52 := by kernel_rfl
def c72 : AFn := ⟨(sq [(mv 5 0), (ox 6 (.len .sl (.t 5))), (mv 4 6)] (.ops [(mv 7 0), (mv 8 4), (mv 9 4), (ox 10 (.conv .u64 (.t 9))), (ox 11 (fc 109 [(.t 10)])), (mv 12 1), (ox 13 (fc 108 [(.t 7), (iv 0), (.t 8), (.t 11), (.t 12)]))])), 14, []⟩
theorem c72_ok : compileF Tryz.prog [] 72 = some c72 := by kernel_rfl
def c3 : AFn := ⟨(sq [(ox 4 (mb false))] (sq [(ox 16 (fc 12 [])), (mv 5 16)] (.seq (sq [(mv 17 5), (ox 18 (.ext (.pnil false) [(.t 17)])), (mv 19 18), (of 20 (.mov (.t 5)) 19), (of 21 (.build [(.str []), (.str [])] [(0, (1, (.v (.str [42]))))]) 19), (of 22 (fc 13 [(.t 20), (.v (.str [115])), (.t 21)]) 19), (of 23 (b1 .neq 22 0) 19), (ox 24 (.pick (.t 19) (.v (.bool true)) (.t 23)))] (cd 24 (sq [(ox 4 (mb false))] .ret) .skip)) (.seq (sq [(mv 26 5), (ox 27 (fc 14 [(.t 26), (.v (.str [115])), (iv 1)])), (mv 25 27), (ox 28 (xt 25 0)), (ox 29 (xt 25 1)), (ox 30 (xt 25 2)), (mv 6 28), (mv 7 29), (mv 8 30)] (sq [(mv 31 7), (ox 32 (.un .not (.t 31))), (mv 33 32), (of 34 (.mov (.t 8)) 33), (of 35 (b1 .neq 34 0) 33), (ox 36 (.pick (.t 33) (.v (.bool true)) (.t 35)))] (cd 36 (sq [(ox 4 (mb false))] .ret) .skip))) (sq [(mv 37 0), (ox 38 (fc 15 [(.t 37), (iv 7)])), (ox 39 (.bin .add (iv 61) (.t 38))), (mv 0 39)] (.seq (sq [(ox 9 (.mov (iv 0)))] (.block 0 (.loop (.seq (sq [(mv 40 9), (mv 41 0), (ox 42 (b2 .lss 40 41))] (cd 42 .skip (.exit 0))) (.seq (.block 1 (sq [(mv 45 5), (ox 46 (fc 17 [(.v (.str [47, 97])), (iv 1), (.v (.str [117, 115, 98]))])), (ox 47 (fc 16 [(.t 45), (.t 46)])), (ox 48 (b1 .neq 47 0))] (cd 48 (sq [(ox 4 (mb false))] .ret) .skip))) (.ops [(mv 43 9), (ox 44 (b1 .add 43 1)), (mv 9 44)])))))) (sq [(mv 50 5), (mv 51 1), (ox 52 (fc 14 [(.t 50), (.v (.str [115])), (.t 51)])), (mv 49 52), (ox 53 (xt 49 0)), (ox 54 (xt 49 1)), (ox 55 (xt 49 2)), (mv 10 53), (mv 11 54), (mv 12 55)] (.seq (sq [(mv 56 12), (ox 57 (b1 .neq 56 0)), (mv 58 57), (of 59 (.mov (.t 11)) 58), (of 60 (.mov (.t 0)) 58), (of 61 (b1 .gtr 60 64) 58), (of 62 (.binb true (.t 59) (.t 61)) 58), (ox 63 (.pick (.t 58) (.v (.bool true)) (.t 62)))] (cd 63 (sq [(ox 4 (mb false))] .ret) .skip)) (.seq (sq [(mv 64 11)] (cd 64 (sq [(mv 66 5), (ox 67 (fc 14 [(.t 66), (.v (.str [115])), (iv 1)])), (mv 65 67), (ox 68 (xt 65 0)), (ox 69 (xt 65 1)), (ox 70 (xt 65 2)), (mv 13 68), (mv 14 69), (mv 15 70)] (sq [(mv 71 10), (ox 72 (.len .sl (.t 71))), (ox 73 (b1 .eql 72 1)), (mv 74 73), (ot 75 (.mov (.t 10)) 74), (ot 76 (.iaddr none 14 (.t 75) (iv 0)) 74), (ot 77 (fa 0 76) 74), (ot 78 (ld 77) 74), (ot 79 (.mov (.t 0)) 74), (ot 80 (b2 .eql 78 79) 74), (ox 81 (.pick (.t 74) (.t 80) (.v (.bool false)))), (mv 82 81), (ot 83 (.mov (.t 14)) 82), (ot 84 (.un .not (.t 83)) 82), (ox 85 (.pick (.t 82) (.t 84) (.v (.bool false)))), (mv 86 85), (ot 87 (fc 18 []) 86), (ox 88 (.pick (.t 86) (.t 87) (.v (.bool false)))), (mv 4 88)] .ret)) .skip)) (sq [(mv 89 10), (ox 90 (.len .sl (.t 89))), (mv 91 1), (mv 92 0), (ox 93 (.ext .least [(.t 91), (.t 92)])), (ox 94 (.ext .most [(iv 0), (.t 93)])), (ox 95 (b2 .eql 90 94)), (mv 96 95), (ot 97 (fc 18 []) 96), (ox 98 (.pick (.t 96) (.t 97) (.v (.bool false)))), (mv 4 98)] .ret)))))))))), 99, [(.tmp 4)]⟩
theorem c3_ok : compileF Tryz.prog [] 3 = some c3 := by kernel_rfl
def c4 : AFn := ⟨(sq [(ox 2 (mb false))] (sq [(ox 7 (fc 12 [])), (mv 3 7)] (.seq (sq [(mv 8 3), (ox 9 (.ext (.pnil false) [(.t 8)]))] (cd 9 (sq [(ox 2 (mb false))] .ret) .skip)) (sq [(mv 10 0), (ox 11 (fc 15 [(.t 10), (iv 18)])), (mv 0 11)] (.seq (sq [(ox 4 (.mov (iv 0)))] (.block 0 (.loop (.seq (sq [(mv 12 4), (mv 13 0), (ox 14 (b2 .lss 12 13))] (cd 14 .skip (.exit 0))) (.seq (.block 1 (sq [(ox 5 (.mov (iv 0)))] (.seq (sq [(mv 17 4), (ox 18 (b1 .geq 17 16))] (cd 18 (.ops [(ox 5 (.mov (iv 303)))]) .skip)) (sq [(mv 19 4), (ox 20 (.bin .add (iv 97) (.t 19))), (ox 21 (.conv .u8 (.t 20))), (ox 22 (.bslice 5 1 false [(.t 21)])), (ox 23 (.ext .b2s [(.t 22)])), (ox 24 (.bin .add (.v (.str [115])) (.t 23))), (mv 6 24)] (sq [(mv 25 3), (mv 26 6), (ox 27 (.build [(.str []), (.str [])] [(0, (1, (.v (.str [42]))))])), (ox 28 (fc 13 [(.t 25), (.t 26), (.t 27)])), (mv 29 5), (ox 30 (b2 .neq 28 29)), (mv 31 30), (of 32 (.mov (.t 5)) 31), (of 33 (b1 .eql 32 0) 31), (of 34 (.mov (.t 33)) 31), (ot 35 (.mov (.t 3)) 34), (ot 36 (.mov (.t 6)) 34), (ot 37 (.build [(.str []), (.str [])] [(0, (1, (.v (.str [42]))))]) 34), (ot 38 (fc 13 [(.t 35), (.t 36), (.t 37)]) 34), (ot 39 (b1 .neq 38 302) 34), (of 40 (.pick (.t 34) (.t 39) (.v (.bool false))) 31), (ox 41 (.pick (.t 31) (.v (.bool true)) (.t 40)))] (cd 41 (sq [(ox 2 (mb false))] .ret) .skip)))))) (.ops [(mv 15 4), (ox 16 (b1 .add 15 1)), (mv 4 16)])))))) (sq [(mv 42 0), (ox 43 (b1 .eql 42 0)), (mv 44 43), (of 45 (.mov (.t 3)) 44), (of 46 (fc 19 [(.t 45), (.v (.str [115, 97]))]) 44), (of 47 (b1 .eql 46 0) 44), (of 48 (.mov (.t 47)) 44), (ot 49 (.mov (.t 3)) 48), (ot 50 (.build [(.str []), (.str [])] [(0, (1, (.v (.str [42]))))]) 48), (ot 51 (fc 13 [(.t 49), (.v (.str [110, 101, 119])), (.t 50)]) 48), (ot 52 (b1 .eql 51 0) 48), (of 53 (.pick (.t 48) (.t 52) (.v (.bool false))) 44), (ox 54 (.pick (.t 44) (.v (.bool true)) (.t 53))), (mv 55 54), (ot 56 (fc 18 []) 55), (ox 57 (.pick (.t 55) (.t 56) (.v (.bool false)))), (mv 2 57)] .ret)))))), 58, [(.tmp 2)]⟩
theorem c4_ok : compileF Tryz.prog [] 4 = some c4 := by kernel_rfl
end Go.Ab
namespace Go.Ab
open Go Go.Proofs
set_option maxRecDepth 20000
def mkRec (p : List UInt8) (n : Int) (s : List UInt8) : Rcd := ⟨p, n, [([83, 85, 66, 83, 89, 83, 84, 69, 77], s)], [], [], [], [], [], 0, [], [], 0⟩
theorem made_c (p : List UInt8) (n : Int) (s : List UInt8) : ACalls Tryz.prog 17 [.str p, .int .i64 n, .str s] [] (.agg (rRow (mkRec p n s))) [] := by
  have h : ACalls Tryz.prog 17 [.str p, .int .i64 n, .str s] [] (.agg [AV.str p, AV.int IntKind.i64 n, AV.imm [[AV.str [83, 85, 66, 83, 89, 83, 84, 69, 77], AV.str s]], AV.nils,
          AV.nils, AV.nils, AV.nils, AV.str [], AV.int IntKind.i64 0, AV.str [], AV.str [], AV.int IntKind.i64 0]) [] := by
    refine acalls_F c17_ok rfl ?_
    unfold c17
    simp +decide -dsimp -implicitDefEqProofs [go_sem]
  exact h.nzR
theorem check_c (r : Rcd) (hf : Few r) : ACalls Tryz.prog 46 [.agg (rRow r)] [] (.int .i64 (if soundB r then 0 else 250)) [] := by
  have cs := sound_c r hf
  have hcl := fun k => rRow_cl k r
  unfold rRow at cs hcl ⊢
  refine acalls_F c46_ok rfl ?_
  unfold c46
  simp +decide -dsimp -implicitDefEqProofs [go_sem]
  refine callE_pure cs (by rw [closedL, closed, hcl 0]; rfl) rfl ?_
  cases hb : soundB r with
  | true => simp +decide -dsimp -implicitDefEqProofs [go_sem]
  | false => simp +decide -dsimp -implicitDefEqProofs [go_sem]
end Go.Ab
namespace Go.Ab
open Go Go.Proofs
set_option maxRecDepth 20000
def jkT : List AV → List AV → Prop
  | [], [] => True
  | x :: xs, y :: ys => (y = .junk ∨ y = x) ∧ jkT xs ys
  | _, _ => False
theorem jkT_spec : ∀ {T T' : List AV}, jkT T T' → T.length = T'.length ∧ ∀ (n : Nat), (T'[n]?).getD .junk = .junk ∨ (T'[n]?).getD .junk = (T[n]?).getD .junk
  | [], [], _ => ⟨rfl, by simp⟩
  | x :: xs, y :: ys, h => by
    obtain ⟨h1, h2⟩ := jkT_spec h.2
    refine ⟨by simp [h1], fun n => ?_⟩
    cases n with
    | zero => simpa using h.1
    | succ n => simpa using h2 n
  | [], _ :: _, h => h.elim
  | _ :: _, [], h => h.elim
theorem Wk.jk {k : Nat} {T T' : List AV} {H : List AObj} (h : jkT T T') : Wk k ⟨T, H⟩ ⟨T', H⟩ := fun c a hr hH hF => by
  obtain ⟨h1, h2⟩ := jkT_spec h
  refine ⟨c, rfl, hr, .refl k c, hH, ?_⟩
  refine ⟨by rw [← hF.1]; exact h1.symm, hF.2.1, fun n => ?_⟩
  rcases h2 n with e | e
  · rw [e]; exact Val_junk _ _
  · rw [e]; exact hF.2.2 n
theorem bus_app {H : List AObj} {ob ro so : Nat} {B : Bus} (h : BusAt H ob ro so B) (l : List AObj) : BusAt (H ++ l) ob ro so B ∧ BusF H (H ++ l) ob ro so B B := by
  have ap : ∀ {i : Nat} {x : AObj} (l : List AObj), H[i]? = some x → (H ++ l)[i]? = some x := fun l hx => by
    rw [List.getElem?_append_left (List.getElem?_eq_some_iff.1 hx).1]; exact hx
  exact ⟨⟨ap l h.box, ap l h.rdy, ap l h.sbs, h.rso, fun j p hj => (h.sub j p hj).keep (fun _ h => h) fun i hi => List.getElem?_append_left (h.out i ⟨j, p, hj, hi⟩).1, fun i hi => ⟨by have := (h.out i hi).1; simp; omega, (h.out i hi).2⟩, h.dis⟩,
      ⟨by simp, fun i hi _ _ _ h' => ⟨List.getElem?_append_left hi, h'⟩⟩⟩
theorem BusF.trans {H G I : List AObj} {ob ro so : Nat} {A B C : Bus} (h : BusF H G ob ro so A B) (k : BusF G I ob ro so B C) : BusF H I ob ro so A C :=
  ⟨Nat.le_trans h.len k.len, fun i h1 h2 h3 h4 h5 => by
    obtain ⟨h6, h7⟩ := h.keep i h1 h2 h3 h4 h5
    obtain ⟨h8, h9⟩ := k.keep i (Nat.lt_of_lt_of_le h1 h.len) h2 h3 h4 h7
    exact ⟨h8.trans h6, h9⟩⟩
def Bus.put (B : Bus) (j : Nat) (k : List UInt8) (x : SbL) : Bus := { B with subs := B.subs.set j (some (k, x)) }
theorem set_place {α : Type} {l : List (Option α)} {j i : Nat} {x p : α} (h : (l.set j (some x))[i]? = some (some p)) : (i = j ∧ p = x) ∨ (i ≠ j ∧ l[i]? = some (some p)) := by
  by_cases e : j = i
  · subst e
    rw [List.getElem?_set] at h
    simp at h
    exact .inl ⟨rfl, h.2.symm⟩
  · rw [List.getElem?_set_ne e] at h
    exact .inr ⟨Ne.symm e, h⟩
theorem bus_upd {H : List AObj} {ob ro so : Nat} {B : Bus} (h : BusAt H ob ro so B) {j : Nat} {k : List UInt8} {x : SbL} (hj : B.subs[j]? = some (some (k, x))) {u : Nat} (hu : H[u]? = some .unborn) (hn : ¬ B.foot u)
    {G : List AObj} (hlen : G.length = H.length) (hG : ∀ i, i ∉ x.fp → i ≠ u → G[i]? = H[i]?) {s' : Sb} (hs : SubAt G x.o (u :: x.fp) s') :
    BusAt G ob ro so (B.put j k ⟨x.o, u :: x.fp, s'⟩) ∧ (∀ i, i ≠ u → ¬ B.foot i → G[i]? = H[i]? ∧ ¬ (B.put j k ⟨x.o, u :: x.fp, s'⟩).foot i) := by
  have uo : ob ≠ u := at_ne h.box hu (by simp)
  have ur : ro ≠ u := at_ne h.rdy hu (by simp)
  have us : so ≠ u := at_ne h.sbs hu (by simp)
  have ul := (List.getElem?_eq_some_iff.1 hu).1
  have fx : ∀ i, i ∈ x.fp → B.foot i := fun i hi => ⟨j, (k, x), hj, hi⟩
  have nf : ∀ i, ¬ B.foot i → i ≠ u → G[i]? = H[i]? := fun i h1 h2 => hG i (fun h3 => h1 (fx i h3)) h2
  have no : ¬ B.foot ob := fun e => (h.out ob e).2.1 rfl
  have nr : ¬ B.foot ro := fun e => (h.out ro e).2.2.1 rfl
  have ns : ¬ B.foot so := fun e => (h.out so e).2.2.2 rfl
  have ft : ∀ i, (B.put j k ⟨x.o, u :: x.fp, s'⟩).foot i → i = u ∨ B.foot i := fun i ⟨m, p, h1, h2⟩ => by
    rcases set_place h1 with ⟨_, rfl⟩ | ⟨_, h3⟩
    · rcases List.mem_cons.1 h2 with h4 | h4
      · exact .inl h4
      · exact .inr (fx i h4)
    · exact .inr ⟨m, p, h3, h2⟩
  have hsb : sbM (B.put j k ⟨x.o, u :: x.fp, s'⟩).subs = sbM B.subs := by
    show List.map _ (B.subs.set j _) = List.map _ B.subs
    rw [List.map_set]
    exact set_same (by rw [List.getElem?_map, hj]; rfl)
  refine ⟨⟨(nf ob no uo).trans h.box, (nf ro nr ur).trans h.rdy, by rw [hsb]; exact (nf so ns us).trans h.sbs, h.rso, fun m p hm => ?_, fun i hi => ?_, fun a b p q hab ha hb y hy => ?_⟩, fun i h1 h2 => ⟨nf i h2 h1, fun h3 => ?_⟩⟩
  · rcases set_place hm with ⟨_, rfl⟩ | ⟨hmj, h3⟩
    · exact hs
    · exact (h.sub m p h3).keep (fun _ h => h) fun i hi => hG i (h.dis m j p (k, x) hmj h3 hj i hi) fun e => hn (e ▸ ⟨m, p, h3, hi⟩)
  · rcases ft i hi with rfl | h3
    · exact ⟨by omega, Ne.symm uo, Ne.symm ur, Ne.symm us⟩
    · rw [hlen]; exact h.out i h3
  · rcases set_place ha with ⟨ea, rfl⟩ | ⟨ea, h3⟩
    · rcases set_place hb with ⟨eb, rfl⟩ | ⟨eb, h4⟩
      · exact (hab (ea.trans eb.symm)).elim
      · rcases List.mem_cons.1 hy with rfl | h5
        · exact fun h6 => hn ⟨b, q, h4, h6⟩
        · exact h.dis j b (k, x) q (Ne.symm eb) hj h4 y h5
    · rcases set_place hb with ⟨eb, rfl⟩ | ⟨eb, h4⟩
      · intro h5
        rcases List.mem_cons.1 h5 with rfl | h5
        · exact hn ⟨a, p, h3, hy⟩
        · exact h.dis a j p (k, x) ea h3 hj y hy h5
      · exact h.dis a b p q hab h3 h4 y hy
  · rcases ft i h3 with rfl | h4
    · exact h1 rfl
    · exact h2 h4
end Go.Ab
