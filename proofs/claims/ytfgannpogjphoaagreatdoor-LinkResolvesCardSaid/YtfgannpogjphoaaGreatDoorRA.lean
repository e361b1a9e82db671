/- The reference of the links: names near each other; the open claims; the place of a path. -/
import Derived.Test.YtfgannpogjphoaaGreatDoorW3
namespace Go.Ab
open Go Go.Proofs Go.Sort
set_option maxRecDepth 20000
theorem rBen_c (a b : Txt) (ha : a.length ≤ 140737488351232) : ACalls Tryz.prog 56 [.str a, .str b] [] (.bool (benB a b)) [] := by
  have c := HasPrefix_c b (a ++ [47]) (by simp; omega)
  refine acalls_F c56_ok rfl ?_
  unfold c56 benB
  simp +decide -dsimp -implicitDefEqProofs [go_sem]
  refine ⟨by omega, ?_⟩
  refine callE_pure c rfl rfl ?_
  simp +decide -dsimp -implicitDefEqProofs [go_sem]
theorem rNear_c (a b : Txt) (ha : a.length ≤ 140737488351232) (hb : b.length ≤ 140737488351232) : ACalls Tryz.prog 85 [.str a, .str b] [] (.bool (nearB a b)) [] := by
  have c1 := rBen_c a b ha
  have c2 := rBen_c b a hb
  refine acalls_F c85_ok rfl ?_
  unfold c85 nearB
  by_cases h : a = b
  · simp +decide -dsimp -implicitDefEqProofs [go_sem, h]
  · simp +decide -dsimp -implicitDefEqProofs [go_sem, h]
    refine callE_pure c1 rfl rfl ?_
    cases h1 : benB a b with
    | true => simp +decide -dsimp -implicitDefEqProofs [go_sem, h]
    | false =>
      simp +decide -dsimp -implicitDefEqProofs [go_sem, h]
      refine callE_pure c2 rfl rfl ?_
      simp +decide -dsimp -implicitDefEqProofs [go_sem]
def fndI (w : List Dv) (p : Txt) : Int := idxI (w.findIdx? fun d => decide (d.1 = p))
theorem find_c (w : List Dv) (p : Txt) (hl : w.length < 1000000000) : ACalls Tryz.prog 77 [.imm (w.map dvRow), .str p] [] (.int .i64 (fndI w p)) [] := by
  have hcl : ∀ k, closedLL k (w.map dvRow) = true := fun k => closedLL_map fun x _ => by
    have := closedLL_sRows k x.2.links
    unfold sRow at this
    simp [dvRow, closedL, closed, this]
  have hdr : ∀ d : Dv, dvRow d = [.str d.1, .str d.2.node, .imm (d.2.links.map sRow), .int .i64 d.2.prio] := fun _ => rfl
  refine acalls_F c77_ok rfl ?_
  unfold c77
  simp +decide -dsimp -implicitDefEqProofs [go_sem]
  refine loop_of (S := Nat) (fun i => ⟨tmps 20 [(0, .imm (w.map dvRow)), (1, .str p), (5, .int .i64 i)], []⟩) (fun i => w.length - i) (fun i => i ≤ w.length ∧ ∀ x ∈ w.take i, decide (x.1 = p) = false) 0 (by simp) (cut_of (by simp) ?_) ?_
  · simp +decide -dsimp -implicitDefEqProofs [go_sem, hcl]
  intro i hi
  by_cases h : i < w.length
  · have wi : IntKind.i64.wrap ((i : Int) + 1) = i + 1 := w64 (by omega) (by omega)
    by_cases hp : w[i].1 = p
    · have hfi := findIdx?_at (p := fun x : Dv => decide (x.1 = p)) h (decide_eq_true hp) hi.2
      simp +decide -dsimp -implicitDefEqProofs [go_sem, h, hdr, hp, fndI, hfi, idxI]
    · simp +decide -dsimp -implicitDefEqProofs [go_sem, h, hdr, hp, wi]
      refine next_of (i + 1) ⟨by omega, fun x hx => ?_⟩ (by omega) (cut_of (by simp) ?_)
      · rw [List.take_succ_eq_append_getElem h] at hx
        rcases List.mem_append.1 hx with hx | hx
        · exact hi.2 x hx
        · simp at hx; subst hx; simpa using hp
      simp +decide -dsimp -implicitDefEqProofs [go_sem, hcl]
  · have e : i = w.length := by omega
    have h2 := hi.2
    rw [e, List.take_length] at h2
    have h3 : (w.findIdx? fun x => decide (x.1 = p)) = none := by rw [List.findIdx?_eq_none_iff]; exact fun x hx => by simp [h2 x hx]
    simp +decide -dsimp -implicitDefEqProofs [go_sem, h, fndI, h3, idxI]
end Go.Ab
namespace Go.Ab
open Go Go.Proofs Go.Sort
set_option maxRecDepth 20000
theorem putS_at {s : Txt} : ∀ {l : List Txt} {i : Nat}, i ≤ l.length → (∀ x ∈ l.take i, x < s) → (∀ h : i < l.length, ¬ l[i] < s) → putS l s = if l[i]? = some s then l else l.take i ++ s :: l.drop i
  | [], 0, _, _, _ => by simp [putS]
  | [], i + 1, h, _, _ => by simp at h
  | x :: r, 0, _, _, h => by
    have h1 : ¬ x < s := h (by simp)
    unfold putS
    by_cases e : x = s
    · subst e; simp [h1]
    · simp [e, h1]
  | x :: r, i + 1, hi, ht, hn => by
    have h1 : x < s := ht x (by simp)
    have hx : x ≠ s := fun e => by subst e; exact List.lt_irrefl _ h1
    have ih := putS_at (s := s) (l := r) (i := i) (by simpa using hi) (fun y hy => ht y (by simp [hy])) (fun h => by have := hn (by simpa using h); simpa using this)
    unfold putS
    simp only [h1, if_true, ih, List.getElem?_cons_succ, List.take_succ_cons, List.drop_succ_cons]
    split <;> simp
set_option maxHeartbeats 4000000 in
theorem put_c (l : List Txt) (s : Txt) (hl : l.length ≤ 100000) : ACalls Tryz.prog 57 [.imm (l.map sRow), .str s] [] (.imm ((putS l s).map sRow)) [] := by
  have hls : ∀ a b : List UInt8, Op.bytesLess a b = decide (a < b) := fun a b => bytesLess_eq a b
  have hrow : ∀ r ∈ l.map sRow, r.length = 1 := fun r hr => by
    obtain ⟨x, _, rfl⟩ := List.mem_map.1 hr; rfl
  have ht : List.take l.length (l.map sRow) = l.map sRow := List.take_of_length_le (by simp)
  refine acalls_F c57_ok rfl ?_
  unfold c57
  simp +decide -dsimp -implicitDefEqProofs [go_sem]
  refine loop_of (S := Nat) (fun i => ⟨tmps 44 [(0, .imm (l.map sRow)), (1, .str s), (5, .int .i64 i)], []⟩) (fun i => l.length - i) (fun i => i ≤ l.length ∧ ∀ x ∈ l.take i, x < s) 0 (by simp) (cut_of (by simp) ?_) ?_
  · simp +decide -dsimp -implicitDefEqProofs [go_sem]
  intro i hi
  by_cases h : i < l.length
  · by_cases h1 : l[i] < s
    · have wi : IntKind.i64.wrap ((i : Int) + 1) = i + 1 := w64 (by omega) (by omega)
      simp +decide -dsimp -implicitDefEqProofs [go_sem, h, hls, h1, wi]
      refine next_of (i + 1) ⟨by omega, fun x hx => ?_⟩ (by omega) (cut_of (by simp) ?_)
      · rw [List.take_succ_eq_append_getElem h] at hx
        rcases List.mem_append.1 hx with hx | hx
        · exact hi.2 x hx
        · simp at hx; subst hx; exact h1
      simp +decide -dsimp -implicitDefEqProofs [go_sem]
    · have hp := putS_at (s := s) hi.1 hi.2 (fun _ => h1)
      by_cases e : l[i] = s
      · rw [if_pos (by rw [List.getElem?_eq_getElem h, e])] at hp
        have hss : ¬ s < s := List.lt_irrefl s
        simp +decide -dsimp -implicitDefEqProofs [go_sem, h, hls, e, hss, hp]
      · rw [if_neg (by rw [List.getElem?_eq_getElem h]; simpa using e)] at hp
        simp +decide -dsimp -implicitDefEqProofs [go_sem, h, hls, h1, e, maxLen]
        refine ⟨hi.1, fun r hr => hrow r (List.mem_of_mem_take hr), ⟨by omega, by omega⟩, ⟨by omega, by omega⟩, hi.1, fun r hr => hrow r (List.mem_of_mem_take (List.mem_of_mem_drop hr)), ⟨by omega, by omega⟩, ?_, ?_⟩
        · rw [hp]; simp; omega
        · rw [hp, ht]; simp [sRow, List.map_take, List.map_drop]
  · have e : i = l.length := by omega
    subst e
    have hp := putS_at (s := s) (Nat.le_refl _) hi.2 (fun h => absurd h (by omega))
    rw [if_neg (by simp)] at hp
    simp +decide -dsimp -implicitDefEqProofs [go_sem, maxLen]
    rw [ht]
    refine ⟨hrow, ⟨by omega, by omega⟩, ⟨by omega, by omega⟩, ?_, ?_⟩
    · rw [hp]; simp
    · rw [hp]; simp [sRow]
end Go.Ab
namespace Go.Ab
open Go Go.Proofs Go.Sort
set_option maxRecDepth 20000
theorem dvRows_cl (k : Nat) (w : List Dv) : closedLL k (w.map dvRow) = true := closedLL_map fun x _ => by
  have := closedLL_sRows k x.2.links
  unfold sRow at this
  simp [dvRow, closedL, closed, this]
theorem setT_take {l : List Txt} {i : Nat} (h : i < l.length) : setT (l.take (i + 1)) = putS (setT (l.take i)) l[i] := by
  rw [List.take_succ_eq_append_getElem h, setT_snoc]
theorem setT_len (l : List Txt) : (setT l).length ≤ l.length := nodup_sub (asc_nd (setT_ok l).1) fun x hx => ((setT_ok l).2 x).1 hx
theorem Wk.nilI {k : Nat} {T : List AV} {H : List AObj} (n : Nat) (hn : T[n]? = some .nils) : Wk k ⟨T, H⟩ ⟨T.set n (.imm []), H⟩ := fun c a hr hH hF => ⟨c, rfl, hr, .refl k c, hH, by
  refine ⟨by simpa using hF.1, hF.2.1, fun j => ?_⟩
  by_cases hj : n = j
  · subst hj
    have hlt := (List.getElem?_eq_some_iff.1 hn).1
    have hv := hF.2.2 n
    simp only [hn, Option.getD_some, Val] at hv
    rw [List.getElem?_set_self hlt, Option.getD_some, hv]
    simp only [Val]
    exact .inr ⟨trivial, _, _, rfl⟩
  · rw [List.getElem?_set_ne hj]; exact hF.2.2 j⟩
theorem rNodes_c (w : List Dv) (hw : w.length ≤ 100000) : ACalls Tryz.prog 29 [.imm (w.map dvRow)] [] (.imm ((nodesW w).map sRow)) [] := by
  have hcl := fun k => dvRows_cl k w
  have hdr : ∀ d : Dv, dvRow d = [.str d.1, .str d.2.node, .imm (d.2.links.map sRow), .int .i64 d.2.prio] := fun _ => rfl
  refine acalls_F c29_ok rfl ?_
  unfold c29 nodesW
  simp +decide -dsimp -implicitDefEqProofs [go_sem]
  refine loop_of (S := Nat) (fun i => ⟨tmps 19 [(0, .imm (w.map dvRow)), (3, .imm ((setT ((w.map fun d => d.2.node).take i)).map sRow)), (4, .int .i64 i)], []⟩) (fun i => w.length - i) (fun i => i ≤ w.length) 0 (by simp) ((Wk.nilI 3 rfl).trans (cut_of (by simp) ?_)) ?_
  · simp +decide -dsimp -implicitDefEqProofs [go_sem, hcl, show setT [] = [] from rfl]
  intro i hi
  by_cases h : i < w.length
  · have wi : IntKind.i64.wrap ((i : Int) + 1) = i + 1 := w64 (by omega) (by omega)
    have hl : (setT ((w.map fun d => d.2.node).take i)).length ≤ 100000 := Nat.le_trans (setT_len _) (by rw [List.length_take]; omega)
    have cp := put_c (setT ((w.map fun d => d.2.node).take i)) w[i].2.node hl
    have hs : setT ((w.map fun d => d.2.node).take (i + 1)) = putS (setT ((w.map fun d => d.2.node).take i)) w[i].2.node := by
      have := setT_take (l := w.map fun d => d.2.node) (i := i) (by simpa using h)
      simpa using this
    simp +decide -dsimp -implicitDefEqProofs [go_sem, h, hdr]
    refine callE_pure cp (by simp +decide -dsimp -implicitDefEqProofs [go_sem]) (by simp +decide -dsimp -implicitDefEqProofs [go_sem]) ?_
    simp +decide -dsimp -implicitDefEqProofs [go_sem, wi]
    refine next_of (i + 1) (by show i + 1 ≤ w.length; omega) (by show w.length - (i + 1) < w.length - i; omega) (cut_of (by simp) ?_)
    rw [hs]
    simp +decide -dsimp -implicitDefEqProofs [go_sem, hcl]
  · have e : i = w.length := by omega
    subst e
    rw [List.take_of_length_le (by simp)]
    simp +decide -dsimp -implicitDefEqProofs [go_sem]
end Go.Ab
namespace Go.Ab
open Go Go.Proofs Go.Sort
set_option maxRecDepth 20000
set_option maxHeartbeats 4000000 in
theorem rClaims_c (w : List Dv) (hw : w.length ≤ 12) (hB : ∀ d ∈ w, d.2.links.length ≤ 1000) : ACalls Tryz.prog 25 [.imm (w.map dvRow)] [] (.imm ((clm w).map clRow)) [] := by
  have hcl := fun k => dvRows_cl k w
  have hcc := closedLL_clRows
  have hdr : ∀ d : Dv, dvRow d = [.str d.1, .str d.2.node, .imm (d.2.links.map sRow), .int .i64 d.2.prio] := fun _ => rfl
  refine acalls_F c25_ok rfl ?_
  unfold c25
  simp +decide -dsimp -implicitDefEqProofs [go_sem]
  refine loop_of (S := Nat) (fun i => ⟨tmps 50 [(0, .imm (w.map dvRow)), (3, .own 0 (clm (w.take i)).length), (4, .int .i64 i)], [.reg 48 4 ((clm (w.take i)).map clRow)]⟩) (fun i => w.length - i) (fun i => i ≤ w.length) 0 (by simp) ((Wk.nilT 3 48 4 rfl (by simp)).trans (cut_of (by simp) ?_)) ?_
  · simp +decide -dsimp -implicitDefEqProofs [go_sem, hcl, clm]
  intro i hi
  by_cases h : i < w.length
  · have wi : IntKind.i64.wrap ((i : Int) + 1) = i + 1 := w64 (by omega) (by omega)
    have hBd := hB _ (List.getElem_mem h)
    have htk := clm_take h
    have hol := clm_len (w := w.take i) (B := 1000) fun x hx => hB x (List.mem_of_mem_take hx)
    rw [List.length_take] at hol
    have hol2 : (clm (w.take i)).length ≤ 12000 := by
      have : min i w.length * 1000 ≤ 12 * 1000 := Nat.mul_le_mul_right _ (by omega)
      omega
    generalize clm (w.take i) = out at htk hol2
    simp +decide -dsimp -implicitDefEqProofs [go_sem, h]
    refine loop_of (S := Nat) (fun j => ⟨tmps 50 [(0, .imm (w.map dvRow)), (3, .own 0 (out ++ (clOf w[i]).take j).length), (4, .int .i64 i), (5, .int .i64 j)], [.reg 48 4 ((out ++ (clOf w[i]).take j).map clRow)]⟩) (fun j => w[i].2.links.length - j) (fun j => j ≤ w[i].2.links.length) 0 (by simp) (cut_of (by simp) ?_) ?_
    · simp +decide -dsimp -implicitDefEqProofs [go_sem, hcl, hcc]
    intro j hj
    have hcl2 : (clOf w[i]).length = w[i].2.links.length := by simp [clOf]
    by_cases h2 : j < w[i].2.links.length
    · have wj : IntKind.i64.wrap ((j : Int) + 1) = j + 1 := w64 (by omega) (by omega)
      have hca : (clOf w[i]).take (j + 1) = (clOf w[i]).take j ++ [⟨w[i].2.links[j], w[i].1, w[i].2.node, w[i].2.prio⟩] := by
        rw [List.take_succ_eq_append_getElem (by omega)]; simp [clOf]
      have hol3 : (out ++ (clOf w[i]).take j).length ≤ 13000 := by rw [List.length_append, List.length_take]; omega
      have ha : (out ++ (clOf w[i]).take j).map clRow ++ [[.str w[i].2.links[j], .str w[i].1, .str w[i].2.node, .int .i64 w[i].2.prio]] = (out ++ (clOf w[i]).take (j + 1)).map clRow := by rw [hca, ← List.append_assoc, List.map_append (l₂ := [_])]; rfl
      have hl4 : (out ++ (clOf w[i]).take (j + 1)).length = (out ++ (clOf w[i]).take j).length + 1 := by rw [hca]; simp; omega
      generalize out ++ (clOf w[i]).take j = o1 at ha hol3 hl4
      obtain ⟨o2, ho2⟩ : ∃ o2, o2 = out ++ (clOf w[i]).take (j + 1) := ⟨_, rfl⟩
      rw [← ho2] at ha hl4
      simp +decide -dsimp -implicitDefEqProofs [go_sem, h, hdr, h2, maxLen, wj]
      refine ⟨⟨by omega, by omega⟩, ?_⟩
      rw [ha]
      refine next_of (j + 1) (by show j + 1 ≤ w[i].2.links.length; omega) (by show w[i].2.links.length - (j + 1) < w[i].2.links.length - j; omega) (cut_of (by simp) ?_)
      rw [← ho2]
      simp +decide -dsimp -implicitDefEqProofs [go_sem, hcl, hcc, hl4]
    · have e2 : j = w[i].2.links.length := by omega
      subst e2
      rw [List.take_of_length_le (by rw [hcl2]; exact Nat.le_refl _), ← htk]
      simp +decide -dsimp -implicitDefEqProofs [go_sem, h, hdr, wi]
      refine next_of (i + 1) (by show i + 1 ≤ w.length; omega) (by show w.length - (i + 1) < w.length - i; omega) (cut_of (by simp) ?_)
      simp +decide -dsimp -implicitDefEqProofs [go_sem, hcl, hcc]
  · have e : i = w.length := by omega
    subst e
    rw [List.take_length]
    simp +decide -dsimp -implicitDefEqProofs [go_sem, hcc]
end Go.Ab
namespace Go.Ab
open Go Go.Proofs Go.Sort
set_option maxRecDepth 20000
theorem drop_at {p : Txt} : ∀ {w : List Dv} {i : Nat} (h : i < w.length), (w.Pairwise fun a b => a.1 ≠ b.1) → w[i].1 = p → dropD w p = w.take i ++ w.drop (i + 1)
  | d :: r, 0, _, hp, he => by
    have h1 := (List.pairwise_cons.1 hp).1
    have he : d.1 = p := he
    subst he
    have : r.filter (fun x => !decide (x.1 = d.1)) = r := List.filter_eq_self.2 fun x hx => by simpa using (h1 x hx).symm
    simp [dropD, this]
  | d :: r, i + 1, h, hp, he => by
    have h0 : i < r.length := by simpa using h
    have he : r[i].1 = p := by simpa using he
    have hd : ¬ d.1 = p := fun e => (List.pairwise_cons.1 hp).1 r[i] (List.getElem_mem h0) (by rw [e, he])
    have ih := drop_at (w := r) h0 (List.pairwise_cons.1 hp).2 he
    unfold dropD at ih ⊢
    simp [hd, ih]
theorem drop_none {p : Txt} {w : List Dv} (h : hasW w p = false) : dropD w p = w := by
  rw [hasW, List.any_eq_false] at h
  exact List.filter_eq_self.2 fun x hx => by simpa using h x hx
def dropR (w : List Dv) (p : Txt) : AV := .tup [.imm ((dropD w p).map dvRow), .int .i64 (if hasW w p = true then 0 else 212)]
theorem rDrop_c (w : List Dv) (p : Txt) (hw : w.length ≤ 100000) (hp : w.Pairwise fun a b => a.1 ≠ b.1) : ACalls Tryz.prog 47 [.imm (w.map dvRow), .str p] [] (dropR w p) [] := by
  have hcl := fun k => dvRows_cl k w
  have cf := find_c w p (by omega)
  have hrow : ∀ r ∈ w.map dvRow, r.length = 4 := fun r hr => by
    obtain ⟨x, _, rfl⟩ := List.mem_map.1 hr; rfl
  have ht : List.take w.length (w.map dvRow) = w.map dvRow := List.take_of_length_le (by simp)
  unfold fndI at cf
  unfold dropR
  refine acalls_F c47_ok rfl ?_
  unfold c47
  simp +decide -dsimp -implicitDefEqProofs [go_sem]
  refine callE_pure cf (by simp +decide -dsimp -implicitDefEqProofs [go_sem, hcl]) (by simp +decide -dsimp -implicitDefEqProofs [go_sem]) ?_
  cases hf : w.findIdx? (fun d => decide (d.1 = p)) with
  | none =>
    have hn : hasW w p = false := by
      rw [hasW, List.any_eq_false]
      exact fun x hx => by simpa using List.findIdx?_eq_none_iff.1 hf x hx
    simp +decide -dsimp -implicitDefEqProofs [go_sem, idxI, hn, drop_none hn, hcl]
  | some i =>
    obtain ⟨h1, h2, _⟩ := List.findIdx?_eq_some_iff_getElem.1 hf
    have h2 : w[i].1 = p := by simpa using h2
    have hn : hasW w p = true := by
      rw [hasW, List.any_eq_true]
      exact ⟨w[i], List.getElem_mem h1, by simpa using h2⟩
    have hd := drop_at h1 hp h2
    have ni : ¬ ((i : Int) < 0) := by omega
    have wi : IntKind.i64.wrap ((i : Int) + 1) = i + 1 := w64 (by omega) (by omega)
    simp +decide -dsimp -implicitDefEqProofs [go_sem, idxI, hn, ni, wi, maxLen]
    have hr2 : ∀ (r : List AV) (x : Txt) (x_1 : Own), (x, x_1) ∈ w → dvRow (x, x_1) = r → r.length = 4 := fun r x y _ e => by rw [← e]; rfl
    refine ⟨by omega, hr2, fun r hr => hrow r (List.mem_of_mem_take hr), ⟨by omega, by omega⟩, by omega, by omega, hr2, fun r hr => hrow r (List.mem_of_mem_take (List.mem_of_mem_drop hr)), ⟨by omega, by omega⟩, ?_, ?_, dvRows_cl _ _⟩
    · rw [hd]; simp
    · rw [hd, ht]; simp [List.map_take, List.map_drop]
end Go.Ab
namespace Go.Ab
open Go Go.Proofs Go.Sort
set_option maxRecDepth 20000
theorem rBetter_c (a b : Cl) (ha : placeB a.path = true) (hb : placeB b.path = true) : ACalls Tryz.prog 55 [.agg (clRow a), .agg (clRow b)] [] (.bool (betB ltP a b)) [] := by
  have c := Order_c _ _ ha hb
  refine acalls_F c55_ok rfl ?_
  unfold c55 clRow betB
  by_cases h1 : a.prio > b.prio
  · have h2 : b.prio < a.prio := h1
    simp +decide -dsimp -implicitDefEqProofs [go_sem, h2]
  · have h2 : ¬ b.prio < a.prio := h1
    by_cases h : a.prio = b.prio
    · simp +decide -dsimp -implicitDefEqProofs [go_sem, h]
      refine callE_pure c rfl rfl ?_
      simp +decide -dsimp -implicitDefEqProofs [go_sem, ltP]
    · simp +decide -dsimp -implicitDefEqProofs [go_sem, h, h2]
theorem any_take' {α : Type} {l : List α} {p : α → Bool} {k : Nat} (h : k < l.length) : (l.take (k + 1)).any p = ((l.take k).any p || p l[k]) := by
  rw [List.take_succ_eq_append_getElem h, List.any_append]; simp only [List.any_cons, List.any_nil, Bool.or_false]
set_option maxHeartbeats 4000000 in
theorem rOpen_c (N : List Txt) (C : List Cl) (hN : N.length ≤ 100000) (hC : C.length ≤ 100000) (hn : ∀ x ∈ N, x.length ≤ 140737488351232) (hc : ∀ c ∈ C, c.link.length ≤ 140737488351232) :
    ACalls Tryz.prog 54 [.imm (N.map sRow), .imm (C.map clRow)] [] (.imm ((opn N C).map clRow)) [] := by
  have hlc2 := closedLL_clRows
  have hck : ∀ x : Cl, clRow x = [.str x.link, .str x.path, .str x.node, .int .i64 x.prio] := fun _ => rfl
  obtain ⟨op, hop⟩ : ∃ op : Nat → List Cl, ∀ i, op i = opn N (C.take i) := ⟨_, fun _ => rfl⟩
  have op0 : op 0 = [] := by rw [hop]; rfl
  have opl : ∀ i, (op i).length ≤ 100000 := fun i => by
    rw [hop]
    have := List.length_filter_le (fun c => !voidB N c) (C.take i)
    rw [List.length_take] at this
    unfold opn; omega
  have ops : ∀ (i : Nat) (h : i < C.length), op (i + 1) = op i ++ (if voidB N C[i] = true then [] else [C[i]]) := fun i h => by
    rw [hop, hop, List.take_succ_eq_append_getElem h, opn_snoc]
  have opf : opn N C = op C.length := by rw [hop, List.take_length]
  rw [opf]
  refine acalls_F c54_ok rfl ?_
  unfold c54
  simp +decide -dsimp -implicitDefEqProofs [go_sem]
  refine loop_of (S := Nat) (fun i => ⟨tmps 44 [(0, .imm (N.map sRow)), (1, .imm (C.map clRow)), (5, .own 0 (op i).length), (6, .int .i64 i)], [.reg 48 4 ((op i).map clRow)]⟩) (fun i => C.length - i) (fun i => i ≤ C.length) 0 (by simp) ((Wk.nilT 5 48 4 rfl (by simp)).trans (cut_of (by simp) ?_)) ?_
  · simp +decide -dsimp -implicitDefEqProofs [go_sem, hlc2, op0]
  intro a ha
  by_cases h : a < C.length
  · have wa : IntKind.i64.wrap ((a : Int) + 1) = a + 1 := w64 (by omega) (by omega)
    have hCa : C[a] ∈ C := List.getElem_mem h
    simp +decide -dsimp -implicitDefEqProofs [go_sem, h]
    refine loop_of (S := Nat) (fun k => ⟨tmps 44 [(0, .imm (N.map sRow)), (1, .imm (C.map clRow)), (5, .own 0 (op a).length), (6, .int .i64 a), (7, .bool ((N.take k).any fun n => nearB n C[a].link)), (8, .int .i64 k)], [.reg 48 4 ((op a).map clRow)]⟩) (fun k => N.length - k) (fun k => k ≤ N.length) 0 (by simp) (cut_of (by simp) ?_) ?_
    · simp +decide -dsimp -implicitDefEqProofs [go_sem, hlc2]
    intro b hb
    by_cases h2 : b < N.length
    · have wb : IntKind.i64.wrap ((b : Int) + 1) = b + 1 := w64 (by omega) (by omega)
      have ev := any_take' (p := fun n => nearB n C[a].link) h2
      have cb := rNear_c N[b] C[a].link (hn _ (List.getElem_mem h2)) (hc _ hCa)
      have fin : b + 1 ≤ N.length ∧ N.length - (b + 1) < N.length - b := ⟨by omega, by omega⟩
      cases hv : (N.take b).any (fun n => nearB n C[a].link) with
      | true =>
        rw [hv, Bool.true_or] at ev
        simp +decide -dsimp -implicitDefEqProofs [go_sem, h2, wb]
        refine next_of (b + 1) fin.1 fin.2 (cut_of (by simp) ?_)
        simp +decide -dsimp -implicitDefEqProofs [go_sem, hlc2, ev]
      | false =>
        rw [hv, Bool.false_or] at ev
        simp +decide -dsimp -implicitDefEqProofs [go_sem, h, h2, hck]
        refine callDE_pure cb rfl rfl ?_
        simp +decide -dsimp -implicitDefEqProofs [go_sem, wb]
        refine next_of (b + 1) fin.1 fin.2 (cut_of (by simp) ?_)
        simp +decide -dsimp -implicitDefEqProofs [go_sem, hlc2, ev]
    · have e2 : b = N.length := by omega
      subst e2
      rw [List.take_length]
      have hvd : (N.any fun n => nearB n C[a].link) = voidB N C[a] := rfl
      rw [hvd]
      have os := ops a h
      have ol := opl a
      cases hv : voidB N C[a] with
      | true =>
        rw [hv, if_pos rfl, List.append_nil] at os
        simp +decide -dsimp -implicitDefEqProofs [go_sem, wa]
        refine next_of (a + 1) (by show a + 1 ≤ C.length; omega) (by show C.length - (a + 1) < C.length - a; omega) (cut_of (by simp) ?_)
        simp +decide -dsimp -implicitDefEqProofs [go_sem, hlc2, os]
      | false =>
        rw [hv, if_neg (by decide)] at os
        have om : (op (a + 1)).map clRow = (op a).map clRow ++ [clRow C[a]] := by rw [os, List.map_append]; rfl
        have ol2 : (op (a + 1)).length = (op a).length + 1 := by rw [os]; simp
        rw [hck] at om
        simp +decide -dsimp -implicitDefEqProofs [go_sem, h, hck, maxLen, wa]
        refine ⟨⟨by omega, by omega⟩, ?_⟩
        refine next_of (a + 1) (by show a + 1 ≤ C.length; omega) (by show C.length - (a + 1) < C.length - a; omega) (cut_of (by simp) ?_)
        simp +decide -dsimp -implicitDefEqProofs [go_sem, hlc2, om, ol2]
  · have e : a = C.length := by omega
    subst e
    simp +decide -dsimp -implicitDefEqProofs [go_sem, hlc2]
end Go.Ab
namespace Go.Ab
open Go Go.Proofs Go.Sort
theorem insL_at {x : Lk} : ∀ {l : List Lk} {i : Nat}, i ≤ l.length → (∀ y ∈ l.take i, y.name < x.name) → (∀ h : i < l.length, ¬ l[i].name < x.name) → insL l x = l.take i ++ x :: l.drop i
  | [], 0, _, _, _ => by simp [insL]
  | [], i + 1, h, _, _ => by simp at h
  | y :: r, 0, _, _, h => by
    have h1 : ¬ y.name < x.name := h (by simp)
    unfold insL; simp [h1]
  | y :: r, i + 1, hi, ht, hn => by
    have h1 : y.name < x.name := ht y (by simp)
    have ih := insL_at (x := x) (l := r) (i := i) (by simpa using hi) (fun z hz => ht z (by simp [hz])) (fun h => by have := hn (by simpa using h); simpa using this)
    unfold insL; simp [h1, ih]
theorem insD_at {d : Dv} : ∀ {l : List Dv} {i : Nat}, i ≤ l.length → (∀ y ∈ l.take i, ltP y.1 d.1 = true) → (∀ h : i < l.length, ltP l[i].1 d.1 = false) → insD ltP l d = l.take i ++ d :: l.drop i
  | [], 0, _, _, _ => by simp [insD]
  | [], i + 1, h, _, _ => by simp at h
  | y :: r, 0, _, _, h => by
    have h1 : ltP y.1 d.1 = false := h (by simp)
    unfold insD; simp [h1]
  | y :: r, i + 1, hi, ht, hn => by
    have h1 : ltP y.1 d.1 = true := ht y (by simp)
    have ih := insD_at (d := d) (l := r) (i := i) (by simpa using hi) (fun z hz => ht z (by simp [hz])) (fun h => by have := hn (by simpa using h); simpa using this)
    unfold insD; simp [h1, ih]
end Go.Ab
namespace Go.Ab
open Go Go.Proofs Go.Sort
set_option maxRecDepth 20000
theorem insL_len (x : Lk) : ∀ l : List Lk, (insL l x).length = l.length + 1
  | [] => rfl
  | y :: r => by
    unfold insL
    split
    · simp [insL_len x r]
    · simp
theorem refR_len (O : List Cl) {l : List Cl} : ∀ i, i ≤ l.length → (refR ltP O (l.take i)).length ≤ i
  | 0, _ => by simp [refR]
  | i + 1, h => by
    have ih := refR_len O (l := l) i (by omega)
    rw [List.take_succ_eq_append_getElem (by omega), refR_snoc]
    split
    · rw [insL_len]; omega
    · omega
set_option maxHeartbeats 8000000 in
theorem rResolve_c (N : List Txt) (C : List Cl) (hN : N.length ≤ 100000) (hC : C.length ≤ 100000) (hn : ∀ x ∈ N, x.length ≤ 140737488351232) (hc : ∀ c ∈ C, c.link.length ≤ 140737488351232) (hp : ∀ c ∈ C, placeB c.path = true) :
    ACalls Tryz.prog 28 [.imm (N.map sRow), .imm (C.map clRow)] [] (.imm ((refR ltP (opn N C) (opn N C)).map lkRow)) [] := by
  have hcc := closedLL_clRows
  have hlc := closedLL_lkRows
  have hls : ∀ a b : List UInt8, Op.bytesLess a b = decide (a < b) := fun a b => bytesLess_eq a b
  have hck : ∀ x : Cl, clRow x = [.str x.link, .str x.path, .str x.node, .int .i64 x.prio] := fun _ => rfl
  have hlk : ∀ x : Lk, lkRow x = [.str x.name, .str x.node, .str x.path] := fun _ => rfl
  have cO := rOpen_c N C hN hC hn hc
  have hOl : (opn N C).length ≤ 100000 := Nat.le_trans (List.length_filter_le _ _) hC
  have hOc : ∀ c ∈ opn N C, c.link.length ≤ 140737488351232 := fun c h => hc c (List.mem_filter.1 h).1
  have hOp : ∀ c ∈ opn N C, placeB c.path = true := fun c h => hp c (List.mem_filter.1 h).1
  generalize opn N C = O at cO hOl hOc hOp
  refine acalls_F c28_ok rfl ?_
  unfold c28
  simp +decide -dsimp -implicitDefEqProofs [go_sem]
  refine callE_pure cO (by simp +decide -dsimp -implicitDefEqProofs [go_sem, hcc]) (by simp +decide -dsimp -implicitDefEqProofs [go_sem, hcc]) ?_
  simp +decide -dsimp -implicitDefEqProofs [go_sem]
  refine loop_of (S := Nat) (fun i => ⟨tmps 111 [(5, .imm (O.map clRow)), (6, .imm ((refR ltP O (O.take i)).map lkRow)), (7, .int .i64 i)], []⟩) (fun i => O.length - i) (fun i => i ≤ O.length) 0 (by simp) ((Wk.nilI 6 rfl).trans (cut_of (by simp) ?_)) ?_
  · simp +decide -dsimp -implicitDefEqProofs [go_sem, hcc, show refR ltP O [] = [] from rfl]
  intro i hi
  by_cases h : i < O.length
  · have wa : IntKind.i64.wrap ((i : Int) + 1) = i + 1 := w64 (by omega) (by omega)
    have hOi : O[i] ∈ O := List.getElem_mem h
    have hsn := refR_snoc (lt := ltP) O (O.take i) O[i]
    rw [← List.take_succ_eq_append_getElem h] at hsn
    have hRl := refR_len O (l := O) i hi
    generalize refR ltP O (O.take i) = R at hsn hRl
    have hrow : ∀ r ∈ R.map lkRow, r.length = 3 := fun r hr => by
      obtain ⟨x, _, rfl⟩ := List.mem_map.1 hr; rfl
    have htR : List.take R.length (R.map lkRow) = R.map lkRow := List.take_of_length_le (by simp)
    simp +decide -dsimp -implicitDefEqProofs [go_sem, h]
    refine loop_of (S := Nat) (fun k => ⟨tmps 111 [(5, .imm (O.map clRow)), (6, .imm (R.map lkRow)), (7, .int .i64 i), (8, .bool (!(O.take k).any fun d => beatB ltP O[i] d)), (9, .int .i64 k)], []⟩) (fun k => O.length - k) (fun k => k ≤ O.length) 0 (by simp) (cut_of (by simp) ?_) ?_
    · simp +decide -dsimp -implicitDefEqProofs [go_sem, hcc, hlc]
    intro k hk
    by_cases h2 : k < O.length
    · have wb : IntKind.i64.wrap ((k : Int) + 1) = k + 1 := w64 (by omega) (by omega)
      have ev := any_take' (p := fun d => beatB ltP O[i] d) h2
      have cb := rBetter_c O[k] O[i] (hOp _ (List.getElem_mem h2)) (hOp _ hOi)
      have cn := rBen_c O[i].link O[k].link (hOc _ hOi)
      rw [hck, hck] at cb
      have fin : k + 1 ≤ O.length ∧ O.length - (k + 1) < O.length - k := ⟨by omega, by omega⟩
      generalize (O.take k).any (fun d => beatB ltP O[i] d) = bs at ev
      by_cases q1 : O[k].link = O[i].link
      · simp +decide -dsimp -implicitDefEqProofs [go_sem, h, h2, hck, q1]
        rw [q1] at cb
        refine callDE_pure cb rfl rfl ?_
        cases hb : betB ltP O[k] O[i] with
        | true =>
          have e1 : beatB ltP O[i] O[k] = true := by simp [beatB, q1, hb]
          rw [e1, Bool.or_true] at ev
          simp +decide -dsimp -implicitDefEqProofs [go_sem, wb]
          refine next_of (k + 1) fin.1 fin.2 (cut_of (by simp) ?_)
          simp +decide -dsimp -implicitDefEqProofs [go_sem, hcc, hlc, ev]
        | false =>
          have e1 : beatB ltP O[i] O[k] = benB O[i].link O[k].link := by simp [beatB, hb]
          rw [e1] at ev
          rw [q1] at cn ev
          simp +decide -dsimp -implicitDefEqProofs [go_sem, h, h2, hck, q1]
          refine callDE_pure cn rfl rfl ?_
          cases hn2 : benB O[i].link O[i].link with
          | true =>
            rw [hn2, Bool.or_true] at ev
            simp +decide -dsimp -implicitDefEqProofs [go_sem, wb]
            refine next_of (k + 1) fin.1 fin.2 (cut_of (by simp) ?_)
            simp +decide -dsimp -implicitDefEqProofs [go_sem, hcc, hlc, ev]
          | false =>
            rw [hn2, Bool.or_false] at ev
            simp +decide -dsimp -implicitDefEqProofs [go_sem, wb]
            refine next_of (k + 1) fin.1 fin.2 (cut_of (by simp) ?_)
            simp +decide -dsimp -implicitDefEqProofs [go_sem, hcc, hlc, ev]
      · simp +decide -dsimp -implicitDefEqProofs [go_sem, h, h2, hck, q1]
        have e1 : beatB ltP O[i] O[k] = benB O[i].link O[k].link := by simp [beatB, q1]
        rw [e1] at ev
        refine callDE_pure cn rfl rfl ?_
        cases hn2 : benB O[i].link O[k].link with
        | true =>
          rw [hn2, Bool.or_true] at ev
          simp +decide -dsimp -implicitDefEqProofs [go_sem, wb]
          refine next_of (k + 1) fin.1 fin.2 (cut_of (by simp) ?_)
          simp +decide -dsimp -implicitDefEqProofs [go_sem, hcc, hlc, ev]
        | false =>
          rw [hn2, Bool.or_false] at ev
          simp +decide -dsimp -implicitDefEqProofs [go_sem, wb]
          refine next_of (k + 1) fin.1 fin.2 (cut_of (by simp) ?_)
          simp +decide -dsimp -implicitDefEqProofs [go_sem, hcc, hlc, ev]
    · have e2 : k = O.length := by omega
      subst e2
      rw [List.take_length]
      have hlb : (!O.any fun d => beatB ltP O[i] d) = leadB ltP O O[i] := rfl
      rw [hlb]
      cases hb : leadB ltP O O[i] with
      | false =>
        rw [hb, if_neg (by decide)] at hsn
        simp +decide -dsimp -implicitDefEqProofs [go_sem, wa]
        refine next_of (i + 1) (by show i + 1 ≤ O.length; omega) (by show O.length - (i + 1) < O.length - i; omega) (cut_of (by simp) ?_)
        rw [hsn]
        simp +decide -dsimp -implicitDefEqProofs [go_sem, hcc, hlc]
      | true =>
        rw [hb, if_pos rfl] at hsn
        simp +decide -dsimp -implicitDefEqProofs [go_sem]
        refine loop_of (S := Nat) (fun n => ⟨tmps 111 [(5, .imm (O.map clRow)), (6, .imm (R.map lkRow)), (7, .int .i64 i), (10, .int .i64 n)], []⟩) (fun n => R.length - n) (fun n => n ≤ R.length ∧ ∀ y ∈ R.take n, y.name < O[i].link) 0 (by simp) (cut_of (by simp) ?_) ?_
        · simp +decide -dsimp -implicitDefEqProofs [go_sem, hcc, hlc]
        intro n hn3
        by_cases h5 : n < R.length
        · by_cases h6 : R[n].name < O[i].link
          · have wn : IntKind.i64.wrap ((n : Int) + 1) = n + 1 := w64 (by omega) (by omega)
            simp +decide -dsimp -implicitDefEqProofs [go_sem, h, h5, hck, hlk, hls, h6, wn]
            refine next_of (n + 1) ⟨by omega, fun x hx => ?_⟩ (by omega) (cut_of (by simp) ?_)
            · rw [List.take_succ_eq_append_getElem h5] at hx
              rcases List.mem_append.1 hx with hx | hx
              · exact hn3.2 x hx
              · simp at hx; subst hx; exact h6
            simp +decide -dsimp -implicitDefEqProofs [go_sem, hcc, hlc]
          · have hins := insL_at (x := toLk O[i]) hn3.1 hn3.2 (fun _ => h6)
            simp +decide -dsimp -implicitDefEqProofs [go_sem, h, h5, hck, hlk, hls, h6, maxLen]
            refine ⟨hn3.1, fun r hr => hrow r (List.mem_of_mem_take hr), ⟨by omega, by omega⟩, ⟨by omega, by omega⟩, hn3.1, fun r hr => hrow r (List.mem_of_mem_take (List.mem_of_mem_drop hr)), ⟨by omega, by omega⟩, ?_⟩
            have hre : List.take n (R.map lkRow) ++ [.str O[i].link, .str O[i].node, .str O[i].path] :: List.drop n (List.take R.length (R.map lkRow)) = (refR ltP O (O.take (i + 1))).map lkRow := by
              rw [hsn, hins, htR]; simp [lkRow, toLk, List.map_take, List.map_drop]
            have hle : min n R.length + 1 + (R.length - n) = ((refR ltP O (O.take (i + 1))).map lkRow).length := by
              rw [hsn, List.length_map, insL_len]; omega
            rw [hre, hle, wa]
            refine next_of (i + 1) (by show i + 1 ≤ O.length; omega) (by show O.length - (i + 1) < O.length - i; omega) ((Wk.frz 6 1 rfl rfl).trans (cut_of (by simp) ?_))
            simp +decide -dsimp -implicitDefEqProofs [go_sem, hcc, hlc]
        · have e3 : n = R.length := by omega
          have hins := insL_at (x := toLk O[i]) hn3.1 hn3.2 (fun h => absurd h h5)
          subst e3
          simp +decide -dsimp -implicitDefEqProofs [go_sem, h, hck, maxLen]
          rw [htR]
          refine ⟨fun _ _ => rfl, hrow, ⟨by omega, by omega⟩, ⟨by omega, by omega⟩, fun _ _ => rfl, ⟨by omega, by omega⟩, ?_⟩
          have hre : R.map lkRow ++ [[.str O[i].link, .str O[i].node, .str O[i].path]] = (refR ltP O (O.take (i + 1))).map lkRow := by
            rw [hsn, hins]; simp [lkRow, toLk]
          have hle : R.length + 1 = ((refR ltP O (O.take (i + 1))).map lkRow).length := by
            rw [hsn, List.length_map, insL_len]
          rw [hre, hle, wa]
          refine next_of (i + 1) (by show i + 1 ≤ O.length; omega) (by show O.length - (i + 1) < O.length - i; omega) ((Wk.frz 6 1 rfl rfl).trans (cut_of (by simp) ?_))
          simp +decide -dsimp -implicitDefEqProofs [go_sem, hcc, hlc]
  · have e : i = O.length := by omega
    subst e
    rw [List.take_length]
    simp +decide -dsimp -implicitDefEqProofs [go_sem, hlc]
end Go.Ab
namespace Go.Ab
open Go Go.Proofs Go.Sort
set_option maxRecDepth 20000
theorem Wk.nilBI {k : Nat} {T : List AV} {H : List AObj} {eb : Nat} {cs : List AV} (o i : Nat) (ho : H[o]? = some (.box eb cs)) (hi : cs[i]? = some .nils) :
    Wk k ⟨T, H⟩ ⟨T, H.set o (.box eb (cs.set i (.imm [])))⟩ := fun c a hr hH hF => by
  have hH' : c.H = H := hH
  subst hH'
  obtain ⟨b, arr, g1, g2, g3, g4⟩ := hr.obj o _ ho
  have hN2 := rel_upd hr (o := o) (x' := .box eb (cs.set i (.imm []))) (v' := .pointer (some ⟨b, 0, none⟩)) (F' := c.F) (w' := c.w) ho (by simp only [OStep]; exact ⟨trivial, g1.symm⟩) (fun _ h => h) (fun _ h => .inl h) (fun _ _ _ => rfl) (Nat.le_refl _) rfl rfl rfl
    (fun b' _ hb => .inr ⟨_, _, ho, rfl, g1, hb⟩) (fun hE => by
      refine ⟨b, arr, ?_, g2, by simpa using g3, ?_⟩
      · exact set_getElem?_self g1
      · have g5 := Cells_ext (hE.vext hr) _ _ _ rfl g4
        rw [Cells_iff] at g5 ⊢
        intro j x hj
        by_cases hji : i = j
        · subst hji
          have hlt := (List.getElem?_eq_some_iff.1 hi).1
          rw [List.getElem?_set_self hlt] at hj
          cases hj
          obtain ⟨v, k1, k2, k3⟩ := g5 i _ hi
          refine ⟨v, k1, k2, ?_⟩
          simp only [Val] at k3
          subst k3
          simp only [Val]
          exact .inr ⟨trivial, _, _, rfl⟩
        · rw [List.getElem?_set_ne hji] at hj
          exact g5 j x hj)
  exact ⟨⟨c.F, c.μ.set o (.pointer (some ⟨b, 0, none⟩)), c.H.set o (.box eb (cs.set i (.imm []))), c.w⟩, rfl, hN2.1, hN2.2.toN k, rfl, Fr_ext hN2.2 hr hF⟩
def setRV (w : List Dv) (p node : Txt) (links : List Txt) (prio : Int) : AV := .tup [.imm ((setW w p node links prio).map dvRow), .int .i64 (setE w p node links prio)]
theorem setR_bad {w : List Dv} {p node : Txt} {links : List Txt} {prio : Int} (h : okSet p node links prio = false) : setRV w p node links prio = .tup [.imm (w.map dvRow), .int .i64 210] := by
  simp [setRV, setW, setE, h]
theorem setR_clash {w : List Dv} {p node : Txt} {links : List Txt} {prio : Int} (h : okSet p node links prio = true) (h2 : clashW w p node = true) : setRV w p node links prio = .tup [.imm (w.map dvRow), .int .i64 211] := by
  simp [setRV, setW, setE, h, h2]
theorem setR_ok {w : List Dv} {p node : Txt} {links : List Txt} {prio : Int} (h : okSet p node links prio = true) (h2 : clashW w p node = false) : setRV w p node links prio = .tup [.imm ((insD ltP (dropD w p) (p, ⟨node, setT links, prio⟩)).map dvRow), .int .i64 0] := by
  simp [setRV, setW, setE, h, h2]
set_option maxHeartbeats 8000000 in
theorem rSet_c (w : List Dv) (p node : Txt) (links : List Txt) (prio : Int) (hw : w.length ≤ 1000) (hl : links.length ≤ 1000) (hp : p.length ≤ 1000000) (hn : node.length ≤ 1000000) (hll : ∀ x ∈ links, x.length ≤ 1000000) (hpw : w.Pairwise fun a b => a.1 ≠ b.1) (hP : ∀ d ∈ w, placeB d.1 = true) (hp2 : (pathL p).isSome = true → placeB p = true) :
    ACalls Tryz.prog 48 [.imm (w.map dvRow), .str p, .str node, .imm (links.map sRow), .int .i64 prio] [] (setRV w p node links prio) [] := by
  have hcl := fun k (w : List Dv) => dvRows_cl k w
  have hdr : ∀ d : Dv, dvRow d = [.str d.1, .str d.2.node, .imm (d.2.links.map sRow), .int .i64 d.2.prio] := fun _ => rfl
  have c1 := rSplit_c p (by omega)
  have c2 := rLink_c node (by omega)
  have c3 := rDrop_c w p (by omega) hpw
  unfold dropR at c3
  refine acalls_F c48_ok rfl ?_
  unfold c48
  cases h1 : pathL p with
  | none =>
    rw [h1] at c1
    rw [setR_bad (by simp [okSet, h1])]
    simp +decide -dsimp -implicitDefEqProofs [go_sem]
    refine callE_pure c1 rfl rfl ?_
    simp +decide -dsimp -implicitDefEqProofs [go_sem, hcl]
  | some pc =>
  rw [h1] at c1 hp2
  simp +decide -dsimp -implicitDefEqProofs [go_sem]
  refine callE_pure c1 rfl (by simp +decide -dsimp -implicitDefEqProofs [go_sem]) ?_
  simp +decide -dsimp -implicitDefEqProofs [go_sem]
  refine callE_pure c2 rfl rfl ?_
  cases h2 : linkB node with
  | false =>
    rw [setR_bad (by simp [okSet, h2])]
    simp +decide -dsimp -implicitDefEqProofs [go_sem, hcl]
  | true =>
  by_cases h3 : prio < -1000
  · rw [setR_bad (by have : ¬ -1000 ≤ prio := by omega
                     simp [okSet, this])]
    simp +decide -dsimp -implicitDefEqProofs [go_sem, h3, hcl]
  by_cases h4 : 1000 < prio
  · rw [setR_bad (by have : ¬ prio ≤ 1000 := by omega
                     simp [okSet, this])]
    simp +decide -dsimp -implicitDefEqProofs [go_sem, h3, h4, hcl]
  simp +decide -dsimp -implicitDefEqProofs [go_sem, h3, h4]
  refine loop_of (S := Nat) (fun i => ⟨tmps 122 [(0, .imm (w.map dvRow)), (1, .str p), (2, .str node), (3, .imm (links.map sRow)), (4, .int .i64 prio), (14, .ptr 0 0), (15, .int .i64 i)], [.box 88 [.str p, .str node, .imm ((setT (links.take i)).map sRow), .int .i64 prio]]⟩) (fun i => links.length - i) (fun i => i ≤ links.length ∧ ∀ x ∈ links.take i, linkB x = true) 0 (by simp) ((Wk.nilBI 0 2 rfl rfl).trans (cut_of (by simp) ?_)) ?_
  · simp +decide -dsimp -implicitDefEqProofs [go_sem, hcl, show setT [] = [] from rfl]
  intro i hi
  by_cases h : i < links.length
  · have wi : IntKind.i64.wrap ((i : Int) + 1) = i + 1 := w64 (by omega) (by omega)
    have cl := rLink_c links[i] (by have := hll _ (List.getElem_mem h); omega)
    have cp := put_c (setT (links.take i)) links[i] (by have := setT_len (links.take i); rw [List.length_take] at this; omega)
    have hst := setT_take h
    simp +decide -dsimp -implicitDefEqProofs [go_sem, h]
    refine callE_pure cl rfl rfl ?_
    cases h5 : linkB links[i] with
    | false =>
      have hb : links.all linkB = false := List.all_eq_false.2 ⟨links[i], List.getElem_mem h, by simp [h5]⟩
      rw [setR_bad (by simp [okSet, hb])]
      simp +decide -dsimp -implicitDefEqProofs [go_sem, hcl]
    | true =>
      simp +decide -dsimp -implicitDefEqProofs [go_sem, h]
      refine callDE_pure cp (by simp +decide -dsimp -implicitDefEqProofs [go_sem]) (by simp +decide -dsimp -implicitDefEqProofs [go_sem]) ?_
      simp +decide -dsimp -implicitDefEqProofs [go_sem, wi]
      refine next_of (i + 1) ⟨by omega, fun x hx => ?_⟩ (by omega) (cut_of (by simp) ?_)
      · rw [List.take_succ_eq_append_getElem h] at hx
        rcases List.mem_append.1 hx with hx | hx
        · exact hi.2 x hx
        · simp at hx; subst hx; exact h5
      rw [hst]
      simp +decide -dsimp -implicitDefEqProofs [go_sem, hcl]
  · have e : i = links.length := by omega
    have hall := hi.2
    subst e
    rw [List.take_length] at hall ⊢
    have hok : okSet p node links prio = true := by
      unfold okSet
      rw [h1, h2, decide_eq_true (by omega : -1000 ≤ prio), decide_eq_true (by omega : prio ≤ 1000), List.all_eq_true.2 hall]; rfl
    simp +decide -dsimp -implicitDefEqProofs [go_sem]
    refine loop_of (S := Nat) (fun i => ⟨tmps 122 [(0, .imm (w.map dvRow)), (1, .str p), (2, .str node), (14, .ptr 0 0), (16, .int .i64 i)], [.box 88 [.str p, .str node, .imm ((setT links).map sRow), .int .i64 prio]]⟩) (fun i => w.length - i) (fun i => i ≤ w.length ∧ ∀ x ∈ w.take i, (decide (x.2.node = node) && !decide (x.1 = p)) = false) 0 (by simp) (cut_of (by simp) ?_) ?_
    · simp +decide -dsimp -implicitDefEqProofs [go_sem, hcl]
    intro i hi
    by_cases h : i < w.length
    · have wi : IntKind.i64.wrap ((i : Int) + 1) = i + 1 := w64 (by omega) (by omega)
      have hstep : (decide (w[i].2.node = node) && !decide (w[i].1 = p)) = false → ∀ x ∈ w.take (i + 1), (decide (x.2.node = node) && !decide (x.1 = p)) = false := fun hn x hx => by
        rw [List.take_succ_eq_append_getElem h] at hx
        rcases List.mem_append.1 hx with hx | hx
        · exact hi.2 x hx
        · simp at hx; subst hx; exact hn
      by_cases h5 : w[i].2.node = node
      · by_cases h6 : w[i].1 = p
        · simp +decide -dsimp -implicitDefEqProofs [go_sem, h, hdr, h5, h6, wi]
          refine next_of (i + 1) ⟨by omega, hstep (by simp [h6])⟩ (by omega) (cut_of (by simp) ?_)
          simp +decide -dsimp -implicitDefEqProofs [go_sem, hcl]
        · have hcw : clashW w p node = true := List.any_eq_true.2 ⟨w[i], List.getElem_mem h, by simp [h5, h6]⟩
          rw [setR_clash hok hcw]
          simp +decide -dsimp -implicitDefEqProofs [go_sem, h, hdr, h5, h6, hcl]
      · simp +decide -dsimp -implicitDefEqProofs [go_sem, h, hdr, h5, wi]
        refine next_of (i + 1) ⟨by omega, hstep (by simp [h5])⟩ (by omega) (cut_of (by simp) ?_)
        simp +decide -dsimp -implicitDefEqProofs [go_sem, hcl]
    · have e : i = w.length := by omega
      have hnc := hi.2
      subst e
      rw [List.take_length] at hnc
      have hcw : clashW w p node = false := List.any_eq_false.2 fun x hx => by rw [hnc x hx]; decide
      rw [setR_ok hok hcw]
      have hR : ∀ d ∈ dropD w p, placeB d.1 = true := fun d hd => hP d (List.mem_filter.1 hd).1
      have hRl : (dropD w p).length ≤ w.length := List.length_filter_le _ _
      have hp3 := hp2 rfl
      simp +decide -dsimp -implicitDefEqProofs [go_sem]
      refine callE_pure c3 (by simp +decide -dsimp -implicitDefEqProofs [go_sem, hcl]) (by simp +decide -dsimp -implicitDefEqProofs [go_sem, hcl]) ?_
      generalize dropD w p = R at hR hRl
      have htR : List.take R.length (R.map dvRow) = R.map dvRow := List.take_of_length_le (by simp)
      have hrow : ∀ r ∈ R.map dvRow, r.length = 4 := fun r hr => by
        obtain ⟨x, _, rfl⟩ := List.mem_map.1 hr; rfl
      simp +decide -dsimp -implicitDefEqProofs [go_sem]
      refine loop_of (S := Nat) (fun n => ⟨tmps 122 [(1, .str p), (14, .ptr 0 0), (17, .imm (R.map dvRow)), (19, .int .i64 n)], [.box 88 [.str p, .str node, .imm ((setT links).map sRow), .int .i64 prio]]⟩) (fun n => R.length - n) (fun n => n ≤ R.length ∧ ∀ y ∈ R.take n, ltP y.1 p = true) 0 (by simp) (cut_of (by simp) ?_) ?_
      · simp +decide -dsimp -implicitDefEqProofs [go_sem, hcl]
      intro n hn3
      by_cases h5 : n < R.length
      · have wn : IntKind.i64.wrap ((n : Int) + 1) = n + 1 := w64 (by omega) (by omega)
        have co := Order_c R[n].1 p (hR _ (List.getElem_mem h5)) hp3
        simp +decide -dsimp -implicitDefEqProofs [go_sem, h5, hdr]
        refine callE_pure co rfl rfl ?_
        by_cases h6 : cmpP R[n].1 p < 0
        · simp +decide -dsimp -implicitDefEqProofs [go_sem, h6, wn]
          refine next_of (n + 1) ⟨by omega, fun x hx => ?_⟩ (by omega) (cut_of (by simp) ?_)
          · rw [List.take_succ_eq_append_getElem h5] at hx
            rcases List.mem_append.1 hx with hx | hx
            · exact hn3.2 x hx
            · simp at hx; subst hx; simpa [ltP] using h6
          simp +decide -dsimp -implicitDefEqProofs [go_sem, hcl]
        · have hins := insD_at (d := (p, ⟨node, setT links, prio⟩)) hn3.1 hn3.2 (fun _ => by simpa [ltP] using h6)
          simp +decide -dsimp -implicitDefEqProofs [go_sem, h6, maxLen]
          have hr2 : ∀ (r : List AV) (x : Txt) (x_1 : Own), (x, x_1) ∈ R → dvRow (x, x_1) = r → r.length = 4 := fun r x y _ e => by rw [← e]; rfl
          refine ⟨hn3.1, hr2, fun r hr => hrow r (List.mem_of_mem_take hr), ⟨by omega, by omega⟩, ⟨by omega, by omega⟩, hn3.1, hr2, fun r hr => hrow r (List.mem_of_mem_take (List.mem_of_mem_drop hr)), ⟨by omega, by omega⟩, ?_, ?_, hcl _ _⟩
          · rw [hins]; simp; omega
          · rw [hins, htR]; simp [dvRow, sRow, List.map_take, List.map_drop]
      · have e3 : n = R.length := by omega
        have hins := insD_at (d := (p, ⟨node, setT links, prio⟩)) hn3.1 hn3.2 (fun h => absurd h h5)
        subst e3
        simp +decide -dsimp -implicitDefEqProofs [go_sem, maxLen]
        have hr2 : ∀ (r : List AV) (x : Txt) (x_1 : Own), (x, x_1) ∈ R → dvRow (x, x_1) = r → r.length = 4 := fun r x y _ e => by rw [← e]; rfl
        refine ⟨hr2, fun r hr => hrow r (List.mem_of_mem_take hr), ⟨by omega, by omega⟩, ⟨by omega, by omega⟩, hr2, ⟨by omega, by omega⟩, ?_, ?_, hcl _ _⟩
        · rw [hins]; simp
        · rw [hins, htR]; simp [dvRow, sRow]
end Go.Ab
namespace Go.Ab
open Go Go.Proofs Go.Sort
set_option maxRecDepth 20000
theorem path_ne {PU U : List Txt} {B : Nat} {m : SMap Own} {w : List Dv} (h : Tbl PU U B m w) : w.Pairwise fun a b => a.1 ≠ b.1 := by
  have := asc_nodup h.t.keysN
  unfold List.Nodup at this
  rwa [List.pairwise_map] at this
theorem placeW {PU U : List Txt} {B : Nat} {m : SMap Own} {w : List Dv} (hF : Few12 PU U) (h : Tbl PU U B m w) : ∀ d ∈ w, placeB d.1 = true := fun d hd => hF.p _ (h.pu d hd)
theorem model_c {PU U : List Txt} {B : Nat} {m : SMap Own} {w : List Dv} (hF : Few12 PU U) (h : Tbl PU U B m w) (c : Cal) (hc : CalOk PU U c) :
    ACalls Tryz.prog 24 [.imm (w.map dvRow), .agg (calRow c)] [] (.tup [.imm ((calW w c).map dvRow), .int .i64 (calE w c)]) [] := by
  have hw := h.wl hF
  have hcl := fun k (w : List Dv) => dvRows_cl k w
  have h1 := hc.lp; have h2 := hc.ln; have h3 := hc.ll; have h4 := hc.ls
  have cD := rDrop_c w c.p (by omega) (path_ne h)
  have cS := rSet_c w c.p c.node c.links c.prio (by omega) h3 (by omega) (by omega) (fun x hx => by have := h4 x hx; omega) (path_ne h) (placeW hF h) (fun hs => hF.p _ (hc.p hs))
  unfold dropR at cD
  unfold setRV at cS
  refine acalls_F c24_ok rfl ?_
  unfold c24 calRow calW calE
  cases hdr : c.drop with
  | true =>
    simp +decide -dsimp -implicitDefEqProofs [go_sem]
    refine callE_pure cD (by simp +decide -dsimp -implicitDefEqProofs [go_sem, hcl]) (by simp +decide -dsimp -implicitDefEqProofs [go_sem, hcl]) ?_
    simp +decide -dsimp -implicitDefEqProofs [go_sem, hcl]
  | false =>
    simp +decide -dsimp -implicitDefEqProofs [go_sem]
    refine callE_pure cS (by simp +decide -dsimp -implicitDefEqProofs [go_sem, hcl]) (by simp +decide -dsimp -implicitDefEqProofs [go_sem, hcl]) ?_
    simp +decide -dsimp -implicitDefEqProofs [go_sem, hcl]
end Go.Ab
namespace Go.Ab
open Go Go.Proofs Go.Sort
set_option maxRecDepth 20000
theorem eqName_c (x : Lk) (s : Txt) : ACalls Tryz.prog 59 [.agg (lkRow x), .ptr 0 0] [.box 9 [.str s]] (.bool (decide (x.name = s))) [.box 9 [.str s]] := by
  refine acalls_F c59_ok rfl ?_
  unfold c59 lkRow
  simp +decide -dsimp -implicitDefEqProofs [go_sem]
  rw [Bool.eq_iff_iff]; simp
theorem IndexLk_c (l : List Lk) (s : Txt) (hl : l.length < 1000000000) :
    ACalls Tryz.prog 58 [.imm (l.map lkRow), .fn (.func 59) [] [.ptr 0 0]] [.box 9 [.str s]] (.int .i64 (idxI (l.findIdx? fun x => decide (x.name = s)))) [.box 9 [.str s]] := by
  have hlc := closedLL_lkRows
  refine acalls_F c58_ok rfl ?_
  unfold c58
  simp +decide -dsimp -implicitDefEqProofs [go_sem]
  refine loop_of (S := Nat) (fun i => ⟨tmps 19 [(0, .imm (l.map lkRow)), (1, .fn (.func 59) [] [.ptr 0 0]), (7, .int .i64 l.length), (8, .int .i64 i)], [.box 9 [.str s]]⟩) (fun i => l.length - i) (fun i => i ≤ l.length ∧ ∀ x ∈ l.take i, decide (x.name = s) = false) 0 (by simp) (cut_of (by simp) ?_) ?_
  · simp +decide -dsimp -implicitDefEqProofs [go_sem, hlc]
  intro i hi
  by_cases h : i < l.length
  · have w : IntKind.i64.wrap ((i : Int) + 1) = i + 1 := w64 (by omega) (by omega)
    have hlk : lkRow l[i] = [.str l[i].name, .str l[i].node, .str l[i].path] := rfl
    have ce := eqName_c l[i] s
    rw [hlk] at ce
    simp +decide -dsimp -implicitDefEqProofs [go_sem, h, hlk]
    refine callE_of ce ?_
    by_cases hp : l[i].name = s
    · have hfi := findIdx?_at (p := fun x : Lk => decide (x.name = s)) h (decide_eq_true hp) hi.2
      simp +decide -dsimp -implicitDefEqProofs [go_sem, hp, hfi, idxI]
    · simp +decide -dsimp -implicitDefEqProofs [go_sem, hp, w]
      refine next_of (i + 1) ⟨by omega, fun x hx => ?_⟩ (by omega) (cut_of (by simp) ?_)
      · rw [List.take_succ_eq_append_getElem h] at hx
        rcases List.mem_append.1 hx with hx | hx
        · exact hi.2 x hx
        · simp at hx; subst hx; simpa using hp
      simp +decide -dsimp -implicitDefEqProofs [go_sem, hlc]
  · have e : i = l.length := by omega
    have h2 := hi.2
    rw [e, List.take_length] at h2
    have h3 : (l.findIdx? fun x => decide (x.name = s)) = none := by rw [List.findIdx?_eq_none_iff]; exact fun x hx => by simp [h2 x hx]
    simp +decide -dsimp -implicitDefEqProofs [go_sem, h, h3, idxI]
def atL (l : List Lk) (s : Txt) : Option Lk := l.find? fun x => decide (x.name = s)
def atRow (o : Option Lk) : List AV := match o with | some x => lkRow x | none => [.str [], .str [], .str []]
theorem atL_some {l : List Lk} {s : Txt} {i : Nat} (h : (l.findIdx? fun x => decide (x.name = s)) = some i) : ∃ hi : i < l.length, atL l s = some l[i] := by
  obtain ⟨h1, h2, h3⟩ := List.findIdx?_eq_some_iff_getElem.1 h
  refine ⟨h1, List.find?_eq_some_iff_getElem.2 ⟨h2, i, h1, rfl, fun j hj => ?_⟩⟩
  simpa using h3 j hj
theorem atL_none {l : List Lk} {s : Txt} (h : (l.findIdx? fun x => decide (x.name = s)) = none) : atL l s = none :=
  List.find?_eq_none.2 fun x hx => by simpa using List.findIdx?_eq_none_iff.1 h x hx
theorem Where_c {PU U : List Txt} {B : Nat} {m : SMap Own} {w : List Dv} (hF : Few12 PU U) (h : Tbl PU U B m w) (hB : B ≤ 1000) (s : Txt) :
    ACalls Tryz.prog 30 [.ptr 1 0, .str s] (tbO m) (.tup [.agg (atRow (atL (linksW w) s)), .bool (atL (linksW w) s).isSome]) (tbO m) := by
  have cL := Links_c hF h hB
  have hk := h.kl hF
  have hmc := own_clm
  have hmr := own_renK
  have hlr := renLL_lkRows
  have cI := IndexLk_c (linksW w) s (by omega)
  refine acalls_F c30_ok rfl ?_
  unfold tbO at cL
  unfold c30 tbO
  simp +decide -dsimp -implicitDefEqProofs [go_sem]
  refine callE_frame [0, 1] cL rfl rfl (by simp) (by simp +decide -dsimp -implicitDefEqProofs [go_sem]) (by simp +decide -dsimp -implicitDefEqProofs [go_sem, hmr]) ?_
  simp +decide -dsimp -implicitDefEqProofs [go_sem, hmr, hlr]
  generalize linksW w = L at cI hk
  refine callE_frame [2] cI rfl rfl (by simp) (by simp +decide -dsimp -implicitDefEqProofs [go_sem, hlr]) (by simp +decide -dsimp -implicitDefEqProofs [go_sem]) ?_
  cases hf : L.findIdx? (fun x => decide (x.name = s)) with
  | none =>
    simp +decide -dsimp -implicitDefEqProofs [go_sem, idxI, atL_none hf, atRow]
    exact hmc _ _
  | some i =>
    obtain ⟨hi, ha⟩ := atL_some hf
    have ni : ¬ ((i : Int) < 0) := by omega
    have hlk : lkRow L[i] = [.str L[i].name, .str L[i].node, .str L[i].path] := rfl
    simp +decide -dsimp -implicitDefEqProofs [go_sem, idxI, ha, atRow, ni, hi, hlk]
    exact hmc _ _
end Go.Ab
