/- Tables of links: Nodes. -/
import Derived.Test.YtnibflopkjghcaaGreatDoorW2
namespace Go.Ab
open Go Go.Proofs Go.Sort
set_option maxRecDepth 20000
theorem srtT_strict {l : List Txt} (h : l.Nodup) : ascT (srtT l) := by
  have h1 : (srtT l).Nodup := (List.mergeSort_perm _ _).nodup_iff.2 h
  exact ((srtT_asc l).and h1).imp fun {a b} h => (List.le_iff_lt_or_eq.1 h.1).resolve_right h.2
abbrev TL (m : SMap Own) (w : List Dv) : Prop := TabL placeB ltP m w
theorem pord : POrd placeB ltP where
  irr := fun a => by
    have := swo_ltP.irrefl a
    exact this
  tr := fun a b c => swo_ltP.trans a b c
  tot := fun a b ha hb h1 h2 => cmpP_ntot ha hb (by simpa [ltP] using h1) (by simpa [ltP] using h2)
theorem TabW.node_inj {w : List Dv} (h : TabW placeB ltP w) {a b : Dv} (ha : a ∈ w) (hb : b ∈ w) (he : a.2.node = b.2.node) : a = b := by
  obtain ⟨i, hi, rfl⟩ := List.mem_iff_getElem.1 ha
  obtain ⟨j, hj, rfl⟩ := List.mem_iff_getElem.1 hb
  have hp := List.pairwise_iff_getElem.1 h.n
  rcases Nat.lt_trichotomy i j with h3 | h3 | h3
  · exact absurd he (hp i j hi hj h3)
  · subst h3; rfl
  · exact absurd he.symm (hp j i hj hi h3)
def nodesW (w : List Dv) : List Txt := setT (w.map fun d => d.2.node)
structure visN (m : SMap Own) (vis : List Nat) (l : List Txt) : Prop where
  nd : vis.Nodup
  lt : ∀ j ∈ vis, j < m.length
  ln : l.Nodup
  le : l.length ≤ vis.length
  me : ∀ n, n ∈ l ↔ ∃ j ∈ vis, ∃ q o, m[j]? = some (some (q, o)) ∧ o.node = n
theorem visN.step {m : SMap Own} {w : List Dv} (hT : TL m w) {vis : List Nat} {l : List Txt} (h : visN m vis l) {j : Nat} {q : Txt} {o : Own} (hj : m[j]? = some (some (q, o))) (hn : j ∉ vis) : visN m (vis ++ [j]) (l ++ [o.node]) := by
  have hjl := (List.getElem?_eq_some_iff.1 hj).1
  refine ⟨?_, fun x hx => ?_, ?_, by simp; exact h.le, fun n => ?_⟩
  · rw [List.nodup_append]
    refine ⟨h.nd, by simp, fun a ha b hb => ?_⟩
    simp at hb; subst hb
    exact fun e => hn (e ▸ ha)
  · rcases List.mem_append.1 hx with hx | hx
    · exact h.lt x hx
    · simp at hx; omega
  · rw [List.nodup_append]
    refine ⟨h.ln, by simp, fun a ha b hb => ?_⟩
    simp at hb; subst hb
    obtain ⟨k, hk, q', o', h1, h2⟩ := (h.me a).1 ha
    intro e
    have d1 := (hT.g q o).1 (get_at hT.o hj)
    have d2 := (hT.g q' o').1 (get_at hT.o h1)
    have := hT.toTabW.node_inj d2 d1 (h2.trans e)
    simp only [Prod.mk.injEq] at this
    obtain ⟨rfl, rfl⟩ := this
    have := two_at hT.o h1 hj
    exact hn (this ▸ hk)
  · rw [List.mem_append, h.me]
    constructor
    · rintro (⟨k, hk, h1⟩ | h1)
      · exact ⟨k, by simp [hk], h1⟩
      · simp at h1; subst h1; exact ⟨j, by simp, q, o, hj, rfl⟩
    · rintro ⟨k, hk, q', o', h1, h2⟩
      rcases List.mem_append.1 hk with hk | hk
      · exact .inl ⟨k, hk, q', o', h1, h2⟩
      · simp at hk; subst hk
        rw [hj] at h1
        simp only [Option.some.injEq, Prod.mk.injEq] at h1
        obtain ⟨rfl, rfl⟩ := h1
        exact .inr (by simp [h2])
theorem visN.fin {m : SMap Own} {w : List Dv} (hT : TL m w) {vis : List Nat} {l : List Txt} (h : visN m vis l) (hA : ∀ (j : Nat) (p : Txt × Own), m[j]? = some (some p) → j ∈ vis) : srtT l = nodesW w := by
  refine ascT_ext (srtT_strict h.ln) (setT_ok _).1 fun n => ?_
  rw [srtT_mem, h.me, nodesW, (setT_ok _).2, List.mem_map]
  constructor
  · rintro ⟨j, _, q, o, h1, h2⟩
    exact ⟨(q, o), (hT.g q o).1 (get_at hT.o h1), h2⟩
  · rintro ⟨⟨q, o⟩, h1, h2⟩
    obtain ⟨j, hj⟩ := at_get ((hT.g q o).2 h1)
    exact ⟨j, hA j _ hj, q, o, hj, h2⟩
set_option maxHeartbeats 4000000 in
theorem Nodes_c {m : SMap Own} {w : List Dv} (hT : TL m w) (hm : m.length ≤ 1000) : ACalls Tryz.prog 33 [.ptr 1 0] (tbO m) (.imm ((nodesW w).map sRow)) (tbO m) := by
  have hcl := own_clm
  refine acalls_F c33_ok rfl ?_
  unfold c33 tbO
  simp +decide -dsimp -implicitDefEqProofs [go_sem]
  refine loop_of (S := List Nat × List Txt) (fun s => ⟨tmps 23 [(0, .ptr 1 0), (3, .own 3 s.2.length), (10, .it 2)], [.map (smK ownV m), .box 98 [.map 0], .iter 0 m.length s.1, .reg 9 1 (s.2.map sRow)]⟩) (fun s => m.length - s.1.length) (fun s => visN m s.1 s.2) ([], []) ⟨by simp, by simp, by simp, by simp, by simp⟩ ((Wk.nilT 3 9 1 rfl (by simp)).trans (cut_of (by simp) ?_)) ?_
  · simp +decide -dsimp -implicitDefEqProofs [go_sem]
    exact hcl _ _
  rintro ⟨vis, l⟩ hv
  simp only at hv
  have hvl := nodup_le m.length vis hv.nd hv.lt
  have hle := hv.le
  simp +decide -dsimp -implicitDefEqProofs [go_sem]
  refine mnext_of (i := 2) (m := 0) (kvs := smK ownV m) rfl rfl (length_smK ownV m).symm (fun hA => ?_) (fun j kk x hj hg hnj => ?_)
  · have hf := hv.fin hT fun j p hj => hA j _ (smK_put hj).1 rfl
    have cs := sort_c l (by omega)
    rw [hf] at cs
    have hl2 : (nodesW w).length = l.length := by rw [← hf, srtT_len]
    simp +decide -dsimp -implicitDefEqProofs [go_sem]
    refine callE_frame [3] cs rfl rfl (by simp) (by simp +decide -dsimp -implicitDefEqProofs [go_sem]) (by simp +decide -dsimp -implicitDefEqProofs [go_sem]) ?_
    simp +decide -dsimp -implicitDefEqProofs [go_sem, hl2]
    exact hcl _ _
  · obtain ⟨pr, hjp, rfl, rfl⟩ := smK_at hj hg
    obtain ⟨q, o⟩ := pr
    have hjl := (List.getElem?_eq_some_iff.1 hjp).1
    have hvl2 := vis_lt hv.nd hv.lt hjl hnj
    rw [List.length_append] at hvl2
    simp only [List.length_cons, List.length_nil] at hvl2
    have hj' : (smK ownV m)[j]? = some (AV.str q, .agg [.str o.node, .imm (o.links.map sRow), .int .i64 o.prio]) := hj
    have ha : l.map sRow ++ [[AV.str o.node]] = (l ++ [o.node]).map sRow := by simp [sRow]
    simp +decide -dsimp -implicitDefEqProofs [go_sem, hj', isGap, maxLen]
    refine ⟨⟨by omega, by omega⟩, ?_⟩
    rw [ha]
    refine next_of (vis ++ [j], l ++ [o.node]) (hv.step hT hjp hnj) (by show m.length - (vis ++ [j]).length < m.length - vis.length; simp; omega) (cut_of (by simp) ?_)
    simp +decide -dsimp -implicitDefEqProofs [go_sem, sRow, closedL, closed]
    exact hcl _ _
end Go.Ab
namespace Go.Ab
open Go Go.Proofs Go.Sort
set_option maxRecDepth 20000
theorem asc_uniq {l l' : List Txt} (h : l.Pairwise fun a b => ltP a b = true) (h' : l'.Pairwise fun a b => ltP a b = true) (he : ∀ x, x ∈ l ↔ x ∈ l') : l = l' :=
  asc_ext' (fun a b => pord.asym a b) h h' he
theorem TL.keys {m : SMap Own} {w : List Dv} (hT : TL m w) {k : Txt} : k ∈ ksS m ↔ k ∈ w.map (·.1) := by
  rw [mem_ksS hT.o, List.mem_map]
  constructor
  · intro h
    obtain ⟨o, ho⟩ := Option.isSome_iff_exists.1 h
    exact ⟨(k, o), (hT.g k o).1 ho, rfl⟩
  · rintro ⟨⟨q, o⟩, h1, rfl⟩
    rw [(hT.g q o).2 h1]; rfl
theorem TL.keysN {m : SMap Own} {w : List Dv} (hT : TL m w) : (w.map (·.1)).Pairwise fun a b => ltP a b = true := by
  rw [List.pairwise_map]; exact hT.a
theorem asc_nodup {l : List Txt} (h : l.Pairwise fun a b => ltP a b = true) : l.Nodup := h.imp fun {a b} h e => by
  subst e; rw [pord.irr] at h; cases h
theorem TL.keysLen {m : SMap Own} {w : List Dv} (hT : TL m w) : (ksS m).length = w.length := by
  have hp : (ksS m).Perm (w.map (·.1)) := (List.perm_ext_iff_of_nodup (ksS_nodup hT.o) (asc_nodup hT.keysN)).2 fun k => hT.keys
  rw [hp.length_eq, List.length_map]
theorem clm_take {w : List Dv} {i : Nat} (h : i < w.length) : clm (w.take (i + 1)) = clm (w.take i) ++ clOf w[i] := by
  unfold clm; rw [List.take_succ_eq_append_getElem h, List.flatMap_append]; simp
theorem clm_len {w : List Dv} {B : Nat} (h : ∀ d ∈ w, d.2.links.length ≤ B) : (clm w).length ≤ w.length * B := by
  induction w with
  | nil => simp [clm]
  | cons d r ih =>
    have h1 := ih fun x hx => h x (by simp [hx])
    have h2 := h d (by simp)
    show (clOf d ++ clm r).length ≤ _
    rw [List.length_append, List.length_cons, Nat.add_mul]
    have : (clOf d).length = d.2.links.length := by simp [clOf]
    omega
theorem clRow_cl (k : Nat) (c : Cl) : closedL k (clRow c) = true := by simp [clRow, closedL, closed]
theorem closedLL_clRows (k : Nat) (l : List Cl) : closedLL k (l.map clRow) = true := closedLL_map fun x _ => clRow_cl k x
theorem renLL_clRows (is : List Nat) (l : List Cl) : renLL is (l.map clRow) = l.map clRow := by
  induction l with
  | nil => rfl
  | cons x r ih => rw [List.map_cons, renLL, ih]; simp [clRow, renL, ren]
set_option maxHeartbeats 4000000 in
theorem Claims_c {m : SMap Own} {w : List Dv} (hT : TL m w) (hm : m.length ≤ 1000) (hw : w.length ≤ 12) (hB : ∀ d ∈ w, d.2.links.length ≤ 1000) : ACalls Tryz.prog 34 [.ptr 1 0] (tbO m) (.imm ((clm w).map clRow)) (tbO m) := by
  have hcl := own_clm
  have hkr := own_renK
  have hcc := closedLL_clRows
  have hsf := sortedF_c ownV ownV_cl ownV_ren m hT.o (fun x hx => by
    obtain ⟨d, hd, rfl⟩ := List.mem_map.1 (hT.keys.1 hx)
    exact hT.p d hd) (by rw [hT.keysLen]; exact hw) (by omega)
  refine acalls_F c34_ok rfl ?_
  unfold c34 tbO
  simp +decide -dsimp -implicitDefEqProofs [go_sem]
  refine callE_grow [0] 1 (keys_c ownV m) rfl (fun v G h => by rw [h.2]; rfl) (by simp +decide) (by simp +decide -dsimp -implicitDefEqProofs [go_sem]) (by simp +decide -dsimp -implicitDefEqProofs [go_sem, hkr]) ?_
  rintro _ _ ⟨rfl, rfl⟩
  simp +decide -dsimp -implicitDefEqProofs [go_sem, hkr]
  refine callE_grow [0, 2] 1 hsf rfl (fun v G ⟨_, _, _, _, hG⟩ => by rw [hG]; rfl) (by simp +decide) (by simp +decide -dsimp -implicitDefEqProofs [go_sem]) (by simp +decide -dsimp -implicitDefEqProofs [go_sem, hkr]) ?_
  rintro _ _ ⟨ks, hkp, hka, rfl, rfl⟩
  have hks : ks = w.map (·.1) := asc_uniq hka hT.keysN fun x => by rw [hkp.mem_iff]; exact hT.keys
  have hkl : ks.length = w.length := by rw [hks]; simp
  simp +decide -dsimp -implicitDefEqProofs [go_sem, hkr, hkl]
  refine loop_of (S := Nat) (fun i => ⟨tmps 46 [(0, .ptr 1 0), (3, .own 4 (clm (w.take i)).length), (14, .own 3 w.length), (15, .int .i64 w.length), (16, .int .i64 i)], [.map (smK ownV m), .box 98 [.map 0], .box 96 [.map 0], .reg 9 1 (ks.map sRow), .reg 84 4 ((clm (w.take i)).map clRow)]⟩) (fun i => w.length - i) (fun i => i ≤ w.length) 0 (by simp) ((Wk.nilT 3 84 4 rfl (by simp)).trans (cut_of (by simp) ?_)) ?_
  · simp +decide -dsimp -implicitDefEqProofs [go_sem, clm]
    exact hcl _ _
  intro i hi
  by_cases h : i < w.length
  · have wi : IntKind.i64.wrap ((i : Int) + 1) = i + 1 := w64 (by omega) (by omega)
    obtain ⟨d, hd⟩ : ∃ d, d = w[i] := ⟨_, rfl⟩
    have hdm : d ∈ w := hd ▸ List.getElem_mem h
    have hg := (hT.g d.1 d.2).2 hdm
    have hk := keys_smK ownV d.1 m
    have hf := find_smK ownV d.1 m
    rw [hg] at hf
    have hf' : findKv (.str d.1) (smK ownV m) = some (.agg [.str d.2.node, .imm (d.2.links.map sRow), .int .i64 d.2.prio]) := hf
    have hat : (ks.map sRow)[i]? = some (sRow d.1) := by rw [hd, hks]; simp [h]
    have hBd := hB d hdm
    have htk := clm_take h
    rw [← hd] at htk
    have hol := clm_len (w := w.take i) (B := 1000) fun x hx => hB x (List.mem_of_mem_take hx)
    rw [List.length_take] at hol
    have hol2 : (clm (w.take i)).length ≤ 12000 := by
      have : min i w.length * 1000 ≤ 12 * 1000 := Nat.mul_le_mul_right _ (by omega)
      omega
    generalize clm (w.take i) = out at htk hol2
    simp +decide -dsimp -implicitDefEqProofs [go_sem, h, hat, hk, hf']
    refine ⟨hkl.symm, ?_⟩
    refine loop_of (S := Nat) (fun j => ⟨tmps 46 [(0, .ptr 1 0), (3, .own 4 (out ++ (clOf d).take j).length), (5, .str d.1), (6, .ptr 5 0), (14, .own 3 w.length), (15, .int .i64 w.length), (16, .int .i64 i), (27, .imm (d.2.links.map sRow)), (28, .int .i64 d.2.links.length), (29, .int .i64 j)], [.map (smK ownV m), .box 98 [.map 0], .box 96 [.map 0], .reg 9 1 (ks.map sRow), .reg 84 4 ((out ++ (clOf d).take j).map clRow), .box 102 [.str d.2.node, .imm (d.2.links.map sRow), .int .i64 d.2.prio]]⟩) (fun j => d.2.links.length - j) (fun j => j ≤ d.2.links.length) 0 (by simp) (cut_of (by simp) ?_) ?_
    · simp +decide -dsimp -implicitDefEqProofs [go_sem, hcc]
      exact hcl _ _
    intro j hj
    have hcl2 : (clOf d).length = d.2.links.length := by simp [clOf]
    by_cases h2 : j < d.2.links.length
    · have wj : IntKind.i64.wrap ((j : Int) + 1) = j + 1 := w64 (by omega) (by omega)
      have hlj : (d.2.links.map sRow)[j]? = some (sRow d.2.links[j]) := by simp [h2]
      have hca : (clOf d).take (j + 1) = (clOf d).take j ++ [⟨d.2.links[j], d.1, d.2.node, d.2.prio⟩] := by
        rw [List.take_succ_eq_append_getElem (by omega)]; simp [clOf]
      have hol3 : (out ++ (clOf d).take j).length ≤ 13000 := by rw [List.length_append, List.length_take]; omega
      have ha : (out ++ (clOf d).take j).map clRow ++ [[.str d.2.links[j], .str d.1, .str d.2.node, .int .i64 d.2.prio]] = (out ++ (clOf d).take (j + 1)).map clRow := by rw [hca, ← List.append_assoc, List.map_append (l₂ := [_])]; rfl
      have hl4 : (out ++ (clOf d).take (j + 1)).length = (out ++ (clOf d).take j).length + 1 := by rw [hca]; simp; omega
      generalize out ++ (clOf d).take j = o1 at ha hol3 hl4
      obtain ⟨o2, ho2⟩ : ∃ o2, o2 = out ++ (clOf d).take (j + 1) := ⟨_, rfl⟩
      rw [← ho2] at ha hl4
      simp +decide -dsimp -implicitDefEqProofs [go_sem, h2, maxLen, wj]
      refine ⟨⟨by omega, by omega⟩, ?_⟩
      rw [ha]
      refine next_of (j + 1) (by show j + 1 ≤ d.2.links.length; omega) (by show d.2.links.length - (j + 1) < d.2.links.length - j; omega) (cut_of (by simp) ?_)
      rw [← ho2]
      simp +decide -dsimp -implicitDefEqProofs [go_sem, hcc, hl4]
      exact hcl _ _
    · have e2 : j = d.2.links.length := by omega
      subst e2
      rw [List.take_of_length_le (by rw [hcl2]; exact Nat.le_refl _), ← htk]
      simp +decide -dsimp -implicitDefEqProofs [go_sem, wi]
      refine next_of (i + 1) (by show i + 1 ≤ w.length; omega) (by show w.length - (i + 1) < w.length - i; omega) (cut_of (by simp) ?_)
      simp +decide -dsimp -implicitDefEqProofs [go_sem, hcc]
      exact hcl _ _
  · have e : i = w.length := by omega
    subst e
    rw [List.take_length]
    simp +decide -dsimp -implicitDefEqProofs [go_sem]
    exact ⟨hcc _ _, hcl _ _⟩
end Go.Ab
namespace Go.Ab
open Go Go.Proofs Go.Sort
set_option maxRecDepth 20000
def clV (c : Cl) : AV := .agg (clRow c)
theorem clV_cl (k : Nat) (c : Cl) : closed k (clV c) = true := by simp [clV, clRow, closed, closedL]
theorem clV_ren (is : List Nat) (c : Cl) : ren is (clV c) = clV c := by simp [clV, clRow, ren, renL]
theorem cl_clm (m : SMap Cl) (k : Nat) (a b : AV) : (a, b) ∈ smK clV m → closed k a = true ∧ closed k b = true := smK_clm (k := k) (clV_cl k) a b
theorem cl_renK (is : List Nat) (m : SMap Cl) : renKv is (smK clV m) = smK clV m := smK_ren is clV (clV_ren is) m
theorem lkRow_cl (k : Nat) (x : Lk) : closedL k (lkRow x) = true := by simp [lkRow, closedL, closed]
theorem closedLL_lkRows (k : Nat) (l : List Lk) : closedLL k (l.map lkRow) = true := closedLL_map fun x _ => lkRow_cl k x
theorem renLL_lkRows (is : List Nat) (l : List Lk) : renLL is (l.map lkRow) = l.map lkRow := by
  induction l with
  | nil => rfl
  | cons x r ih => rw [List.map_cons, renLL, ih]; simp [lkRow, renL, ren]
theorem nearCl_c (n : Txt) (c : Cl) (hn : n.length ≤ 140737488351232) (hc : c.link.length ≤ 140737488351232) : ACalls Tryz.prog 77 [.str n, .ptr 0 0] [.box 84 (clRow c)] (.bool (nearB n c.link)) [.box 84 (clRow c)] := by
  refine acalls_F c77_ok rfl ?_
  unfold c77 clRow
  simp +decide -dsimp -implicitDefEqProofs [go_sem]
  refine callE_pure (near_c n c.link hn hc) rfl rfl ?_
  simp +decide -dsimp -implicitDefEqProofs [go_sem]
theorem opn_snoc (nodes : List Txt) (l : List Cl) (c : Cl) : opn nodes (l ++ [c]) = opn nodes l ++ (if voidB nodes c then [] else [c]) := by
  unfold opn; rw [List.filter_append]; congr 1
  cases h : voidB nodes c <;> simp [h]
structure bestOk (O : List Cl) (i : Nat) (m : SMap Cl) : Prop where
  b : BestM (lt := ltP) O m
  n : m.length ≤ i
structure visL (m : SMap Cl) (vis : List Nat) (l : List Lk) : Prop where
  nd : vis.Nodup
  lt : ∀ j ∈ vis, j < m.length
  ln : l.Pairwise fun a b => a.name ≠ b.name
  le : l.length ≤ vis.length
  me : ∀ x, x ∈ l ↔ ∃ j ∈ vis, ∃ k c, m[j]? = some (some (k, c)) ∧ (⟨k, c.node, c.path⟩ : Lk) = x ∧ ∀ k' c', getS k' m = some c' → benB k k' = false
theorem visL.step {m : SMap Cl} (ho : oneS' m) {vis : List Nat} {l : List Lk} (h : visL m vis l) {j : Nat} {q : Txt} {o : Cl} (hj : m[j]? = some (some (q, o))) (hn : j ∉ vis) {b : Bool} (hb : b = true ↔ ∀ k' c', getS k' m = some c' → benB q k' = false) :
    visL m (vis ++ [j]) (l ++ if b = true then [⟨q, o.node, o.path⟩] else []) := by
  have hjl := (List.getElem?_eq_some_iff.1 hj).1
  refine ⟨?_, fun x hx => ?_, ?_, ?_, fun x => ?_⟩
  · rw [List.nodup_append]
    refine ⟨h.nd, by simp, fun a ha b hb => ?_⟩
    simp at hb; subst hb
    exact fun e => hn (e ▸ ha)
  · rcases List.mem_append.1 hx with hx | hx
    · exact h.lt x hx
    · simp at hx; omega
  · rw [List.pairwise_append]
    refine ⟨h.ln, ?_, fun a ha y hy => ?_⟩
    · split <;> simp
    · obtain ⟨k, hk, q', o', h1, rfl, _⟩ := (h.me a).1 ha
      split at hy
      · simp at hy; subst hy
        simp only
        intro e
        subst e
        have := two_at ho h1 hj
        exact hn (this ▸ hk)
      · simp at hy
  · have := h.le
    rw [List.length_append, List.length_append]
    split <;> simp <;> omega
  · rw [List.mem_append, h.me]
    constructor
    · rintro (⟨k, hk, h1⟩ | h1)
      · exact ⟨k, by simp [hk], h1⟩
      · split at h1
        · rename_i hbt
          simp at h1; subst h1
          exact ⟨j, by simp, q, o, hj, rfl, hb.1 hbt⟩
        · simp at h1
    · rintro ⟨k, hk, q', o', h1, h2, h3⟩
      rcases List.mem_append.1 hk with hk | hk
      · exact .inl ⟨k, hk, q', o', h1, h2, h3⟩
      · simp at hk; subst hk
        rw [hj] at h1
        simp only [Option.some.injEq, Prod.mk.injEq] at h1
        obtain ⟨rfl, rfl⟩ := h1
        refine .inr ?_
        rw [if_pos (hb.2 h3)]
        simp [h2]
theorem visL.fin {O : List Cl} {m : SMap Cl} (hB : BestM (lt := ltP) O m) (hk : okCl placeB O) {vis : List Nat} {l S : List Lk} (h : visL m vis l) (hA : ∀ (j : Nat) (p : Txt × Cl), m[j]? = some (some p) → j ∈ vis) (hp : S.Perm l) (hs : S.Pairwise fun a b => ¬ b.name < a.name) : S = refR ltP O O := by
  refine ResOf.uniq (lt := ltP) (O := O) (res_of_sorted hp hs h.ln fun x => ?_) (refR_ok pord hk)
  rw [h.me]
  constructor
  · rintro ⟨j, _, k, c, h1, rfl, h3⟩
    obtain ⟨h4, rfl⟩ := hB.b k c (get_at hB.o h1)
    refine ⟨c, h4, rfl, fun d hd => ?_⟩
    obtain ⟨c', hc'⟩ := Option.isSome_iff_exists.1 (hB.a d hd)
    exact h3 _ _ hc'
  · rintro ⟨c, h1, rfl, h3⟩
    have hg := (hB.iff pord hk).2 ⟨h1, rfl⟩
    obtain ⟨j, hj⟩ := at_get hg
    refine ⟨j, hA j _ hj, c.link, c, hj, rfl, fun k' c' h4 => ?_⟩
    obtain ⟨h5, rfl⟩ := hB.b k' c' h4
    exact h3 c' h5.1
/-- The inner range: no other name beneath. -/
structure visB (m : SMap Cl) (q : Txt) (s : List Nat × Bool) : Prop where
  nd : s.1.Nodup
  lt : ∀ j ∈ s.1, j < m.length
  b : s.2 = true ↔ ∀ j ∈ s.1, ∀ k c, m[j]? = some (some (k, c)) → benB q k = false
theorem visB.step {m : SMap Cl} {q : Txt} {vis : List Nat} {b : Bool} (h : visB m q (vis, b)) {j : Nat} {k : Txt} {c : Cl} (hj : m[j]? = some (some (k, c))) (hn : j ∉ vis) : visB m q (vis ++ [j], b && !benB q k) := by
  have hjl := (List.getElem?_eq_some_iff.1 hj).1
  obtain ⟨h1, h2, h3⟩ := h
  simp only at h1 h2 h3
  refine ⟨?_, fun x hx => ?_, ?_⟩
  · show (vis ++ [j]).Nodup
    rw [List.nodup_append]
    refine ⟨h1, by simp, fun a ha b hb => ?_⟩
    simp at hb; subst hb
    exact fun e => hn (e ▸ ha)
  · rcases List.mem_append.1 hx with hx | hx
    · exact h2 x hx
    · simp at hx; omega
  · show (b && !benB q k) = true ↔ ∀ x ∈ vis ++ [j], _
    rw [Bool.and_eq_true, h3, Bool.not_eq_true']
    constructor
    · rintro ⟨h4, h5⟩ x hx k' c' hx'
      rcases List.mem_append.1 hx with hx | hx
      · exact h4 x hx k' c' hx'
      · simp at hx; subst hx
        rw [hj] at hx'
        simp only [Option.some.injEq, Prod.mk.injEq] at hx'
        obtain ⟨rfl, rfl⟩ := hx'
        exact h5
    · intro h4
      exact ⟨fun x hx => h4 x (by simp [hx]), h4 j (by simp) k c hj⟩
end Go.Ab
namespace Go.Ab
open Go Go.Proofs Go.Sort
variable {β : Type}
theorem len_set (k : List UInt8) (v : β) : ∀ m : SMap β, (setS k v m).length ≤ m.length + 1
  | [] => by simp [setS]
  | none :: r => by simp only [setS, List.length_cons]; have := len_set k v r; omega
  | some p :: r => by
    simp only [setS]
    split
    · simp
    · simp only [List.length_cons]; have := len_set k v r; omega
end Go.Ab
namespace Go.Ab
open Go Go.Proofs Go.Sort
set_option maxRecDepth 20000
set_option maxHeartbeats 16000000 in
theorem Resolve_c (nodes : List Txt) (claims : List Cl) (hk : okCl placeB claims) (hn : nodes.length ≤ 1000000) (hnl : ∀ x ∈ nodes, x.length ≤ 140737488351232) (hc : claims.length ≤ 100000) (hcl : ∀ c ∈ claims, c.link.length ≤ 1000000) (hr : (refR ltP (opn nodes claims) (opn nodes claims)).length ≤ 12) :
    ACalls Tryz.prog 48 [.imm (nodes.map sRow), .imm (claims.map clRow)] [] (.imm ((refR ltP (opn nodes claims) (opn nodes claims)).map lkRow)) [] := by
  have hmc := cl_clm
  have hmr := cl_renK
  have hcc := closedLL_clRows
  have hlc := closedLL_lkRows
  have hlr := renLL_lkRows
  have hcr := clRow_cl
  refine acalls_F c48_ok rfl ?_
  unfold c48
  simp +decide -dsimp -implicitDefEqProofs [go_sem]
  refine loop_of (S := Nat × SMap Cl) (fun s => ⟨tmps 79 [(0, .imm (nodes.map sRow)), (5, .map 0), (16, .imm (claims.map clRow)), (17, .int .i64 claims.length), (18, .int .i64 s.1)], [.map (smK clV s.2)]⟩) (fun s => claims.length - s.1) (fun s => s.1 ≤ claims.length ∧ bestOk (opn nodes (claims.take s.1)) s.1 s.2) (0, []) ⟨by simp, ⟨by simpa [opn] using BestM.nil, by simp⟩⟩ (cut_of (by simp) ?_) ?_
  · simp +decide -dsimp -implicitDefEqProofs [go_sem, hcc, smK_nil]
  rintro ⟨i, m⟩ ⟨hi, hB, hml⟩
  simp only at hi hB hml
  by_cases h : i < claims.length
  · have wi : IntKind.i64.wrap ((i : Int) + 1) = i + 1 := w64 (by omega) (by omega)
    obtain ⟨c, hcd⟩ : ∃ c, c = claims[i] := ⟨_, rfl⟩
    have hcm : c ∈ claims := hcd ▸ List.getElem_mem h
    have hsn := opn_snoc nodes (claims.take i) c
    rw [hcd, ← List.take_succ_eq_append_getElem h, ← hcd] at hsn
    have cf := ContainsFunc_c nodes 77 [.ptr 0 0] [.box 84 (clRow c)] (fun n => nearB n c.link) (by omega) (by simp [closedL, closed]) (by simp [selfH, cvH, cvO, cvT_self (hcr _ _)]) (fun x hx => nearCl_c x c (hnl x hx) (by have := hcl c hcm; omega))
    have hrow : clRow c = [.str c.link, .str c.path, .str c.node, .int .i64 c.prio] := rfl
    rw [hrow] at cf
    have hat : clRow claims[i] = [.str c.link, .str c.path, .str c.node, .int .i64 c.prio] := by rw [← hcd]; rfl
    have hvd : nodes.any (fun n => nearB n c.link) = voidB nodes c := rfl
    rw [hvd] at cf
    simp +decide -dsimp -implicitDefEqProofs [go_sem, h, hat]
    refine callE_frame [1] cf rfl rfl (by simp) (by simp +decide -dsimp -implicitDefEqProofs [go_sem]) (by simp +decide -dsimp -implicitDefEqProofs [go_sem]) ?_
    cases hv : voidB nodes c with
    | true =>
      rw [hv] at hsn
      simp only [if_true, List.append_nil] at hsn
      simp +decide -dsimp -implicitDefEqProofs [go_sem, wi]
      refine next_of (i + 1, m) ⟨by show i + 1 ≤ claims.length; omega, by show bestOk (opn nodes (claims.take (i + 1))) (i + 1) m; rw [hsn]; exact ⟨hB, by omega⟩⟩ (by show claims.length - (i + 1) < claims.length - i; omega) (cut_of (by simp) ?_)
      simp +decide -dsimp -implicitDefEqProofs [go_sem, hcc]
      exact hmc _ _
    | false =>
      rw [hv] at hsn
      simp only [Bool.false_eq_true, if_false] at hsn
      have hk1 := keys_smK clV c.link m
      have hf := find_smK clV c.link m
      have hst : setKv (.str c.link) (.agg [.str c.link, .str c.path, .str c.node, .int .i64 c.prio]) (smK clV m) = smK clV (setS c.link c m) := set_smK clV c.link c m
      have hls := len_set c.link c m
      cases hg : getS c.link m with
      | none =>
        rw [hg] at hf
        have hB2 := hB.new pord hg
        rw [← hsn] at hB2
        simp +decide -dsimp -implicitDefEqProofs [go_sem, hk1, hf, hst, wi]
        refine next_of (i + 1, setS c.link c m) ⟨by show i + 1 ≤ claims.length; omega, ⟨hB2, by show (setS c.link c m).length ≤ i + 1; omega⟩⟩ (by show claims.length - (i + 1) < claims.length - i; omega) (cut_of (by simp) ?_)
        simp +decide -dsimp -implicitDefEqProofs [go_sem, hcc]
        exact hmc _ _
      | some old =>
        rw [hg] at hf
        have hf' : findKv (.str c.link) (smK clV m) = some (.agg [.str old.link, .str old.path, .str old.node, .int .i64 old.prio]) := hf
        have hom : old ∈ opn nodes (claims.take i) := (hB.b _ _ hg).1.1
        have hop : placeB old.path = true := hk.1 old (List.mem_of_mem_take (List.mem_filter.1 hom).1)
        have cb := better_c c old (hk.1 c hcm) hop
        unfold clRow at cb
        simp +decide -dsimp -implicitDefEqProofs [go_sem, hk1, hf']
        refine callE_pure cb rfl rfl ?_
        cases hb : betB ltP c old with
        | true =>
          have hB2 := hB.won pord hg hb
          rw [← hsn] at hB2
          simp +decide -dsimp -implicitDefEqProofs [go_sem, hk1, hst, wi]
          refine next_of (i + 1, setS c.link c m) ⟨by show i + 1 ≤ claims.length; omega, ⟨hB2, by show (setS c.link c m).length ≤ i + 1; omega⟩⟩ (by show claims.length - (i + 1) < claims.length - i; omega) (cut_of (by simp) ?_)
          simp +decide -dsimp -implicitDefEqProofs [go_sem, hcc]
          exact hmc _ _
        | false =>
          have hB2 := hB.lost hg hb
          rw [← hsn] at hB2
          simp +decide -dsimp -implicitDefEqProofs [go_sem, wi]
          refine next_of (i + 1, m) ⟨by show i + 1 ≤ claims.length; omega, ⟨hB2, by show m.length ≤ i + 1; omega⟩⟩ (by show claims.length - (i + 1) < claims.length - i; omega) (cut_of (by simp) ?_)
          simp +decide -dsimp -implicitDefEqProofs [go_sem, hcc]
          exact hmc _ _
  · have e : i = claims.length := by omega
    subst e
    rw [List.take_length] at hB
    have hkO : okCl placeB (opn nodes claims) := hk.sub List.filter_sublist
    simp +decide -dsimp -implicitDefEqProofs [go_sem]
    refine loop_of (S := List Nat × List Lk) (fun s => ⟨tmps 79 [(5, .map 0), (10, .ptr 1 0), (45, .it 2)], [.map (smK clV m), .box 45 [.own 3 s.2.length], .iter 0 m.length s.1, .reg 61 3 (s.2.map lkRow)]⟩) (fun s => m.length - s.1.length) (fun s => visL m s.1 s.2) ([], []) ⟨by simp, by simp, by simp, by simp, by simp⟩ ((Wk.nilB 1 0 61 3 rfl rfl (by simp)).trans (cut_of (by simp) ?_)) ?_
    · simp +decide -dsimp -implicitDefEqProofs [go_sem]
      exact hmc _ _
    rintro ⟨vis, l⟩ hv
    simp only at hv
    have hvl := nodup_le m.length vis hv.nd hv.lt
    have hle := hv.le
    simp +decide -dsimp -implicitDefEqProofs [go_sem]
    refine mnext_of (i := 2) (m := 0) (kvs := smK clV m) rfl rfl (length_smK clV m).symm (fun hA => ?_) (fun j kk x hj hg hnj => ?_)
    · have hA' : ∀ (j : Nat) (p : Txt × Cl), m[j]? = some (some p) → j ∈ vis := fun j p hj => hA j _ (smK_put hj).1 rfl
      have hlen : l.length = (refR ltP (opn nodes claims) (opn nodes claims)).length := by
        have hp := List.mergeSort_perm l (fun a b : Lk => decide (a.name ≤ b.name))
        have hs := List.pairwise_mergeSort (le := fun a b : Lk => decide (a.name ≤ b.name)) (fun a b c h1 h2 => by simp only [decide_eq_true_eq] at *; exact List.le_trans h1 h2) (fun a b => by
          simp only [Bool.or_eq_true, decide_eq_true_eq]; exact List.le_total a.name b.name) l
        rw [← hv.fin hB hkO hA' hp (hs.imp fun h => by simpa using h), hp.length_eq]
      have cs := sortSlice_c l (by omega)
      simp +decide -dsimp -implicitDefEqProofs [go_sem]
      refine callE_frameR [1, 3] cs rfl (fun v G ⟨_, S, _, _, hG⟩ => by rw [hG]; rfl) (by simp) (by simp +decide -dsimp -implicitDefEqProofs [go_sem]) (by simp +decide -dsimp -implicitDefEqProofs [go_sem, hlr]) ?_
      rintro _ _ ⟨rfl, S, hp, hs, rfl⟩
      obtain rfl := hv.fin hB hkO hA' hp hs
      simp +decide -dsimp -implicitDefEqProofs [go_sem, hlr, hlen]
      exact hlc _ _
    · obtain ⟨pr, hjp, rfl, rfl⟩ := smK_at hj hg
      obtain ⟨q, o⟩ := pr
      have hj' : (smK clV m)[j]? = some (AV.str q, .agg [.str o.link, .str o.path, .str o.node, .int .i64 o.prio]) := hj
      have hgq := get_at hB.o hjp
      have hbq := hB.b q o hgq
      have hql : q.length ≤ 1000000 := by rw [← hbq.2]; exact hcl o (List.mem_filter.1 hbq.1.1).1
      have hjl := (List.getElem?_eq_some_iff.1 hjp).1
      have hvl2 := vis_lt hv.nd hv.lt hjl hnj
      rw [List.length_append] at hvl2
      simp only [List.length_cons, List.length_nil] at hvl2
      simp +decide -dsimp -implicitDefEqProofs [go_sem, hj', isGap]
      refine loop_of (S := List Nat × Bool) (fun s => ⟨tmps 79 [(5, .map 0), (10, .ptr 1 0), (11, .str q), (12, .ptr 4 0), (13, .bool s.2), (45, .it 2), (52, .it 5)], [.map (smK clV m), .box 45 [.own 3 l.length], .iter 0 m.length (vis ++ [j]), .reg 61 3 (l.map lkRow), .box 84 [.str o.link, .str o.path, .str o.node, .int .i64 o.prio], .iter 0 m.length s.1]⟩) (fun s => m.length - s.1.length) (visB m q) ([], true) ⟨by simp, by simp, by simp⟩ (cut_of (by simp) ?_) ?_
      · simp +decide -dsimp -implicitDefEqProofs [go_sem, hlc]
        exact hmc _ _
      rintro ⟨v2, b⟩ hb
      simp +decide -dsimp -implicitDefEqProofs [go_sem]
      refine mnext_of (i := 5) (m := 0) (kvs := smK clV m) rfl rfl (length_smK clV m).symm (fun hA2 => ?_) (fun jj kk x hjj hgg hnjj => ?_)
      · have hbb : b = true ↔ ∀ k' c', getS k' m = some c' → benB q k' = false := by
          rw [show b = (v2, b).2 from rfl, hb.b]
          constructor
          · intro h1 k' c' h2
            obtain ⟨jx, hjx⟩ := at_get h2
            exact h1 jx (hA2 jx _ (smK_put hjx).1 rfl) k' c' hjx
          · intro h1 jx _ k' c' hjx
            exact h1 k' c' (get_at hB.o hjx)
        have hst := hv.step hB.o hjp hnj hbb
        cases b with
        | true =>
          simp only [if_true] at hst
          have ha : l.map lkRow ++ [[.str q, .str o.node, .str o.path]] = (l ++ [(⟨q, o.node, o.path⟩ : Lk)]).map lkRow := by simp [lkRow]
          simp +decide -dsimp -implicitDefEqProofs [go_sem, maxLen]
          refine ⟨⟨by omega, by omega⟩, ?_⟩
          rw [ha]
          refine next_of (vis ++ [j], l ++ [⟨q, o.node, o.path⟩]) hst (by show m.length - (vis ++ [j]).length < m.length - vis.length; simp; omega) (cut_of (by simp) ?_)
          simp +decide -dsimp -implicitDefEqProofs [go_sem, hlc, lkRow_cl]
          exact hmc _ _
        | false =>
          simp only [Bool.false_eq_true, if_false, List.append_nil] at hst
          simp +decide -dsimp -implicitDefEqProofs [go_sem]
          refine next_of (vis ++ [j], l) hst (by show m.length - (vis ++ [j]).length < m.length - vis.length; simp; omega) (cut_of (by simp) ?_)
          simp +decide -dsimp -implicitDefEqProofs [go_sem, hlc]
          exact hmc _ _
      · obtain ⟨pr2, hjp2, rfl, rfl⟩ := smK_at hjj hgg
        obtain ⟨k, c⟩ := pr2
        have hjj' : (smK clV m)[jj]? = some (AV.str k, clV c) := hjj
        have hjl2 := (List.getElem?_eq_some_iff.1 hjp2).1
        have hvl3 := vis_lt hb.nd hb.lt hjl2 hnjj
        rw [List.length_append] at hvl3
        simp only [List.length_cons, List.length_nil] at hvl3
        have hst := hb.step hjp2 hnjj
        have cb := beneath_c q k (by omega)
        cases b with
        | true =>
          rw [Bool.true_and] at hst
          simp +decide -dsimp -implicitDefEqProofs [go_sem, hjj', isGap]
          refine callE_pure cb rfl rfl ?_
          simp +decide -dsimp -implicitDefEqProofs [go_sem]
          refine next_of (v2 ++ [jj], !benB q k) hst (by show m.length - (v2 ++ [jj]).length < m.length - v2.length; simp; omega) (cut_of (by simp) ?_)
          simp +decide -dsimp -implicitDefEqProofs [go_sem, hlc]
          exact hmc _ _
        | false =>
          rw [Bool.false_and] at hst
          simp +decide -dsimp -implicitDefEqProofs [go_sem, hjj', isGap]
          refine next_of (v2 ++ [jj], false) hst (by show m.length - (v2 ++ [jj]).length < m.length - v2.length; simp; omega) (cut_of (by simp) ?_)
          simp +decide -dsimp -implicitDefEqProofs [go_sem, hlc]
          exact hmc _ _
end Go.Ab
namespace Go.Ab
open Go Go.Proofs Go.Sort
set_option maxRecDepth 20000
structure Cal where
  drop : Bool
  p : Txt
  node : Txt
  links : List Txt
  prio : Int
def calRow (c : Cal) : List AV := [.bool c.drop, .str c.p, .str c.node, .imm (c.links.map sRow), .int .i64 c.prio]
def clashW (w : List Dv) (p node : Txt) : Bool := w.any fun d => decide (d.2.node = node) && !decide (d.1 = p)
def setW (w : List Dv) (p node : Txt) (links : List Txt) (prio : Int) : List Dv := if okSet p node links prio = true ∧ clashW w p node = false then insD ltP (dropD w p) (p, ⟨node, setT links, prio⟩) else w
def setE (w : List Dv) (p node : Txt) (links : List Txt) (prio : Int) : Int := if okSet p node links prio = true then (if clashW w p node = true then 211 else 0) else 210
def hasW (w : List Dv) (p : Txt) : Bool := w.any fun d => decide (d.1 = p)
def calW (w : List Dv) (c : Cal) : List Dv := if c.drop = true then dropD w c.p else setW w c.p c.node c.links c.prio
def calE (w : List Dv) (c : Cal) : Int := if c.drop = true then (if hasW w c.p = true then 0 else 212) else setE w c.p c.node c.links c.prio
/-- A table of few devices: paths of PU, links of U; at most B places. -/
structure Tbl (PU U : List Txt) (B : Nat) (m : SMap Own) (w : List Dv) : Prop where
  t : TL m w
  ml : m.length ≤ B
  pu : ∀ d ∈ w, d.1 ∈ PU
  u : ∀ d ∈ w, ∀ s ∈ d.2.links, s ∈ U
  nl : ∀ d ∈ w, d.2.node.length ≤ 1000
structure Few12 (PU U : List Txt) : Prop where
  p : ∀ x ∈ PU, placeB x = true
  pl : PU.length ≤ 12
  ul : U.length ≤ 12
  us : ∀ s ∈ U, s.length ≤ 1000
structure CalOk (PU U : List Txt) (c : Cal) : Prop where
  p : (pathL c.p).isSome = true → c.p ∈ PU
  l : ∀ s ∈ c.links, linkB s = true → s ∈ U
  ll : c.links.length ≤ 1000
  lp : c.p.length ≤ 1000
  ln : c.node.length ≤ 1000
  ls : ∀ s ∈ c.links, s.length ≤ 1000
theorem nodup_sub : ∀ {l U : List Txt}, l.Nodup → (∀ x ∈ l, x ∈ U) → l.length ≤ U.length
  | [], _, _, _ => Nat.zero_le _
  | x :: r, U, h, hs => by
    rw [List.nodup_cons] at h
    have hx := hs x (by simp)
    have := nodup_sub (l := r) (U := U.erase x) h.2 fun y hy => (List.mem_erase_of_ne (fun e => h.1 (by rw [← e]; exact hy))).2 (hs y (by simp [hy]))
    rw [List.length_erase_of_mem hx] at this
    have h0 : 0 < U.length := List.length_pos_of_mem hx
    rw [List.length_cons]; omega
theorem asc_nd {l : List Txt} (h : ascT l) : l.Nodup := List.Pairwise.imp (S := (· ≠ ·)) (fun {a b} h e => by subst e; exact List.lt_irrefl _ h) h
section
variable {PU U : List Txt} {B : Nat} {m : SMap Own} {w : List Dv}
theorem Tbl.wl (hF : Few12 PU U) (h : Tbl PU U B m w) : w.length ≤ 12 := by
  have h1 := nodup_sub (asc_nodup h.t.keysN) (U := PU) fun x hx => by
    obtain ⟨d, hd, rfl⟩ := List.mem_map.1 hx
    exact h.pu d hd
  rw [List.length_map] at h1
  have := hF.pl; omega
theorem Tbl.ll (hF : Few12 PU U) (h : Tbl PU U B m w) : ∀ d ∈ w, d.2.links.length ≤ 12 := fun d hd =>
  Nat.le_trans (nodup_sub (asc_nd (h.t.l d hd)) (h.u d hd)) hF.ul
def linksW (w : List Dv) : List Lk := refR ltP (opn (nodesW w) (clm w)) (opn (nodesW w) (clm w))
theorem Tbl.res (h : Tbl PU U B m w) : ResOf ltP (opn (nodesW w) (clm w)) (linksW w) := refR_ok pord ((clm_ok pord h.t.toTabW).sub List.filter_sublist)
theorem Tbl.kl (hF : Few12 PU U) (h : Tbl PU U B m w) : (linksW w).length ≤ 12 := by
  have hr := h.res
  have h1 : ((linksW w).map (·.name)).Nodup := by
    unfold List.Nodup
    rw [List.pairwise_map]
    exact hr.asc.imp (S := fun a b => a.name ≠ b.name) fun {a b} h e => by rw [e] at h; exact List.lt_irrefl _ h
  have h2 := nodup_sub h1 (U := U) fun x hx => by
    obtain ⟨y, hy, rfl⟩ := List.mem_map.1 hx
    obtain ⟨c, hc, rfl, _⟩ := (hr.mem y).1 hy
    obtain ⟨d, hd, h3, _⟩ := clm_mem.1 (List.mem_filter.1 hc.1).1
    exact h.u d hd _ h3
  rw [List.length_map] at h2
  have := hF.ul; omega
theorem nodesW_mem {x : Txt} : x ∈ nodesW w ↔ ∃ d ∈ w, d.2.node = x := by
  rw [nodesW, (setT_ok _).2, List.mem_map]
theorem nodesW_len : (nodesW w).length ≤ w.length := by
  have h1 := nodup_sub (asc_nd (setT_ok (w.map fun d => d.2.node)).1) (U := w.map fun d => d.2.node) fun x hx => ((setT_ok _).2 x).1 hx
  rwa [List.length_map] at h1
theorem Links_c (hF : Few12 PU U) (h : Tbl PU U B m w) (hB : B ≤ 1000) : ACalls Tryz.prog 35 [.ptr 1 0] (tbO m) (.imm ((linksW w).map lkRow)) (tbO m) := by
  have hw := h.wl hF
  have hll := h.ll hF
  have hml := h.ml
  have cN := Nodes_c h.t (by omega)
  have cC := Claims_c h.t (by omega) hw (fun d hd => Nat.le_trans (hll d hd) (by decide))
  have hnl := nodesW_len (w := w)
  have hcl := clm_len (w := w) (B := 12) hll
  have cR := Resolve_c (nodesW w) (clm w) (clm_ok pord h.t.toTabW) (by omega) (fun x hx => by
    obtain ⟨d, hd, rfl⟩ := nodesW_mem.1 hx
    have := h.nl d hd; omega) (by omega) (fun c hc => by
    obtain ⟨d, hd, h3, _⟩ := clm_mem.1 hc
    have := hF.us _ (h.u d hd _ h3); omega) (h.kl hF)
  have hmc := own_clm
  have hmr := own_renK
  have hcc := closedLL_clRows
  have hcr := renLL_clRows
  have hlc := closedLL_lkRows
  refine acalls_F c35_ok rfl ?_
  unfold c35
  unfold tbO at cN cC ⊢
  unfold linksW
  simp +decide -dsimp -implicitDefEqProofs [go_sem]
  refine callE_frame [0, 1] cN rfl rfl (by simp) (by simp +decide -dsimp -implicitDefEqProofs [go_sem]) (by simp +decide -dsimp -implicitDefEqProofs [go_sem, hmr]) ?_
  simp +decide -dsimp -implicitDefEqProofs [go_sem, hmr]
  refine callE_frame [0, 1] cC rfl rfl (by simp) (by simp +decide -dsimp -implicitDefEqProofs [go_sem]) (by simp +decide -dsimp -implicitDefEqProofs [go_sem, hmr]) ?_
  simp +decide -dsimp -implicitDefEqProofs [go_sem, hmr, hcr]
  refine callE_pure cR (by simp +decide -dsimp -implicitDefEqProofs [go_sem, hcc]) (by simp +decide -dsimp -implicitDefEqProofs [go_sem, hlc]) ?_
  simp +decide -dsimp -implicitDefEqProofs [go_sem, hlc]
  exact hmc _ _
theorem clash_iff (h : Tbl PU U B m w) {p node : Txt} : clashM m p node ↔ clashW w p node = true := by
  unfold clashM clashW
  simp only [List.any_eq_true, Bool.and_eq_true, decide_eq_true_eq, Bool.not_eq_true', decide_eq_false_iff_not]
  constructor
  · rintro ⟨q, o, h1, h2, h3⟩
    exact ⟨(q, o), (h.t.g q o).1 h1, h3, h2⟩
  · rintro ⟨⟨q, o⟩, h1, h2, h3⟩
    exact ⟨q, o, (h.t.g q o).2 h1, h3, h2⟩
theorem len_del {β : Type} (p : Txt) : ∀ m : SMap β, (delS p m).length = m.length
  | [] => rfl
  | none :: r => by simp [delS, len_del p r]
  | some q :: r => by unfold delS; split <;> simp [len_del p r]
theorem Tbl.drop (h : Tbl PU U B m w) (p : Txt) : Tbl PU U (B + 1) (delS p m) (dropD w p) :=
  ⟨h.t.drop p, by rw [len_del]; have := h.ml; omega, fun d hd => h.pu d (List.mem_filter.1 hd).1, fun d hd => h.u d (List.mem_filter.1 hd).1, fun d hd => h.nl d (List.mem_filter.1 hd).1⟩
theorem Tbl.le (h : Tbl PU U B m w) : Tbl PU U (B + 1) m w := ⟨h.t, Nat.le_succ_of_le h.ml, h.pu, h.u, h.nl⟩
theorem Tbl.put (hF : Few12 PU U) (h : Tbl PU U B m w) {p node : Txt} {links : List Txt} {prio : Int} (hp : p ∈ PU) (hu : ∀ s ∈ links, s ∈ U) (hn : node.length ≤ 1000) (hc : clashW w p node = false) :
    Tbl PU U (B + 1) (setS p ⟨node, setT links, prio⟩ m) (insD ltP (dropD w p) (p, ⟨node, setT links, prio⟩)) := by
  have hm := len_set p (⟨node, setT links, prio⟩ : Own) m
  have hml := h.ml
  refine ⟨h.t.put pord (hF.p p hp) (setT_ok links).1 fun d hd hne e => ?_, by omega, fun d hd => ?_, fun d hd s hs => ?_, fun d hd => ?_⟩
  · have : clashW w p node = true := List.any_eq_true.2 ⟨d, hd, by simp [hne, e]⟩
    rw [hc] at this; cases this
  · rcases insD_mem.1 hd with rfl | hd
    · exact hp
    · exact h.pu d (List.mem_filter.1 hd).1
  · rcases insD_mem.1 hd with rfl | hd
    · exact hu s (((setT_ok links).2 s).1 hs)
    · exact h.u d (List.mem_filter.1 hd).1 s hs
  · rcases insD_mem.1 hd with rfl | hd
    · exact hn
    · exact h.nl d (List.mem_filter.1 hd).1
def tbR (PU U : List Txt) (B : Nat) (w : List Dv) (e : Int) (v : AV) (G : List AObj) : Prop := ∃ m, v = .int .i64 e ∧ G = tbO m ∧ Tbl PU U B m w
theorem SetT_c (hF : Few12 PU U) (h : Tbl PU U B m w) (_hB : B ≤ 999) (c : Cal) (hc : CalOk PU U c) :
    ACallsR Tryz.prog 32 [.ptr 1 0, .str c.p, .str c.node, .imm (c.links.map sRow), .int .i64 c.prio] (tbO m) (tbR PU U (B + 1) (setW w c.p c.node c.links c.prio) (setE w c.p c.node c.links c.prio)) := by
  have h1 := hc.lp; have h2 := hc.ln; have h3 := hc.ll; have h4 := hc.ls
  unfold setW setE
  cases hok : okSet c.p c.node c.links c.prio with
  | false =>
    refine (SetBad_c m c.p c.node c.links c.prio (by omega) (by omega) (by omega) (fun x hx => by have := h4 x hx; omega) hok).toR.mono fun v G ⟨hv, hG⟩ => ?_
    exact ⟨m, by simpa using hv, hG, by simpa using h.le⟩
  | true =>
    refine (Set_c m c.p c.node c.links c.prio h.t.o (by omega) (by omega) (by omega) (fun x hx => by have := h4 x hx; omega) hok).mono fun v G hR => ?_
    rcases hR with ⟨hq, rfl, rfl⟩ | ⟨hq, rfl, rfl⟩
    · rw [clash_iff h] at hq
      exact ⟨m, by simp [hq], rfl, by simpa [hq] using h.le⟩
    · rw [clash_iff h] at hq
      have hq' : clashW w c.p c.node = false := by simpa using hq
      have hok2 := hok
      unfold okSet at hok2
      simp only [Bool.and_eq_true, decide_eq_true_eq] at hok2
      obtain ⟨⟨⟨⟨b1, _⟩, _⟩, _⟩, b5⟩ := hok2
      refine ⟨_, by simp [hq'], rfl, ?_⟩
      have := h.put hF (p := c.p) (node := c.node) (links := c.links) (prio := c.prio) (hc.p b1) (fun s hs => hc.l s hs (List.all_eq_true.1 b5 s hs)) hc.ln hq'
      simpa [hq'] using this
end
end Go.Ab
