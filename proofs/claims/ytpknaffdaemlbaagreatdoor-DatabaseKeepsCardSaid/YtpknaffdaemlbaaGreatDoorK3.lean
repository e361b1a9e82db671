/- The law DatabaseKeeps. -/
import Derived.Test.YtpknaffdaemlbaaGreatDoorKN
import Derived.Test.YtpknaffdaemlbaaGreatDoorW9
import Derived.Test.YtpknaffdaemlbaaGreatDoorW3
import Derived.Test.YtpknaffdaemlbaaGreatDoorC3
namespace Go.Ab
open Go Go.Proofs
theorem nodup_le : ∀ (n : Nat) (l : List Nat), l.Nodup → (∀ x ∈ l, x < n) → l.length ≤ n
  | 0, l, _, h => by
    cases l with
    | nil => simp
    | cons x r => have := h x (by simp); omega
  | n + 1, l, hn, h => by
    have h1 := nodup_le n (l.erase n) (hn.erase n) fun x hx => by
      have h2 := (hn.mem_erase_iff).1 hx
      have := h x h2.2
      omega
    have h3 : l.length ≤ (l.erase n).length + 1 := by rw [List.length_erase]; split <;> omega
    omega
theorem smK_nil {β : Type} (f : β → AV) : smK f ([] : SMap β) = [] := rfl
def rV (r : Rcd) : AV := .agg (rRow r)
theorem rV_cl (k : Nat) (r : Rcd) : closed k (rV r) = true := by simp [rV, closed, rRow_cl]
theorem rV_ren (is : List Nat) (r : Rcd) : ren is (rV r) = rV r := by simp [rV, ren, rRow_ren]
def tapeVs (l : List Int) : AV := .imm (l.map fun v => [.int .i64 v])
theorem tape0 (l : List Int) : AObj.box 25 [.imm (l.map fun v => [.int .i64 v]), .int .i64 0] = tapeO l 0 := rfl
structure KS where
  i : Nat
  k : Nat
  dur : TMap
  seen : TMap
  pend : List Wr
  syn : SMap Rcd
  tch : SMap Bool
  now : SMap Rcd
def KS.H (l : List Int) (s : KS) : List AObj := [tapeO l s.k, dbB 2 3 4 s.pend.length, mO s.dur, mO s.seen, .reg 88 1 (s.pend.map wRow), .map (smK rV s.syn), .map (smK .bool s.tch), .map (smK rV s.now)]
def KS.T (keep : Int) (n : Nat) (s : KS) : List AV := tmps 123 [(1, .int .i64 keep), (5, .ptr 0 0), (6, .ptr 1 0), (7, .map 5), (8, .map 6), (9, .map 7), (10, .int .i64 ((n - s.i : Nat) : Int))]
structure KS.ok (n : Nat) (s : KS) : Prop where
  hi : s.i ≤ n
  inv : Inv s.dur s.seen s.pend s.syn s.now s.tch
  hk : s.k ≤ 1 + 200 * s.i
  hp : s.pend.length ≤ s.i
  hc : cntS s.seen ≤ s.i
/-- What a range over a map has copied. -/
structure Cpd (now : SMap Rcd) (vis : List Nat) (m : SMap Rcd) : Prop where
  nd : vis.Nodup
  lt : ∀ j ∈ vis, j < now.length
  o : oneS' m
  onto : ∀ (j : Nat) (p : List UInt8) (r : Rcd), j ∈ vis → now[j]? = some (some (p, r)) → getS p m = some r
  fr : ∀ p r, getS p m = some r → getS p now = some r
theorem Cpd.step {now : SMap Rcd} {vis : List Nat} {m : SMap Rcd} (h : Cpd now vis m) (ho : oneS' now) {j : Nat} {p : List UInt8 × Rcd} (hj : now[j]? = some (some p)) (hn : j ∉ vis) : Cpd now (vis ++ [j]) (setS p.1 p.2 m) := by
  obtain ⟨q, r⟩ := p
  have hg := get_at ho hj
  refine ⟨?_, fun x hx => ?_, one_set _ _ h.o, fun x p' r' hx hx2 => ?_, fun p' r' hp => ?_⟩
  · rw [List.nodup_append]
    refine ⟨h.nd, by simp, fun a ha b hb => ?_⟩
    simp at hb; subst hb
    exact fun e => hn (e ▸ ha)
  · rcases List.mem_append.1 hx with hx | hx
    · exact h.lt x hx
    · simp at hx; subst hx; exact (List.getElem?_eq_some_iff.1 hj).1
  · rw [get_set]
    have hg2 := get_at ho hx2
    by_cases e : q = p'
    · rw [if_pos e, ← hg2, ← e, hg]
    · rw [if_neg e]
      rcases List.mem_append.1 hx with hx | hx
      · exact h.onto x p' r' hx hx2
      · simp at hx; subst hx; rw [hj] at hx2; cases hx2; exact (e rfl).elim
  · rw [get_set] at hp
    split at hp
    · rename_i e; cases hp; rw [← e]; exact hg
    · exact h.fr p' r' hp
theorem Cpd.all {now : SMap Rcd} {vis : List Nat} {m : SMap Rcd} (h : Cpd now vis m) (hA : ∀ (j : Nat) (p : List UInt8 × Rcd), now[j]? = some (some p) → j ∈ vis) (p : List UInt8) : getS p m = getS p now := by
  cases h1 : getS p now with
  | some r =>
    obtain ⟨j, hj⟩ := at_get h1
    exact h.onto j p r (hA j _ hj) hj
  | none =>
    cases h2 : getS p m with
    | none => rfl
    | some r => have := h.fr p r h2; rw [h1] at this; cases this
theorem vis_lt {n : Nat} {vis : List Nat} {j : Nat} (h1 : vis.Nodup) (h2 : ∀ x ∈ vis, x < n) (hj : j < n) (hn : j ∉ vis) : (vis ++ [j]).length ≤ n := by
  refine nodup_le n _ ?_ fun x hx => ?_
  · rw [List.nodup_append]
    refine ⟨h1, by simp, fun a ha b hb => ?_⟩
    simp at hb; subst hb
    exact fun e => hn (e ▸ ha)
  · rcases List.mem_append.1 hx with hx | hx
    · exact h2 x hx
    · simp at hx; omega
end Go.Ab
namespace Go.Ab
open Go Go.Proofs
set_option maxRecDepth 20000 in
set_option maxHeartbeats 8000000 in
theorem DatabaseKeeps_c (l : List Int) (keep : Int) : ACalls Tryz.prog 3 [tapeVs l, .int .i64 keep] [] (.bool true) [] := by
  have b0 := fold_bd (tapeV l 0) 14 (by omega)
  obtain ⟨n, hn⟩ : ∃ n : Nat, fold (tapeV l 0) 14 = n := ⟨_, (Int.toNat_of_nonneg b0.1).symm⟩
  have c0 := Next_c l 0 14 (by omega) (by omega)
  rw [hn] at b0 c0
  have hcl := wRows_cl
  have hwr := wRows_ren
  have hsr := smK_renS
  have hsrR : ∀ (is : List Nat) (m : SMap Rcd), renKv is (smK rV m) = smK rV m := fun is m => smK_ren is rV (rV_ren is) m
  have hsrB : ∀ (is : List Nat) (m : SMap Bool), renKv is (smK .bool m) = smK .bool m := fun is m => smK_ren is .bool (fun _ => rfl) m
  have hsc : ∀ (m : TMap) (k : Nat) (a b : AV), (a, b) ∈ smK .str m → closed k a = true ∧ closed k b = true := fun m k => smK_clm (k := k) fun _ => rfl
  have hscR : ∀ (m : SMap Rcd) (k : Nat) (a b : AV), (a, b) ∈ smK rV m → closed k a = true ∧ closed k b = true := fun m k => smK_clm (k := k) (rV_cl k)
  have hscB : ∀ (m : SMap Bool) (k : Nat) (a b : AV), (a, b) ∈ smK .bool m → closed k a = true ∧ closed k b = true := fun m k => smK_clm (k := k) fun _ => rfl
  have hwc : ∀ (w : Wr) (r : List (List AV)) (is : List Nat), renLL is (wRow w :: r) = wRow w :: renLL is r := fun w r is => by rw [renLL]; simp [wRow, renL, wAV_ren]
  have hw2 : ∀ (k : Nat) (w : Wr), closedL k (wRow w) = true := wRow_cl
  have hn0 : ∀ (is : List Nat), renLL is [] = [] := fun _ => rfl
  refine acalls_F c3_ok rfl ?_
  unfold c3 tapeVs
  simp +decide -dsimp -implicitDefEqProofs [go_sem]
  rw [tape0]
  refine callE_grow [] 4 new_c rfl (fun v G h => by rw [h.2]; rfl) (by simp +decide) rfl (by simp) ?_
  rintro _ _ ⟨rfl, rfl⟩
  simp +decide -dsimp -implicitDefEqProofs [go_sem, dbO, dbB, mO, hsr, hn0]
  refine callE_frame [0] c0 rfl rfl (by simp) (by simp +decide -dsimp -implicitDefEqProofs [go_sem]) (by simp +decide -dsimp -implicitDefEqProofs [go_sem, tapeO_ren]) ?_
  simp +decide -dsimp -implicitDefEqProofs [go_sem, tapeO_ren]
  refine loop_of (S := KS) (fun s => ⟨s.T keep n, s.H l⟩) (fun s => n - s.i) (KS.ok n) ⟨0, 1, [], [], [], [], [], []⟩ ⟨by simp, inv_new, by simp, by simp, by simp [cntS]⟩ (cut_of (by simp [KS.H]) ?_) ?_
  · simp +decide -dsimp -implicitDefEqProofs [go_sem, KS.T, KS.H, dbB, mO, tapeO, smK_nil]
  rintro ⟨i, k, dur, seen, pend, syn, tch, now⟩ ⟨hi, inv, hk, hp, hc⟩
  simp only at hi inv hk hp hc
  simp only [KS.T, KS.H, dbB, mO]
  by_cases h : i < n
  rotate_left
  · have e : i = n := by omega
    subst e
    have hcr := crash_c dur seen pend keep (by omega)
    have hkp := inv.keep
    have htk := inv.txk (keepN keep pend.length)
    have hkk : ∀ p r, getS p syn = some r → getS p tch ≠ some true → getS (entL p) (foldW dur (pend.take (keepN keep pend.length))) = some (encT r) := fun p r h1 h2 => hkp p r h1 h2 _
    generalize foldW dur (pend.take (keepN keep pend.length)) = dF at hcr htk hkk
    simp +decide -dsimp -implicitDefEqProofs [go_sem]
    refine callE_grow [1, 2, 3, 4] 2 hcr rfl (fun v G h => by rw [h.2]; rfl) (by simp +decide) (by simp +decide -dsimp -implicitDefEqProofs [go_sem]) (by simp +decide -dsimp -implicitDefEqProofs [go_sem, dbO, dbB, mO, hsr, hwr]) ?_
    rintro _ _ ⟨rfl, rfl⟩
    simp +decide -dsimp -implicitDefEqProofs [go_sem, dbB, mO, hsr, hwr, hn0]
    refine loop_of (S := List Nat) (fun vis => ⟨tmps 123 [(6, .ptr 1 0), (8, .map 6), (96, .it 10)], [tapeO l k, .box 83 [.map 2, .map 8, .own 9 0], .map (smK .str dF), .map (smK .str seen), .reg 88 1 (pend.map wRow), .map (smK rV syn), .map (smK .bool tch), .map (smK rV now), .map (smK .str dF), .reg 88 1 [], .iter 5 syn.length vis]⟩) (fun vis => syn.length - vis.length) (fun vis => vis.Nodup ∧ ∀ x ∈ vis, x < syn.length) [] (by simp) (cut_of (by simp) ?_) ?_
    · simp +decide -dsimp -implicitDefEqProofs [go_sem, tapeO, hcl]
      exact ⟨hsc _ _, hsc _ _, hscR _ _, hscB _ _, hscR _ _, hsc _ _⟩
    rintro vis ⟨hnd, hlt⟩
    simp +decide -dsimp -implicitDefEqProofs [go_sem]
    refine mnext_of (i := 10) (m := 5) (kvs := smK rV syn) rfl rfl (length_smK rV syn).symm (fun hA => ?_) (fun j kk x hj hg hnj => ?_)
    · simp +decide -dsimp -implicitDefEqProofs [go_sem]
      refine callE_pure known_c rfl rfl ?_
      simp +decide -dsimp -implicitDefEqProofs [go_sem]
    · obtain ⟨⟨p, r⟩, hjp, rfl, rfl⟩ := smK_at hj hg
      have hj' : (smK rV syn)[j]? = some (AV.str p, AV.agg (rRow r)) := hj
      have hjl := (List.getElem?_eq_some_iff.1 hjp).1
      have hvl := vis_lt hnd hlt hjl hnj
      have hvn : (vis ++ [j]).Nodup ∧ ∀ x ∈ vis ++ [j], x < syn.length := by
        refine ⟨?_, fun x hx => ?_⟩
        · rw [List.nodup_append]
          refine ⟨hnd, by simp, fun a ha b hb => ?_⟩
          simp at hb; subst hb
          exact fun e => hnj (e ▸ ha)
        · rcases List.mem_append.1 hx with hx | hx
          · exact hlt x hx
          · simp at hx; omega
      rw [List.length_append] at hvl
      simp only [List.length_cons, List.length_nil] at hvl
      have hgs := get_at inv.os hjp
      obtain ⟨hpl, hS, hrp⟩ := inv.syp p r hgs
      have hpn := path_small hpl
      obtain ⟨xr, xb, hx, hG⟩ := Get_c dF dF [] p hpl (by omega) (by
        cases ht : getS (entL p) dF with
        | none => simp
        | some t => have := htk _ _ ht; simp only [Option.getD_some]; omega)
      have hkB := keys_smK .bool p tch
      have hfB : ((findKv (.str p) (smK .bool tch)).getD (.bool false)) = .bool ((getS p tch).getD false) := by
        rw [find_smK]; cases getS p tch <;> rfl
      simp only [dbO, dbB, mO, recV, List.map_nil, List.length_nil] at hG
      simp +decide -dsimp -implicitDefEqProofs [go_sem, hj', isGap, rRow_len]
      refine callE_frame [1, 2, 8, 9] hG rfl rfl (by simp) (by simp +decide -dsimp -implicitDefEqProofs [go_sem]) (by simp +decide -dsimp -implicitDefEqProofs [go_sem, hsr, hn0]) ?_
      cases htb : (getS p tch).getD false with
      | true =>
        rw [htb] at hfB
        simp +decide -dsimp -implicitDefEqProofs [go_sem, rRow_len, rRow_ren, hsr, hn0, hkB, hfB]
        refine next_of (vis ++ [j]) hvn (by show syn.length - (vis ++ [j]).length < syn.length - vis.length; simp; omega) (cut_of (by simp) ?_)
        simp +decide -dsimp -implicitDefEqProofs [go_sem, tapeO, hcl]
        exact ⟨hsc _ _, hsc _ _, hscR _ _, hscB _ _, hscR _ _, hsc _ _⟩
      | false =>
        rw [htb] at hfB
        have hne : getS p tch ≠ some true := fun e => by rw [e] at htb; cases htb
        have hgd := hkk p r hgs hne
        have hxx : xr = r ∧ xb = true := by
          rcases hx with ⟨y, hy, hye, _, rfl, rfl⟩ | ⟨hno, _⟩
          · rw [hgd] at hye
            exact ⟨enc_inj hy hS hye, rfl⟩
          · exact (hno r hS (by rw [hgd]; rfl) (by rw [hrp])).elim
        obtain ⟨rfl, rfl⟩ := hxx
        have cs := rSame_c xr xr (small_of hS).few.fit (small_of hS).few.fit
        rw [decide_eq_true rfl] at cs
        simp +decide -dsimp -implicitDefEqProofs [go_sem, rRow_len, rRow_take, rRow_ren, hsr, hn0, hkB, hfB]
        refine callE_pure cs (by simp +decide -dsimp -implicitDefEqProofs [go_sem, rRow_cl]) rfl ?_
        simp +decide -dsimp -implicitDefEqProofs [go_sem]
        refine next_of (vis ++ [j]) hvn (by show syn.length - (vis ++ [j]).length < syn.length - vis.length; simp; omega) (cut_of (by simp) ?_)
        simp +decide -dsimp -implicitDefEqProofs [go_sem, tapeO, hcl]
        exact ⟨hsc _ _, hsc _ _, hscR _ _, hscB _ _, hscR _ _, hsc _ _⟩
  have h' : 0 < n - i := by omega
  have w : IntKind.i64.wrap (((n - i : Nat) : Int) - 1) = ((n - (i + 1) : Nat) : Int) := by rw [w64 (by omega) (by omega)]; omega
  have c1 := Next_c l k 5 (by omega) (by omega)
  have b1 := fold_bd (tapeV l k) 5 (by omega)
  generalize fold (tapeV l k) 5 = g at c1 b1
  by_cases g0 : g = 0
  · subst g0
    simp +decide -dsimp -implicitDefEqProofs [go_sem, h']
    refine callE_frame [0] c1 rfl rfl (by simp) (by simp +decide -dsimp -implicitDefEqProofs [go_sem]) (by simp +decide -dsimp -implicitDefEqProofs [go_sem, tapeO_ren]) ?_
    simp +decide -dsimp -implicitDefEqProofs [go_sem, tapeO_ren]
    refine callE_grow [1, 2, 3, 4] 2 (sync_c dur seen pend) rfl (fun v G h => by rw [h.2]; rfl) (by simp +decide) (by simp +decide -dsimp -implicitDefEqProofs [go_sem]) (by simp +decide -dsimp -implicitDefEqProofs [go_sem, dbO, dbB, mO, hsr, hwr]) ?_
    rintro _ _ ⟨rfl, rfl⟩
    simp +decide -dsimp -implicitDefEqProofs [go_sem, dbB, mO, hsr, hwr, hn0]
    refine loop_of (S := List Nat × SMap Rcd) (fun s => ⟨tmps 123 [(1, .int .i64 keep), (5, .ptr 0 0), (6, .ptr 1 0), (7, .map 10), (8, .map 11), (9, .map 7), (10, .int .i64 ((n - i : Nat) : Int)), (63, .it 12)], [tapeO l (k + 1), .box 83 [.map 8, .map 3, .own 9 0], .map (smK .str dur), .map (smK .str seen), .reg 88 1 (pend.map wRow), .map (smK rV syn), .map (smK .bool tch), .map (smK rV now), .map (smK .str seen), .reg 88 1 [], .map (smK rV s.2), .map (smK .bool ([] : SMap Bool)), .iter 7 now.length s.1]⟩) (fun s => now.length - s.1.length) (fun s => Cpd now s.1 s.2) ([], []) ⟨by simp, by simp, trivial, by simp, by simp [getS]⟩ (cut_of (by simp) ?_) ?_
    · simp +decide -dsimp -implicitDefEqProofs [go_sem, tapeO, hcl, smK_nil]
      exact ⟨hsc _ _, hsc _ _, hscR _ _, hscB _ _, hscR _ _, hsc _ _⟩
    rintro ⟨vis, m⟩ hcp
    simp only at hcp
    simp +decide -dsimp -implicitDefEqProofs [go_sem]
    refine mnext_of (i := 12) (m := 7) (kvs := smK rV now) rfl rfl (length_smK rV now).symm (fun hA => ?_) (fun j kk x hj hg hnj => ?_)
    · simp +decide -dsimp -implicitDefEqProofs [go_sem, w]
      have hall := hcp.all fun j p hj => hA j _ (smK_put hj).1 rfl
      refine next_of ⟨i + 1, k + 1, seen, seen, [], m, [], now⟩ ⟨by show i + 1 ≤ n; omega, inv.sync hall hcp.o, by show k + 1 ≤ 1 + 200 * (i + 1); omega, by simp, by show cntS seen ≤ i + 1; omega⟩ (by show n - (i + 1) < n - i; omega) (Wk.trans (b := ⟨tmps 123 [(1, .int .i64 keep), (5, .ptr 0 0), (6, .ptr 1 0), (7, .map 10), (8, .map 11), (9, .map 7), (10, .int .i64 ((n - (i + 1) : Nat) : Int))], [tapeO l (k + 1), .box 83 [.map 8, .map 3, .own 9 0], .map (smK .str dur), .map (smK .str seen), .reg 88 1 (pend.map wRow), .map (smK rV syn), .map (smK .bool tch), .map (smK rV now), .map (smK .str seen), .reg 88 1 [], .map (smK rV m), .map (smK .bool ([] : SMap Bool))]⟩) (cut_of (by simp) ?_) (Wk.ren [0, 1, 8, 3, 9, 10, 11, 7] (by decide) rfl (by simp) (fun j hj => absurd hj (by simp)) (fun j m s l hj => absurd hj (by simp)) ?_ ?_))
      · simp +decide -dsimp -implicitDefEqProofs [go_sem, tapeO, hcl]
        exact ⟨hsc _ _, hsc _ _, hscR _ _, hscB _ _, hscR _ _, hsc _ _, hscR _ _⟩
      · simp +decide -dsimp -implicitDefEqProofs [go_sem, hsr, hsrR, hsrB, tapeO_ren, hn0]
      · simp +decide -dsimp -implicitDefEqProofs [go_sem, rnT]
    · obtain ⟨p, hjp, rfl, rfl⟩ := smK_at hj hg
      have hkk := keys_smK rV p.1 m
      have hset : setKv (.str p.1) (.agg (rRow p.2)) (smK rV m) = smK rV (setS p.1 p.2 m) := set_smK rV p.1 p.2 m
      have hjl := (List.getElem?_eq_some_iff.1 hjp).1
      have hvl := vis_lt hcp.nd hcp.lt hjl hnj
      rw [List.length_append] at hvl
      simp only [List.length_cons, List.length_nil] at hvl
      have hj' : (smK rV now)[j]? = some (AV.str p.1, AV.agg (rRow p.2)) := hj
      simp +decide -dsimp -implicitDefEqProofs [go_sem, hj', isGap, rRow_len, rRow_take, hkk, hset]
      refine next_of (vis ++ [j], setS p.1 p.2 m) (hcp.step inv.on hjp hnj) (by show now.length - (vis ++ [j]).length < now.length - vis.length; simp; omega) (cut_of (by simp) ?_)
      simp +decide -dsimp -implicitDefEqProofs [go_sem, tapeO, hcl]
      exact ⟨hsc _ _, hsc _ _, hscR _ _, hscB _ _, hscR _ _, hsc _ _, hscR _ _⟩
  by_cases g1 : g = 1
  · subst g1
    have hmp := mPath_c l (k + 1) (by omega)
    simp +decide -dsimp -implicitDefEqProofs [go_sem, h']
    refine callE_frame [0] c1 rfl rfl (by simp) (by simp +decide -dsimp -implicitDefEqProofs [go_sem]) (by simp +decide -dsimp -implicitDefEqProofs [go_sem, tapeO_ren]) ?_
    simp +decide -dsimp -implicitDefEqProofs [go_sem, tapeO_ren]
    refine callE_frameR [0] hmp rfl (fun v G ⟨_, _, _, hG, _⟩ => by rw [hG]; rfl) (by simp) (by simp +decide -dsimp -implicitDefEqProofs [go_sem]) (by simp +decide -dsimp -implicitDefEqProofs [go_sem, tapeO_ren]) ?_
    rintro _ _ ⟨p, k2, rfl, rfl, hpl, hk2⟩
    have hpn := path_small hpl
    have hf := find_smK rV p now
    have hkR := keys_smK rV p now
    have hkB := keys_smK .bool p tch
    have hdl := del_smK rV p now
    have hst := set_smK .bool p true tch
    have hD := Delete_c dur seen pend p hpl (by omega) (by omega)
    have hcd := cnt_del (entL p) seen
    cases hg : getS p now with
    | some r =>
      rw [hg] at hf
      have hf' : findKv (.str p) (smK rV now) = some (.agg (rRow r)) := hf
      have d := hD.1 (fun e => by rw [(inv.iff p).1 e] at hg; cases hg)
      simp only [dbO, dbB, mO] at d
      simp +decide -dsimp -implicitDefEqProofs [go_sem, tapeO_ren, hkR, hf', rRow_len]
      refine callE_frame [1, 2, 3, 4] d rfl rfl (by simp) (by simp +decide -dsimp -implicitDefEqProofs [go_sem]) (by simp +decide -dsimp -implicitDefEqProofs [go_sem, hsr, hwr]) ?_
      simp +decide -dsimp -implicitDefEqProofs [go_sem, hsr, hwr, hn0, hwc, hkR, hkB, hdl, hst, w]
      refine next_of ⟨i + 1, k2, dur, delS (entL p) seen, pend ++ [(entL p, none)], syn, setS p true tch, delS p now⟩ ⟨by show i + 1 ≤ n; omega, inv.del p, by show k2 ≤ 1 + 200 * (i + 1); omega, by show (pend ++ [(entL p, none)]).length ≤ i + 1; simp; omega, by show cntS (delS (entL p) seen) ≤ i + 1; omega⟩ (by show n - (i + 1) < n - i; omega) (cut_of (by simp) ?_)
      simp +decide -dsimp -implicitDefEqProofs [go_sem, tapeO, hcl, hw2]
      exact ⟨hsc _ _, hsc _ _, hscR _ _, hscB _ _, hscR _ _⟩
    | none =>
      rw [hg] at hf
      have hf' : findKv (.str p) (smK rV now) = none := hf
      have d := hD.2 ((inv.iff p).2 hg)
      simp only [dbO, dbB, mO] at d
      simp +decide -dsimp -implicitDefEqProofs [go_sem, tapeO_ren, hkR, hf']
      refine callE_frame [1, 2, 3, 4] d rfl rfl (by simp) (by simp +decide -dsimp -implicitDefEqProofs [go_sem]) (by simp +decide -dsimp -implicitDefEqProofs [go_sem, hsr, hwr]) ?_
      simp +decide -dsimp -implicitDefEqProofs [go_sem, hsr, hwr, hkR, hkB, hdl, hst, w]
      refine next_of ⟨i + 1, k2, dur, seen, pend, syn, setS p true tch, delS p now⟩ ⟨by show i + 1 ≤ n; omega, inv.del0 hg, by show k2 ≤ 1 + 200 * (i + 1); omega, by show pend.length ≤ i + 1; omega, by show cntS seen ≤ i + 1; omega⟩ (by show n - (i + 1) < n - i; omega) (cut_of (by simp) ?_)
      simp +decide -dsimp -implicitDefEqProofs [go_sem, tapeO, hcl]
      exact ⟨hsc _ _, hsc _ _, hscR _ _, hscB _ _, hscR _ _⟩
  have hmp := mPath_c l (k + 1) (by omega)
  simp +decide -dsimp -implicitDefEqProofs [go_sem, h']
  refine callE_frame [0] c1 rfl rfl (by simp) (by simp +decide -dsimp -implicitDefEqProofs [go_sem]) (by simp +decide -dsimp -implicitDefEqProofs [go_sem, tapeO_ren]) ?_
  simp +decide -dsimp -implicitDefEqProofs [go_sem, tapeO_ren, g0, g1]
  refine callE_frameR [0] hmp rfl (fun v G ⟨_, _, _, hG, _⟩ => by rw [hG]; rfl) (by simp) (by simp +decide -dsimp -implicitDefEqProofs [go_sem]) (by simp +decide -dsimp -implicitDefEqProofs [go_sem, tapeO_ren]) ?_
  rintro _ _ ⟨p, k2, rfl, rfl, hpl, hk2⟩
  have c2 := Next_c l k2 9 (by omega) (by omega)
  have b2 := fold_bd (tapeV l k2) 9 (by omega)
  generalize fold (tapeV l k2) 9 = f at c2 b2
  have w1 : IntKind.i64.wrap (1 + f) = 1 + f := w64 (by omega) (by omega)
  have hmr := mRecord_c l (k2 + 1) p (1 + f) (by omega) hpl (by omega)
  simp +decide -dsimp -implicitDefEqProofs [go_sem, tapeO_ren]
  refine callE_frame [0] c2 rfl rfl (by simp) (by simp +decide -dsimp -implicitDefEqProofs [go_sem]) (by simp +decide -dsimp -implicitDefEqProofs [go_sem, tapeO_ren]) ?_
  simp +decide -dsimp -implicitDefEqProofs [go_sem, tapeO_ren, w1]
  refine callE_frameR [0] hmr rfl (fun v G ⟨_, _, _, hG, _⟩ => by rw [hG]; rfl) (by simp) (by simp +decide -dsimp -implicitDefEqProofs [go_sem]) (by simp +decide -dsimp -implicitDefEqProofs [go_sem, tapeO_ren]) ?_
  rintro _ _ ⟨r, k3, rfl, rfl, hS, hrp, _, hk3⟩
  have d := Put_c dur seen pend r hS (by omega) (by omega)
  have hcs := cnt_set (entL r.path) (encT r) seen
  have hkR := keys_smK rV r.path now
  have hkB := keys_smK .bool r.path tch
  have hst := set_smK .bool r.path true tch
  have hsn : setKv (.str r.path) (.agg [.str r.path, .int .i64 r.index, .imm (r.props.map aRow), .imm (r.tags.map sRow), .imm (r.links.map sRow), .imm (r.run.map sRow), .imm (r.load.map sRow), .str r.name, .int .i64 r.prio, .str r.owner, .str r.group, .int .i64 r.mode]) (smK rV now) = smK rV (setS r.path r now) := set_smK rV r.path r now
  have hrr : rRow r = [.str r.path, .int .i64 r.index, .imm (r.props.map aRow), .imm (r.tags.map sRow), .imm (r.links.map sRow), .imm (r.run.map sRow), .imm (r.load.map sRow), .str r.name, .int .i64 r.prio, .str r.owner, .str r.group, .int .i64 r.mode] := rfl
  rw [hrr] at d ⊢
  simp only [dbO, dbB, mO] at d
  simp +decide -dsimp -implicitDefEqProofs [go_sem, tapeO_ren, renLL_sRows, renLL_aRows]
  refine callE_frame [1, 2, 3, 4] d rfl rfl (by simp) (by simp +decide -dsimp -implicitDefEqProofs [go_sem, renLL_sRows, renLL_aRows]) (by simp +decide -dsimp -implicitDefEqProofs [go_sem, hsr, hwr]) ?_
  simp +decide -dsimp -implicitDefEqProofs [go_sem, hsr, hwr, hn0, hwc, hkR, hkB, hst, hsn, w]
  refine next_of ⟨i + 1, k3, dur, setS (entL r.path) (encT r) seen, pend ++ [(entL r.path, some (encT r))], syn, setS r.path true tch, setS r.path r now⟩ ⟨by show i + 1 ≤ n; omega, inv.put hS (hrp ▸ hpl), by show k3 ≤ 1 + 200 * (i + 1); omega, by show (pend ++ [(entL r.path, some (encT r))]).length ≤ i + 1; simp; omega, by show cntS (setS (entL r.path) (encT r) seen) ≤ i + 1; omega⟩ (by show n - (i + 1) < n - i; omega) (cut_of (by simp) ?_)
  simp +decide -dsimp -implicitDefEqProofs [go_sem, tapeO, hcl, hw2]
  exact ⟨hsc _ _, hsc _ _, hscR _ _, hscB _ _, hscR _ _⟩
end Go.Ab
