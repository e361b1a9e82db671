/- Rows of an owned slice may be forgotten; what DatabaseCrashes asks. -/
import Derived.Test.YtpknaffdaemlbaaGreatDoorRB
import Derived.Test.YtpknaffdaemlbaaGreatDoorAA
import Derived.Test.YtpknaffdaemlbaaGreatDoorRA
namespace Go.Ab
open Go Go.Proofs Go.Sort
def jkL : List AV → List AV → Prop
  | [], [] => True
  | x :: xs, y :: ys => (y = .junk ∨ y = x) ∧ jkL xs ys
  | _, _ => False
def jkLL : List (List AV) → List (List AV) → Prop
  | [], [] => True
  | x :: xs, y :: ys => jkL x y ∧ jkLL xs ys
  | _, _ => False
theorem jkL_len : ∀ {l l' : List AV}, jkL l l' → l'.length = l.length
  | [], [], _ => rfl
  | _ :: _, _ :: _, h => by simp [jkL_len h.2]
  | [], _ :: _, h => h.elim
  | _ :: _, [], h => h.elim
theorem jkLL_len : ∀ {l l' : List (List AV)}, jkLL l l' → l'.length = l.length
  | [], [], _ => rfl
  | _ :: _, _ :: _, h => by simp [jkLL_len h.2]
  | [], _ :: _, h => h.elim
  | _ :: _, [], h => h.elim
theorem Cells_jk {c : Cx} : ∀ {l l' : List AV} {b off : Nat}, jkL l l' → Cells c l b off → Cells c l' b off
  | [], [], _, _, _, _ => by simp only [Cells]
  | x :: xs, y :: ys, b, off, h, hc => by
    simp only [Cells] at hc ⊢
    obtain ⟨⟨v, h1, h2, h3⟩, h4⟩ := hc
    refine ⟨⟨v, h1, h2, ?_⟩, Cells_jk h.2 h4⟩
    rcases h.1 with rfl | rfl
    · exact Val_junk _ _
    · exact h3
  | [], _ :: _, _, _, h, _ => h.elim
  | _ :: _, [], _, _, h, _ => h.elim
theorem RowsAt_jk {c : Cx} : ∀ {l l' : List (List AV)} {b off sz : Nat}, jkLL l l' → RowsAt c l b off sz → RowsAt c l' b off sz
  | [], [], _, _, _, _, _ => by simp only [RowsAt]
  | x :: xs, y :: ys, b, off, sz, h, hc => by
    simp only [RowsAt] at hc ⊢
    exact ⟨(jkL_len h.1).trans hc.1, Cells_jk h.1 hc.2.1, RowsAt_jk h.2 hc.2.2⟩
  | [], _ :: _, _, _, _, h, _ => h.elim
  | _ :: _, [], _, _, _, h, _ => h.elim
theorem Wk.junkReg {k : Nat} {T : List AV} {H : List AObj} {e sz : Nat} {l : List (List AV)} (o : Nat) (l' : List (List AV)) (ho : H[o]? = some (.reg e sz l)) (hl : jkLL l l') : Wk k ⟨T, H⟩ ⟨T, H.set o (.reg e sz l')⟩ := fun c a hr hHc hF => by
  have hH' : c.H = H := hHc
  subst hH'
  have hol : o < c.H.length := (List.getElem?_eq_some_iff.1 ho).1
  have hlen := jkLL_len hl
  have hself : (c.H.set o (.reg e sz l'))[o]? = some (.reg e sz l') := List.getElem?_set_self hol
  have hoth : ∀ {p : Nat}, p ≠ o → (c.H.set o (.reg e sz l'))[p]? = c.H[p]? := fun {p} hp => List.getElem?_set_ne (Ne.symm hp)
  have hv : ∀ (p : Nat) (x : AObj), c.H[p]? = some x → ∃ y : AObj, (c.H.set o (.reg e sz l'))[p]? = some y ∧ OStep x y c.μ[p]? c.μ[p]? := fun p x hx => by
    by_cases hp : p = o
    · subst hp
      rw [ho] at hx; cases hx
      exact ⟨_, hself, by show e = e ∧ sz = sz ∧ l.length ≤ l'.length ∧ (l'.length = l.length → c.μ[p]? = c.μ[p]?); exact ⟨rfl, rfl, by omega, fun _ => rfl⟩⟩
    · exact ⟨x, by rw [hoth hp]; exact hx, OStep.refl _ _⟩
  have hV : VExt c ⟨c.F, c.μ, c.H.set o (.reg e sz l'), c.w⟩ := ⟨fun _ h => h, fun _ _ => rfl, fun p x _ hx => hv p x hx⟩
  have hown : ∀ {p b : Nat}, Owner ⟨c.F, c.μ, c.H.set o (.reg e sz l'), c.w⟩ p b → Owner c p b := fun {p b} ⟨x, v, h1, h2, h3, h4⟩ => by
    have h1' : (c.H.set o (.reg e sz l'))[p]? = some x := h1
    by_cases hp : p = o
    · subst hp
      exact ⟨_, v, ho, rfl, h3, h4⟩
    · rw [hoth hp] at h1'
      exact ⟨x, v, h1', h2, h3, h4⟩
  refine ⟨⟨c.F, c.μ, c.H.set o (.reg e sz l'), c.w⟩, rfl, ⟨?_, fun p x hx => ?_, fun p q b h1 h2 => hr.inj p q b (hown h1) (hown h2), fun p b h => hr.free p b (hown h), hr.lt, hr.gl, hr.gb, fun p b h => hr.go p b (hown h)⟩,
    ⟨fun _ h => h, fun _ h => .inl h, fun _ _ _ => rfl, Nat.le_refl _, rfl, rfl, rfl, fun p b h => .inr ⟨p, hown h⟩, fun p x _ hx => hv p x hx⟩, rfl, hF.1, hF.2.1, fun n => Val_ext hV _ _ (hF.2.2 n)⟩
  · show c.μ.length = (c.H.set o _).length
    rw [List.length_set]; exact hr.len
  · have hx' : (c.H.set o (.reg e sz l'))[p]? = some x := hx
    by_cases hp : p = o
    · subst hp
      rw [hself] at hx'; cases hx'
      obtain ⟨v, h1, h2⟩ := hr.obj _ _ ho
      refine ⟨v, h1, ?_⟩
      rcases h2 with ⟨h2, rfl⟩ | ⟨g, cap, cur, h2, h3, h4, h5, h6, h7⟩
      · refine .inl ⟨h2, ?_⟩
        cases l' with
        | nil => rfl
        | cons _ _ => simp at hlen
      · exact .inr ⟨g, cap, cur, by rw [hlen]; exact h2, h3, by omega, h5, h6, RowsAt_jk hl (RowsAt_ext hV _ _ _ _ rfl h7)⟩
    · rw [hoth hp] at hx'
      exact ObjOk_ext hV (hr.obj p x hx') hx' rfl fun _ _ => rfl
def rowsC (c j q : Nat) : List (List AV) := (List.range c).map fun i => [if i = j then .ptr q 0 else .junk]
theorem rowsC_len (c j q : Nat) : (rowsC c j q).length = c := by simp [rowsC]
theorem rowsC_at {c j q : Nat} (h : j < c) : (rowsC c j q)[j]? = some [.ptr q 0] := by simp [rowsC, h]
theorem jk_map {f g : Nat → AV} : ∀ (l : List Nat), (∀ i ∈ l, g i = .junk ∨ g i = f i) → jkLL (l.map fun i => [f i]) (l.map fun i => [g i])
  | [], _ => trivial
  | x :: r, h => ⟨⟨h x (by simp), trivial⟩, jk_map r fun i hi => h i (by simp [hi])⟩
theorem rowsC_snoc (c j q r : Nat) (hj : j < c) : rowsC c j q ++ [[.ptr r 0]] = (List.range (c + 1)).map fun i => [if i = j then .ptr q 0 else if i = c then .ptr r 0 else .junk] := by
  unfold rowsC
  rw [List.range_succ, List.map_append]
  congr 1
  · refine List.map_congr_left fun i hi => ?_
    have := List.mem_range.1 hi
    rw [if_neg (show ¬ i = c by omega)]
  · have : ¬ c = j := by omega
    simp [this]
theorem rowsC_old (c j q r : Nat) (hj : j < c) : jkLL (rowsC c j q ++ [[.ptr r 0]]) (rowsC (c + 1) j q) := by
  rw [rowsC_snoc c j q r hj]
  refine jk_map _ fun i _ => ?_
  by_cases h : i = j
  · exact .inr (by rw [if_pos h, if_pos h])
  · exact .inl (by rw [if_neg h])
theorem rowsC_new (c j q r : Nat) (hj : j < c) : jkLL (rowsC c j q ++ [[.ptr r 0]]) (rowsC (c + 1) c r) := by
  rw [rowsC_snoc c j q r hj]
  refine jk_map _ fun i _ => ?_
  by_cases h : i = c
  · subst h
    have : ¬ i = j := by omega
    exact .inr (by simp [this])
  · exact .inl (by rw [if_neg h])
theorem rowsC_ren (is : List Nat) (c j q q' : Nat) (h : is[q]? = some q') : renLL is (rowsC c j q) = rowsC c j q' := by
  unfold rowsC
  induction List.range c with
  | nil => rfl
  | cons x r ih =>
    simp only [List.map_cons, renLL, ih]
    congr 1
    by_cases hx : x = j <;> simp [hx, renL, ren, h]
theorem rowsC_cl (c j q m : Nat) (h : q < m) : closedLL m (rowsC c j q) = true := by
  refine closedLL_map fun i _ => ?_
  by_cases hx : i = j <;> simp [hx, closedL, closed, h]
end Go.Ab
namespace Go.Ab
open Go Go.Proofs Go.Sort
def tkW (l : List Wr) (j : Nat) : List Wr := l.take j
def appW (l : List Wr) : Option Wr → List Wr
  | none => l
  | some w => l ++ [w]
structure okX (k1 j : Nat) (m0 : TMap) (pd : List Wr) (s : Nat × Option Wr) : Prop where
  hk : s.1 ≤ k1 + 200
  hF : ∀ w, s.2 = some w → Fine (foldW m0 (pd ++ [w])) (3 + j + 1)
structure HS where
  i : Nat
  k : Nat
  seen : TMap
  pend : List Wr
structure HS.ok (n : Nat) (s : HS) : Prop where
  hi : s.i ≤ n
  hF : Fine s.seen s.i
  hk : s.k ≤ 1 + 200 * s.i
  hp : s.pend.length ≤ s.i
structure HT.ok (m k0 : Nat) (m0 : TMap) (s : Nat × Nat × List Wr) : Prop where
  hi : s.1 ≤ m
  hk : s.2.1 ≤ k0 + 200 * s.1
  hp : s.2.2.length ≤ s.1
  hF : ∀ j, Fine (foldW m0 (s.2.2.take j)) (3 + s.1)
set_option maxRecDepth 20000 in
set_option maxHeartbeats 16000000 in
theorem DatabaseCrashes_c (l : List Int) (keep : Int) : ACalls Tryz.prog 8 [tapeVs l, .int .i64 keep] [] (.bool true) [] := by
  have b0 := fold_bd (tapeV l 0) 4 (by omega)
  obtain ⟨n, hn⟩ : ∃ n : Nat, fold (tapeV l 0) 4 = n := ⟨_, (Int.toNat_of_nonneg b0.1).symm⟩
  have c0 := Next_c l 0 4 (by omega) (by omega)
  rw [hn] at b0 c0
  have hsr := smK_renS
  have hwr := wRows_ren
  have hcl := wRows_cl
  have hsc : ∀ (m : TMap) (k : Nat) (a b : AV), (a, b) ∈ smK .str m → closed k a = true ∧ closed k b = true := fun m k => smK_clm (k := k) fun _ => rfl
  have hgr : ∀ (is : List Nat) (l : List Wr), renO is (.reg 88 1 (l.map wRow)) = .reg 88 1 (l.map wRow) := fun is l => by simp only [renO, hwr]
  have hgr0 : ∀ (is : List Nat), renO is (.reg 88 1 []) = .reg 88 1 [] := fun _ => rfl
  refine acalls_F c8_ok rfl ?_
  unfold c8 tapeVs
  simp +decide -dsimp -implicitDefEqProofs [go_sem]
  rw [tape0]
  refine callE_grow [] 4 new_c rfl (fun v G h => by rw [h.2]; rfl) (by show (List.range' 1 4).Nodup; decide) rfl (by simp) ?_
  rintro _ _ ⟨rfl, rfl⟩
  simp +decide -dsimp -implicitDefEqProofs [go_sem, dbO, mO_ren, show ∀ n, renO [1, 2, 3, 4] (dbB 1 2 3 n) = dbB 2 3 4 n from fun _ => rfl]
  refine callE_frame [0] c0 rfl rfl (by simp) (by simp +decide -dsimp -implicitDefEqProofs [go_sem]) (by simp +decide -dsimp -implicitDefEqProofs [go_sem, tapeO_ren]) ?_
  simp +decide -dsimp -implicitDefEqProofs [go_sem, tapeO_ren]
  refine loop_of (S := HS) (fun s => ⟨tmps 109 [(1, .int .i64 keep), (5, .ptr 0 0), (6, .ptr 1 0), (7, .int .i64 ((n - s.i : Nat) : Int))], [tapeO l s.k, dbB 2 3 4 s.pend.length, mO [], mO s.seen, .reg 88 1 (s.pend.map wRow)]⟩) (fun s => n - s.i) (HS.ok n) ⟨0, 1, [], []⟩ ⟨by simp, .nil, by simp, by simp⟩ (cut_of (by simp) ?_) ?_
  · simp +decide -dsimp -implicitDefEqProofs [go_sem, tapeO, dbB, mO_def, smK_nil]
  rintro ⟨i, k, seen, pend⟩ ⟨hi, hF, hk, hp⟩
  simp only at hi hF hk hp
  by_cases h : i < n
  · have h' : 0 < n - i := by omega
    have w : IntKind.i64.wrap (((n - i : Nat) : Int) - 1) = ((n - (i + 1) : Nat) : Int) := by rw [w64 (by omega) (by omega)]; omega
    simp +decide -dsimp -implicitDefEqProofs [go_sem, h']
    refine callE_frameR [0] (mPath_c l k (by omega)) rfl (fun v G ⟨_, _, _, hG, _⟩ => by rw [hG]; rfl) (by simp) (by simp +decide -dsimp -implicitDefEqProofs [go_sem]) (by simp +decide -dsimp -implicitDefEqProofs [go_sem, tapeO_ren]) ?_
    rintro _ _ ⟨p, k2, rfl, rfl, hpl, hk2⟩
    have c1 := Next_c l k2 9 (by omega) (by omega)
    have b1 := fold_bd (tapeV l k2) 9 (by omega)
    generalize fold (tapeV l k2) 9 = gi at c1 b1
    have wg : IntKind.i64.wrap (1 + gi) = 1 + gi := w64 (by omega) (by omega)
    simp +decide -dsimp -implicitDefEqProofs [go_sem, tapeO_ren]
    refine callE_frame [0] c1 rfl rfl (by simp) (by simp +decide -dsimp -implicitDefEqProofs [go_sem]) (by simp +decide -dsimp -implicitDefEqProofs [go_sem, tapeO_ren]) ?_
    simp +decide -dsimp -implicitDefEqProofs [go_sem, tapeO_ren, wg]
    refine callE_frameR [0] (mRecord_c l (k2 + 1) p (1 + gi) (by omega) hpl (by omega)) rfl (fun v G ⟨_, _, _, hG, _⟩ => by rw [hG]; rfl) (by simp) (by simp +decide -dsimp -implicitDefEqProofs [go_sem]) (by simp +decide -dsimp -implicitDefEqProofs [go_sem, tapeO_ren]) ?_
    rintro _ _ ⟨r, k3, rfl, rfl, hS, hrp, _, hk3⟩
    have cP := Put_c [] seen pend r hS (by omega) (by have := cnt_le seen; have := hF.n; omega)
    have hF2 := hF.set (k := entL r.path) (v := encT r) (ent_small (sound_place hS)) (enc_small hS)
    generalize setS (entL r.path) (encT r) seen = s2 at cP hF2
    have hl2 : (pend ++ [(entL r.path, some (encT r))]).length = pend.length + 1 := by simp
    generalize pend ++ [(entL r.path, some (encT r))] = p2 at cP hl2
    unfold dbO at cP
    simp +decide -dsimp -implicitDefEqProofs [go_sem, tapeO_ren, rRow_ren]
    refine callE_frame [1, 2, 3, 4] cP rfl rfl (by simp) (by simp +decide -dsimp -implicitDefEqProofs [go_sem, rRow_ren]) (by simp +decide -dsimp -implicitDefEqProofs [go_sem, mO_ren, hgr, dbB]) ?_
    simp +decide -dsimp -implicitDefEqProofs [go_sem, mO_ren, hgr, show ∀ q, renO [1, 2, 3, 4] (dbB 1 2 3 q) = dbB 2 3 4 q from fun _ => rfl, w]
    refine next_of ⟨i + 1, k3, s2, p2⟩ ⟨by show i + 1 ≤ n; omega, hF2, by show k3 ≤ 1 + 200 * (i + 1); omega, by show p2.length ≤ i + 1; omega⟩ (by show n - (i + 1) < n - i; omega) (cut_of (by simp) ?_)
    simp +decide -dsimp -implicitDefEqProofs [go_sem, tapeO, dbB, mO_def, hcl]
    (repeat' apply And.intro) <;> first | exact hsc _ _ | exact hcl _ _ | omega | rfl
  have e : i = n := by omega
  subst e
  have cY := sync_c [] seen pend
  have cC := Copy_c seen seen [] (by simp)
  have b8 := fold_bd (tapeV l k) 8 (by omega)
  obtain ⟨m, hm⟩ : ∃ m : Nat, fold (tapeV l k) 8 = m := ⟨_, (Int.toNat_of_nonneg b8.1).symm⟩
  have c8 := Next_c l k 8 (by omega) (by omega)
  rw [hm] at b8 c8
  unfold dbO at cY cC
  simp only [List.cons_append, List.nil_append] at cC
  simp +decide -dsimp -implicitDefEqProofs [go_sem]
  refine callE_grow [1, 2, 3, 4] 2 cY rfl (fun v G h => by rw [h.2]; rfl) (by show ([1, 2, 3, 4] ++ List.range' 5 2).Nodup; decide) (by simp +decide -dsimp -implicitDefEqProofs [go_sem]) (by simp +decide -dsimp -implicitDefEqProofs [go_sem, mO_ren, hgr, dbB]) ?_
  rintro _ _ ⟨rfl, rfl⟩
  simp +decide -dsimp -implicitDefEqProofs [go_sem, mO_ren, hgr, hgr0, show renO [1, 2, 3, 4, 5, 6] (dbB 4 2 5 0) = dbB 5 3 6 0 from rfl]
  refine callE_grow [1, 5, 3, 6] 4 cC rfl (fun v G h => by rw [h.2]; rfl) (by show ([1, 5, 3, 6] ++ List.range' 7 4).Nodup; decide) (by simp +decide -dsimp -implicitDefEqProofs [go_sem]) (by simp +decide -dsimp -implicitDefEqProofs [go_sem, mO_ren, hgr0, dbB]) ?_
  rintro _ _ ⟨rfl, rfl⟩
  simp +decide -dsimp -implicitDefEqProofs [go_sem, mO_ren, hgr0, show renO [1, 5, 3, 6, 7, 8, 9, 10] (dbB 1 2 3 0) = dbB 5 3 6 0 from rfl, show renO [1, 5, 3, 6, 7, 8, 9, 10] (dbB 5 6 7 0) = dbB 8 9 10 0 from rfl]
  refine callE_frame [0] c8 rfl rfl (by simp) (by simp +decide -dsimp -implicitDefEqProofs [go_sem]) (by simp +decide -dsimp -implicitDefEqProofs [go_sem, tapeO_ren]) ?_
  simp +decide -dsimp -implicitDefEqProofs [go_sem, tapeO_ren]
  have hkcl : ∀ (p : List Wr) (j : Nat), tkW p j = p.take j := fun _ _ => rfl
  obtain ⟨m0, hm0⟩ : ∃ m0, m0 = seen := ⟨_, rfl⟩
  rw [← hm0] at hF ⊢
  clear cY cC hm0
  have hF0 : Fine m0 3 := hF.le (by omega)
  have hk0 : keepN keep 0 = 0 := by unfold keepN; omega
  have hr1 : rowsC 1 0 6 = [[.ptr 6 0]] := rfl
  refine loop_ofA (S := Nat × Nat × List Wr) (fun s => ⟨tmps 109 [(1, .int .i64 keep), (5, .ptr 0 0), (6, .ptr 1 0), (8, .own 5 (s.2.2.length + 1)), (9, .int .i64 ((m - s.1 : Nat) : Int))], [tapeO l s.2.1, dbB 2 3 4 (s.2.2).length, mO m0, mO (foldW m0 (s.2.2)), .reg 88 1 ((s.2.2).map wRow), .reg 26 1 (rowsC (s.2.2.length + 1) (keepN keep s.2.2.length) 6), dbB 7 8 9 (keepN keep s.2.2.length), mO m0, mO (foldW m0 (tkW s.2.2 (keepN keep s.2.2.length))), .reg 88 1 ((tkW s.2.2 (keepN keep s.2.2.length)).map wRow)]⟩) (fun s => m - s.1) (HT.ok m (k + 1) m0) (0, k + 1, []) ⟨by simp, by simp, by simp, fun j => by simpa [foldW] using hF0⟩ (Wk.trans (b := ⟨tmps 109 [(1, .int .i64 keep), (5, .ptr 0 0), (6, .ptr 1 0), (8, .own 11 1), (9, .int .i64 (m : Int))], [tapeO l (k + 1), dbB 5 3 6 0, mO [], mO m0, .reg 88 1 (pend.map wRow), mO m0, .reg 88 1 [], dbB 8 9 10 0, mO m0, mO m0, .reg 88 1 [], .reg 26 1 [[.ptr 7 0]]]⟩) (cut_of (by simp) ?_) (Wk.ren [0, 1, 5, 3, 6, 11, 7, 8, 9, 10] (by decide) rfl (by simp) (fun j hj => absurd hj (by simp)) (fun j m s l hj => absurd hj (by simp)) ?_ ?_)) ?_
  · simp +decide -dsimp -implicitDefEqProofs [go_sem, tapeO, dbB, mO_def, hcl]
    (repeat' apply And.intro) <;> first | exact hsc _ _ | exact hcl _ _ | exact rowsC_cl _ _ _ _ (by omega) | omega | rfl
  · simp +decide -dsimp -implicitDefEqProofs [go_sem, tapeO_ren, mO_ren, hgr0, dbB, hk0, hkcl, hr1, foldW]
    rfl
  · simp +decide -dsimp -implicitDefEqProofs [go_sem, rnT]
  rintro ⟨j, k1, pd⟩ ⟨hj, hk1, hpd, hFF⟩
  simp only at hj hk1 hpd hFF ⊢
  obtain ⟨q, hq⟩ : ∃ q, q = keepN keep pd.length := ⟨_, rfl⟩
  have hql : q ≤ pd.length := by rw [hq]; unfold keepN; omega
  rw [← hq]
  by_cases h2 : j < m
  rotate_left
  · have e : j = m := by omega
    subst e
    refine awp_of ?_
    have cP := pending_c m0 (foldW m0 pd) pd
    have cX := crash_c m0 (foldW m0 pd) pd keep (by omega)
    rw [← hq, ← hkcl] at cX
    have hFD := hFF q
    rw [← hkcl] at hFD
    have hF12 : Fine (foldW m0 (tkW pd q)) 12 := hFD.le (by omega)
    obtain ⟨dF, hdF⟩ : ∃ d, d = foldW m0 (tkW pd q) := ⟨_, rfl⟩
    rw [← hdF] at cX hF12 ⊢
    have cP2 := pending_c dF dF []
    have cE1 := hF12.ents (dur := dF) (pend := []) (by omega)
    have cE2 := hF12.ents (dur := m0) (pend := tkW pd q) (by omega)
    have hEl := hF12.entsLen
    have cS := SameEntries_c (entsL dF) (by omega)
    obtain ⟨al, hal, hall⟩ := all_ex hF12.o
    have cA1 := All_A dF dF [] hF12 (by omega) hal
    have cA2 := All_A m0 dF (tkW pd q) hF12 (by omega) hal
    have cR := SameRecords_c al (fun x hx => (small_of ((hal.mem x).1 hx).1).few.fit) (by omega)
    have htl : (tkW pd q).length = q := by rw [hkcl, List.length_take]; omega
    have hfs : (rowsC (pd.length + 1) q 6).length = pd.length + 1 := rowsC_len _ _ _
    have hat := rowsC_at (c := pd.length + 1) (j := q) (q := 6) (by omega)
    have wp : IntKind.i64.wrap ((pd.length : Int) + 1 - 1) = pd.length := by rw [w64 (by omega) (by omega)]; omega
    have wp2 : IntKind.i64.wrap (pd.length : Int) = pd.length := w64 (by omega) (by omega)
    obtain ⟨X, hX⟩ : ∃ X : Int, (if (pd.length : Int) < keep then (pd.length : Int) else keep) = X := ⟨_, rfl⟩
    have hX2 : (if 0 < X then X else 0) = (q : Int) := by
      rw [← hX, hq]; unfold keepN; repeat' split
      all_goals omega
    have hqlt : q < pd.length + 1 := by omega
    obtain ⟨R1, hR1⟩ : ∃ R, R = rowsC (pd.length + 1) q 6 := ⟨_, rfl⟩
    rw [← hR1] at hfs hat ⊢
    have hat2 : R1[q]'(by omega) = [.ptr 6 0] := by rw [List.getElem?_eq_getElem (by omega)] at hat; exact Option.some.inj hat
    obtain ⟨P1, hP1⟩ : ∃ P, P = tkW pd q := ⟨_, rfl⟩
    rw [← hP1] at cE2 cA2 htl ⊢
    have hrr := renLL_rRows
    have hrc := closedLL_rRows
    have hec := closedLL_eRows
    have her := renLL_eRq
    unfold entsV at cE1 cE2 cS
    generalize entsL dF = E at cE1 cE2 cS
    unfold dbO at cP cX cP2 cE1 cE2 cA1 cA2
    rw [htl] at cE2 cA2
    simp +decide -dsimp -implicitDefEqProofs [go_sem]
    refine callE_frame [1, 2, 3, 4] cP rfl rfl (by simp) (by simp +decide -dsimp -implicitDefEqProofs [go_sem]) (by simp +decide -dsimp -implicitDefEqProofs [go_sem, mO_ren, hgr, dbB]) ?_
    simp +decide -dsimp -implicitDefEqProofs [go_sem, mO_ren, hgr, show ∀ x, renO [1, 2, 3, 4] (dbB 1 2 3 x) = dbB 2 3 4 x from fun _ => rfl, hfs, wp2]
    refine callE_grow [1, 2, 3, 4] 2 cX rfl (fun v G h => by rw [h.2]; rfl) (by show ([1, 2, 3, 4] ++ List.range' 10 2).Nodup; decide) (by simp +decide -dsimp -implicitDefEqProofs [go_sem]) (by simp +decide -dsimp -implicitDefEqProofs [go_sem, mO_ren, hgr, dbB]) ?_
    rintro _ _ ⟨rfl, rfl⟩
    simp +decide -dsimp -implicitDefEqProofs [go_sem, mO_ren, hgr, hgr0, show renO [1, 2, 3, 4, 10, 11] (dbB 1 4 5 0) = dbB 2 10 11 0 from rfl, hfs, wp2, hX, hX2, hqlt, hat2]
    refine callE_frame [1, 2, 10, 11] cP2 rfl rfl (by simp) (by simp +decide -dsimp -implicitDefEqProofs [go_sem]) (by simp +decide -dsimp -implicitDefEqProofs [go_sem, mO_ren, hgr0, dbB]) ?_
    simp +decide -dsimp -implicitDefEqProofs [go_sem, mO_ren, hgr0, show renO [1, 2, 10, 11] (dbB 1 2 3 0) = dbB 2 10 11 0 from rfl]
    refine callE_frame [1, 2, 10, 11] cE1 rfl rfl (by simp) (by simp +decide -dsimp -implicitDefEqProofs [go_sem]) (by simp +decide -dsimp -implicitDefEqProofs [go_sem, mO_ren, hgr0, dbB]) ?_
    simp +decide -dsimp -implicitDefEqProofs [go_sem, mO_ren, hgr0, her, show renO [1, 2, 10, 11] (dbB 1 2 3 0) = dbB 2 10 11 0 from rfl]
    refine callE_frame [6, 7, 8, 9] cE2 rfl rfl (by simp) (by simp +decide -dsimp -implicitDefEqProofs [go_sem]) (by simp +decide -dsimp -implicitDefEqProofs [go_sem, mO_ren, hgr, dbB]) ?_
    simp +decide -dsimp -implicitDefEqProofs [go_sem, mO_ren, hgr, her, show renO [6, 7, 8, 9] (dbB 1 2 3 q) = dbB 7 8 9 q from rfl]
    refine callE_pure cS (by simp +decide -dsimp -implicitDefEqProofs [go_sem, hec]) rfl ?_
    simp +decide -dsimp -implicitDefEqProofs [go_sem]
    refine callE_frame [1, 2, 10, 11] cA1 rfl rfl (by simp) (by simp +decide -dsimp -implicitDefEqProofs [go_sem]) (by simp +decide -dsimp -implicitDefEqProofs [go_sem, mO_ren, hgr0, dbB]) ?_
    simp +decide -dsimp -implicitDefEqProofs [go_sem, mO_ren, hgr0, hrr, show renO [1, 2, 10, 11] (dbB 1 2 3 0) = dbB 2 10 11 0 from rfl]
    refine callE_frame [6, 7, 8, 9] cA2 rfl rfl (by simp) (by simp +decide -dsimp -implicitDefEqProofs [go_sem]) (by simp +decide -dsimp -implicitDefEqProofs [go_sem, mO_ren, hgr, dbB]) ?_
    simp +decide -dsimp -implicitDefEqProofs [go_sem, mO_ren, hgr, hrr, show renO [6, 7, 8, 9] (dbB 1 2 3 q) = dbB 7 8 9 q from rfl]
    refine callE_pure cR (by simp +decide -dsimp -implicitDefEqProofs [go_sem, hrc]) rfl ?_
    simp +decide -dsimp -implicitDefEqProofs [go_sem]
    refine callE_pure known_c rfl rfl ?_
    simp +decide -dsimp -implicitDefEqProofs [go_sem]
  have h2' : 0 < m - j := by omega
  have w9 : IntKind.i64.wrap (((m - j : Nat) : Int) - 1) = ((m - (j + 1) : Nat) : Int) := by rw [w64 (by omega) (by omega)]; omega
  have hFs : Fine (foldW m0 pd) (3 + j) := by have := hFF pd.length; rwa [List.take_length] at this
  refine awp_cut ⟨tmps 109 [(1, .int .i64 keep), (5, .ptr 0 0), (6, .ptr 1 0), (8, .own 5 (pd.length + 1)), (9, .int .i64 ((m - j : Nat) : Int))], [tapeO l k1, dbB 2 3 4 (pd).length, mO m0, mO (foldW m0 (pd)), .reg 88 1 ((pd).map wRow), .reg 26 1 (rowsC (pd.length + 1) (q) 6), dbB 7 8 9 (q), mO m0, mO (foldW m0 (tkW pd (q))), .reg 88 1 ((tkW pd (q)).map wRow)]⟩ (awp_of ?_) ?_
  · simp +decide -dsimp -implicitDefEqProofs [go_sem, h2']
    refine cutE_of (by simp) ?_
    simp +decide -dsimp -implicitDefEqProofs [go_sem, tapeO, dbB, mO_def, hcl]
    (repeat' apply And.intro) <;> first | exact hsc _ _ | exact hcl _ _ | exact rowsC_cl _ _ _ _ (by omega) | omega | rfl
  refine awp_seq (awp_block ?_)
  refine awp_cut ⟨tmps 109 [(1, .int .i64 keep), (5, .ptr 0 0), (6, .ptr 1 0), (8, .own 5 (pd.length + 1)), (9, .int .i64 ((m - j : Nat) : Int)), (10, .int .i64 0)], [tapeO l k1, dbB 2 3 4 (pd).length, mO m0, mO (foldW m0 (pd)), .reg 88 1 ((pd).map wRow), .reg 26 1 (rowsC (pd.length + 1) (q) 6), dbB 7 8 9 (q), mO m0, mO (foldW m0 (tkW pd (q))), .reg 88 1 ((tkW pd (q)).map wRow)]⟩ (awp_of ?_) ?_
  · simp +decide -dsimp -implicitDefEqProofs [go_sem]
    refine cutE_of (by simp) ?_
    simp +decide -dsimp -implicitDefEqProofs [go_sem, tapeO, dbB, mO_def, hcl]
    (repeat' apply And.intro) <;> first | exact hsc _ _ | exact hcl _ _ | exact rowsC_cl _ _ _ _ (by omega) | omega | rfl
  refine awp_cutX (S := Nat × Option Wr) (fun s => ⟨tmps 109 [(1, .int .i64 keep), (5, .ptr 0 0), (6, .ptr 1 0), (8, .own 5 (pd.length + 1)), (9, .int .i64 ((m - j : Nat) : Int)), (10, .int .i64 (if s.2.isSome = true then 0 else 262))], [tapeO l s.1, dbB 2 3 4 (appW pd s.2).length, mO m0, mO (foldW m0 (appW pd s.2)), .reg 88 1 ((appW pd s.2).map wRow), .reg 26 1 (rowsC (pd.length + 1) (q) 6), dbB 7 8 9 (q), mO m0, mO (foldW m0 (tkW pd (q))), .reg 88 1 ((tkW pd (q)).map wRow)]⟩) (okX k1 j m0 pd) (awp_of ?_) ?_
  · have c3 := Next_c l k1 3 (by omega) (by omega)
    have b3 := fold_bd (tapeV l k1) 3 (by omega)
    generalize fold (tapeV l k1) 3 = g at c3 b3
    have hpl : pd.length < 1000000 := by omega
    simp +decide -dsimp -implicitDefEqProofs [go_sem]
    refine callE_frame [0] c3 rfl rfl (by simp) (by simp +decide -dsimp -implicitDefEqProofs [go_sem]) (by simp +decide -dsimp -implicitDefEqProofs [go_sem, tapeO_ren]) ?_
    by_cases g0 : g = 0
    · simp +decide -dsimp -implicitDefEqProofs [go_sem, tapeO_ren, g0]
      refine callE_frameR [0] (mPath_c l (k1 + 1) (by omega)) rfl (fun v G ⟨_, _, _, hG, _⟩ => by rw [hG]; rfl) (by simp) (by simp +decide -dsimp -implicitDefEqProofs [go_sem]) (by simp +decide -dsimp -implicitDefEqProofs [go_sem, tapeO_ren]) ?_
      rintro _ _ ⟨p, k2, rfl, rfl, hpl2, hk2⟩
      have hps := path_small hpl2
      cases hg : getS (entL p) (foldW m0 pd) with
      | none =>
        have cX := (Delete_c m0 (foldW m0 pd) pd p hpl2 (by omega) hpl).2 hg
        unfold dbO at cX
        simp +decide -dsimp -implicitDefEqProofs [go_sem, tapeO_ren]
        refine callE_frame [1, 2, 3, 4] cX rfl rfl (by simp) (by simp +decide -dsimp -implicitDefEqProofs [go_sem]) (by simp +decide -dsimp -implicitDefEqProofs [go_sem, mO_ren, hgr, dbB]) ?_
        simp +decide -dsimp -implicitDefEqProofs [go_sem, mO_ren, hgr, show ∀ q, renO [1, 2, 3, 4] (dbB 1 2 3 q) = dbB 2 3 4 q from fun _ => rfl]
        refine cutX_of (k2, none) ⟨by show k2 ≤ k1 + 200; omega, fun w e => by cases e⟩ (cut_of (by simp) ?_)
        simp +decide -dsimp -implicitDefEqProofs [go_sem, tapeO, dbB, mO_def, hcl, appW]
        (repeat' apply And.intro) <;> first | exact hsc _ _ | exact hcl _ _ | exact rowsC_cl _ _ _ _ (by omega) | omega | rfl
      | some tx =>
        have hne : getS (entL p) (foldW m0 pd) ≠ none := by rw [hg]; simp
        have cX := (Delete_c m0 (foldW m0 pd) pd p hpl2 (by omega) hpl).1 hne
        have hF2 := hFs.doW (w := (entL p, none)) (ent_small hpl2) (fun t e => by cases e)
        rw [← foldW_snoc] at hF2
        have hdw : delS (entL p) (foldW m0 pd) = foldW m0 (pd ++ [(entL p, none)]) := by rw [foldW_snoc]; rfl
        rw [hdw] at cX
        generalize (entL p, (none : Option (List UInt8))) = w at cX hF2
        have happ : pd ++ [w] = appW pd (some w) := rfl
        rw [happ] at cX
        unfold dbO at cX
        simp +decide -dsimp -implicitDefEqProofs [go_sem, tapeO_ren]
        refine callE_frame [1, 2, 3, 4] cX rfl rfl (by simp) (by simp +decide -dsimp -implicitDefEqProofs [go_sem]) (by simp +decide -dsimp -implicitDefEqProofs [go_sem, mO_ren, hgr, dbB]) ?_
        simp +decide -dsimp -implicitDefEqProofs [go_sem, mO_ren, hgr, show ∀ q, renO [1, 2, 3, 4] (dbB 1 2 3 q) = dbB 2 3 4 q from fun _ => rfl]
        refine cutX_of (k2, some w) ⟨by show k2 ≤ k1 + 200; omega, fun w' e => by cases e; exact hF2⟩ (cut_of (by simp) ?_)
        simp +decide -dsimp -implicitDefEqProofs [go_sem, tapeO, dbB, mO_def, hcl]
        (repeat' apply And.intro) <;> first | exact hsc _ _ | exact hcl _ _ | exact rowsC_cl _ _ _ _ (by omega) | omega | rfl
    simp +decide -dsimp -implicitDefEqProofs [go_sem, tapeO_ren, g0]
    refine callE_frameR [0] (mPath_c l (k1 + 1) (by omega)) rfl (fun v G ⟨_, _, _, hG, _⟩ => by rw [hG]; rfl) (by simp) (by simp +decide -dsimp -implicitDefEqProofs [go_sem]) (by simp +decide -dsimp -implicitDefEqProofs [go_sem, tapeO_ren]) ?_
    rintro _ _ ⟨p, k2, rfl, rfl, hpl2, hk2⟩
    have c1 := Next_c l k2 9 (by omega) (by omega)
    have b1 := fold_bd (tapeV l k2) 9 (by omega)
    generalize fold (tapeV l k2) 9 = gi at c1 b1
    have wg : IntKind.i64.wrap (1 + gi) = 1 + gi := w64 (by omega) (by omega)
    simp +decide -dsimp -implicitDefEqProofs [go_sem, tapeO_ren]
    refine callE_frame [0] c1 rfl rfl (by simp) (by simp +decide -dsimp -implicitDefEqProofs [go_sem]) (by simp +decide -dsimp -implicitDefEqProofs [go_sem, tapeO_ren]) ?_
    simp +decide -dsimp -implicitDefEqProofs [go_sem, tapeO_ren, wg]
    refine callE_frameR [0] (mRecord_c l (k2 + 1) p (1 + gi) (by omega) hpl2 (by omega)) rfl (fun v G ⟨_, _, _, hG, _⟩ => by rw [hG]; rfl) (by simp) (by simp +decide -dsimp -implicitDefEqProofs [go_sem]) (by simp +decide -dsimp -implicitDefEqProofs [go_sem, tapeO_ren]) ?_
    rintro _ _ ⟨r, k3, rfl, rfl, hS, hrp, _, hk3⟩
    have cX := Put_c m0 (foldW m0 pd) pd r hS hpl (by have := cnt_le (foldW m0 pd); have := hFs.n; omega)
    have hF2 := hFs.doW (w := (entL r.path, some (encT r))) (ent_small (sound_place hS)) (fun t e => by cases e; exact enc_small hS)
    rw [← foldW_snoc] at hF2
    have hdw : setS (entL r.path) (encT r) (foldW m0 pd) = foldW m0 (pd ++ [(entL r.path, some (encT r))]) := by rw [foldW_snoc]; rfl
    rw [hdw] at cX
    generalize (entL r.path, some (encT r)) = w at cX hF2
    have happ : pd ++ [w] = appW pd (some w) := rfl
    rw [happ] at cX
    unfold dbO at cX
    simp +decide -dsimp -implicitDefEqProofs [go_sem, tapeO_ren, rRow_ren]
    refine callE_frame [1, 2, 3, 4] cX rfl rfl (by simp) (by simp +decide -dsimp -implicitDefEqProofs [go_sem, rRow_ren]) (by simp +decide -dsimp -implicitDefEqProofs [go_sem, mO_ren, hgr, dbB]) ?_
    simp +decide -dsimp -implicitDefEqProofs [go_sem, mO_ren, hgr, show ∀ q, renO [1, 2, 3, 4] (dbB 1 2 3 q) = dbB 2 3 4 q from fun _ => rfl]
    refine cutX_of (k3, some w) ⟨by show k3 ≤ k1 + 200; omega, fun w' e => by cases e; exact hF2⟩ (cut_of (by simp) ?_)
    simp +decide -dsimp -implicitDefEqProofs [go_sem, tapeO, dbB, mO_def, hcl]
    (repeat' apply And.intro) <;> first | exact hsc _ _ | exact hcl _ _ | exact rowsC_cl _ _ _ _ (by omega) | omega | rfl
  rintro ⟨k2, ow⟩ ⟨hk2, hFw⟩
  simp only at hk2 hFw ⊢
  refine awp_of ?_
  cases ow with
  | none =>
    simp +decide -dsimp -implicitDefEqProofs [go_sem, appW]
    refine awp_of ?_
    simp +decide -dsimp -implicitDefEqProofs [go_sem, w9]
    refine next_of (j + 1, k2, pd) ⟨by show j + 1 ≤ m; omega, by show k2 ≤ k + 1 + 200 * (j + 1); omega, by show pd.length ≤ j + 1; omega, fun x => (hFF x).le (by omega)⟩ (by show m - (j + 1) < m - j; omega) (cut_of (by simp) ?_)
    simp +decide -dsimp -implicitDefEqProofs [go_sem, tapeO, dbB, mO_def, hcl, ← hq]
    (repeat' apply And.intro) <;> first | exact hsc _ _ | exact hcl _ _ | exact rowsC_cl _ _ _ _ (by omega) | omega | rfl
  | some w =>
    have hFn := hFw w rfl
    obtain ⟨pn, hpn⟩ : ∃ pn, pn = appW pd (some w) := ⟨_, rfl⟩
    have hpl1 : pn.length = pd.length + 1 := by rw [hpn]; simp [appW]
    have hpt : ∀ x, x ≤ pd.length → pn.take x = pd.take x := fun x hx => by rw [hpn]; unfold appW; rw [List.take_append_of_le_length hx]
    have hpf : pd ++ [w] = pn := hpn.symm
    rw [hpf] at hFn
    have hFx : ∀ x, Fine (foldW m0 (pn.take x)) (3 + (j + 1)) := fun x => by
      by_cases hx : x ≤ pd.length
      · rw [hpt x hx]; exact (hFF x).le (by omega)
      · rw [List.take_of_length_le (by omega)]; exact hFn.le (by omega)
    rw [← hpn]
    have cC := Copy_c m0 (foldW m0 pn) pn (by omega)
    unfold dbO at cC
    simp only [List.cons_append, List.nil_append] at cC
    have hrl := rowsC_len (pd.length + 1) q 6
    have hfs : (rowsC (pd.length + 1) q 6).length = pd.length + 1 := hrl
    simp +decide -dsimp -implicitDefEqProofs [go_sem]
    refine callE_grow [1, 2, 3, 4] 4 cC rfl (fun v G h => by rw [h.2]; rfl) (by show ([1, 2, 3, 4] ++ List.range' 10 4).Nodup; decide) (by simp +decide -dsimp -implicitDefEqProofs [go_sem]) (by simp +decide -dsimp -implicitDefEqProofs [go_sem, mO_ren, hgr, dbB]) ?_
    rintro _ _ ⟨rfl, rfl⟩
    obtain ⟨R1, hR1⟩ : ∃ R, R = rowsC (pd.length + 1) q 6 := ⟨_, rfl⟩
    rw [← hR1] at hfs ⊢
    simp +decide -dsimp -implicitDefEqProofs [go_sem, mO_ren, hgr, show ∀ x, renO [1, 2, 3, 4, 10, 11, 12, 13] (dbB 1 2 3 x) = dbB 2 3 4 x from fun _ => rfl, show ∀ x, renO [1, 2, 3, 4, 10, 11, 12, 13] (dbB 5 6 7 x) = dbB 11 12 13 x from fun _ => rfl, maxLen, hfs]
    refine ⟨⟨by omega, by omega⟩, ?_⟩
    refine awp_of ?_
    simp +decide -dsimp -implicitDefEqProofs [go_sem, w9]
    rw [hR1]
    by_cases hc : q = keepN keep pn.length
    · refine next_of (j + 1, k2, pn) ⟨by show j + 1 ≤ m; omega, by show k2 ≤ k + 1 + 200 * (j + 1); omega, by show pn.length ≤ j + 1; omega, hFx⟩ (by show m - (j + 1) < m - j; omega) (Wk.trans (Wk.junkReg 5 (rowsC (pd.length + 1 + 1) q 6) rfl (rowsC_old (pd.length + 1) q 6 10 (by omega))) (cut_of (by simp) ?_))
      have htq : tkW pn q = tkW pd q := hpt q hql
      have hc' : keepN keep (pd.length + 1) = q := by rw [← hpl1]; exact hc.symm
      simp +decide -dsimp -implicitDefEqProofs [go_sem, tapeO, dbB, mO_def, hcl, hc', hpl1, htq]
      (repeat' apply And.intro) <;> first | exact hsc _ _ | exact hcl _ _ | exact rowsC_cl _ _ _ _ (by omega) | omega | rfl
    · have hq2 : keepN keep pn.length = pd.length + 1 := by rw [hpl1] at hc ⊢; rw [hq] at hc; unfold keepN at hc ⊢; omega
      have hq3 : keepN keep (pd.length + 1) = pd.length + 1 := by rw [← hpl1, hq2, hpl1]
      have htq : tkW pn (pd.length + 1) = pn := by unfold tkW; exact List.take_of_length_le (by omega)
      have hrr := rowsC_ren [0, 1, 2, 3, 4, 5, 10, 11, 12, 13] (pd.length + 1 + 1) (pd.length + 1) 6 10 rfl
      refine next_of (j + 1, k2, pn) ⟨by show j + 1 ≤ m; omega, by show k2 ≤ k + 1 + 200 * (j + 1); omega, by show pn.length ≤ j + 1; omega, hFx⟩ (by show m - (j + 1) < m - j; omega) (Wk.trans (Wk.junkReg 5 (rowsC (pd.length + 1 + 1) (pd.length + 1) 10) rfl (rowsC_new (pd.length + 1) q 6 10 (by omega))) (Wk.trans (b := ⟨tmps 109 [(1, .int .i64 keep), (5, .ptr 0 0), (6, .ptr 1 0), (8, .own 5 (pd.length + 1 + 1)), (9, .int .i64 ((m - (j + 1) : Nat) : Int))], [tapeO l k2, dbB 2 3 4 pn.length, mO m0, mO (foldW m0 pn), .reg 88 1 (pn.map wRow), .reg 26 1 (rowsC (pd.length + 1 + 1) (pd.length + 1) 10), dbB 7 8 9 q, mO m0, mO (foldW m0 (tkW pd q)), .reg 88 1 ((tkW pd q).map wRow), dbB 11 12 13 pn.length, mO m0, mO (foldW m0 pn), .reg 88 1 (pn.map wRow)]⟩) (cut_of (by simp) ?_) (Wk.ren [0, 1, 2, 3, 4, 5, 10, 11, 12, 13] (by decide) rfl (by simp) (fun j hj => absurd hj (by simp)) (fun j m s l hj => absurd hj (by simp)) ?_ ?_)))
      · simp +decide -dsimp -implicitDefEqProofs [go_sem, tapeO, dbB, mO_def, hcl]
        (repeat' apply And.intro) <;> first | exact hsc _ _ | exact hcl _ _ | exact rowsC_cl _ _ _ _ (by omega) | omega | rfl
      · simp +decide -dsimp -implicitDefEqProofs [go_sem, tapeO_ren, mO_ren, hgr, dbB, hq3, hpl1, htq, hrr]
      · simp +decide -dsimp -implicitDefEqProofs [go_sem, rnT, hpl1]
end Go.Ab
