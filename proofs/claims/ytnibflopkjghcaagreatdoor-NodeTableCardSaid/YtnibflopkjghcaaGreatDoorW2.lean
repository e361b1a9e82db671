/- Contracts of the library's for tables of links: slices.Sort, Compact, Clone at texts. -/
import Derived.Test.YtnibflopkjghcaaGreatDoorW1
import Derived.Test.YtnibflopkjghcaaGreatDoorC2
import Derived.Test.YtnibflopkjghcaaGreatDoorC1
import Derived.Test.YtnibflopkjghcaaGreatDoorA6
import Derived.Shelf.GgSortFunc.SmallK
import Derived.Shelf.GgSortFunc.Tiny
import Derived.WalkKit
import Derived.Test.YtnibflopkjghcaaGreatDoorA5
import Derived.Sort.KeysCollected
namespace Go.Ab
open Go Go.Proofs Go.Sort
def srtT (l : List Txt) : List Txt := l.mergeSort fun x y => decide (x ≤ y)
theorem srtT_len (l : List Txt) : (srtT l).length = l.length := by simp [srtT]
theorem srtT_mem {l : List Txt} {y : Txt} : y ∈ srtT l ↔ y ∈ l := by simp [srtT]
theorem srtT_asc (l : List Txt) : (srtT l).Pairwise (· ≤ ·) := by
  have := List.pairwise_mergeSort (le := fun x y : Txt => decide (x ≤ y)) (fun a b c h1 h2 => by simp only [decide_eq_true_eq] at *; exact List.le_trans h1 h2) (fun a b => by
    simp only [Bool.or_eq_true, decide_eq_true_eq]; exact List.le_total a b) l
  exact this.imp fun h => by simpa using h
theorem imm0_raw {P : Program} {f : Nat} {R : AV → List AObj → Prop} {H : List AObj} (h : ∀ a cp, ACallsR P f [.raw (.slice a 0 cp)] H R) : ACallsR P f [.imm []] H R := by
  refine ⟨(h none 0).1, fun c vs hH hr hv => ?_⟩
  simp only [Vals] at hv
  obtain ⟨v, vs', rfl, hv, rfl⟩ := hv
  have : ∃ a cp, v = .slice a 0 cp := by
    simp only [Val] at hv
    rcases hv with ⟨b, off, cap, sz, rfl, _⟩ | ⟨_, a, cp, rfl⟩
    · exact ⟨_, _, rfl⟩
    · exact ⟨_, _, rfl⟩
  obtain ⟨a, cp, rfl⟩ := this
  exact (h a cp).2 c _ hH hr (by simp only [Vals]; exact ⟨_, _, rfl, by simp [Val], rfl⟩)
set_option maxRecDepth 20000 in
theorem CloneT_c (l : List Txt) (hl : l.length < 1000000) : ACallsR Tryz.prog 59 [.imm (l.map sRow)] [] (fun v G => v = .own 0 l.length ∧ G = [.reg 9 1 (l.map sRow)]) := by
  cases l with
  | nil =>
    refine imm0_raw fun a cp => ?_
    refine acalls_W _ c59_ok ?_
    unfold c59
    cases a with
    | none =>
      simp +decide -dsimp -implicitDefEqProofs [go_sem]
      refine endW_of _ _ (Wk.nilT 2 9 1 rfl (by simp)) ?_
      simp +decide -dsimp -implicitDefEqProofs [go_sem, packR]
    | some a =>
      simp +decide -dsimp -implicitDefEqProofs [go_sem]
      refine endW_of _ _ (.refl _ _) ?_
      simp +decide -dsimp -implicitDefEqProofs [go_sem, packR]
  | cons w l =>
    refine acalls_W _ c59_ok ?_
    unfold c59
    simp only [List.length_cons] at hl
    simp +decide -dsimp -implicitDefEqProofs [go_sem, maxLen, sRow]
    refine ⟨⟨by omega, by omega⟩, ?_⟩
    refine endW_of _ _ (.refl _ _) ?_
    simp +decide -dsimp -implicitDefEqProofs [go_sem, packR]
theorem own_val {c : Cx} (hr : Rel c) {o e sz : Nat} {rows : List (List AV)} (ho : c.H[o]? = some (.reg e sz rows)) {v : Value} (hv : Val c (.own o rows.length) v) :
    c.μ[o]? = some v ∧ ((v = .slice none 0 0 ∧ rows = []) ∨ ∃ g cap cur, v = .slice (some ⟨g, 0, none⟩) rows.length cap ∧ c.w.heap[g]? = some (.cells cur e (0, 0)) ∧ rows.length ≤ cap ∧ RowsAt c rows g 0 sz) := by
  simp only [Val] at hv
  obtain ⟨_, hv⟩ := hv
  rcases hv with ⟨e', sz', l', h1, _, h3⟩ | h1
  rotate_left
  · rw [ho] at h1; cases h1
  rw [ho] at h1; cases h1
  obtain ⟨v', h5, h6⟩ := hr.obj o _ ho
  rw [h3 rfl] at h5; cases h5
  refine ⟨h3 rfl, ?_⟩
  rcases h6 with ⟨rfl, rfl⟩ | ⟨g, cap, cur, rfl, h7, h8, _, _, h11⟩
  · exact .inl ⟨rfl, rfl⟩
  · exact .inr ⟨g, cap, cur, rfl, h7, h8, h11⟩
theorem bodied38 : bodied Tryz.prog 45 = true := by kernel_rfl
/-- slices.Sort at texts, in place. -/
theorem sort_c (l : List Txt) (hl : l.length < 1000000) : ACalls Tryz.prog 45 [.own 0 l.length] [.reg 9 1 (l.map sRow)] (.tup []) [.reg 9 1 ((srtT l).map sRow)] := by
  have key : ACallsR Tryz.prog 45 [.own 0 l.length] [.reg 9 1 (l.map sRow)] (fun v G => v = .tup [] ∧ G = [.reg 9 1 ((srtT l).map sRow)]) := by
    refine ⟨bodied38, fun c vs hH hr hv => ?_⟩
    simp only [Vals] at hv
    obtain ⟨v, vs', rfl, hv, rfl⟩ := hv
    have ho : c.H[0]? = some (.reg 9 1 (l.map sRow)) := by rw [hH]; rfl
    obtain ⟨hm, hv⟩ := own_val hr ho (by rw [List.length_map]; exact hv)
    rcases hv with ⟨rfl, h0⟩ | ⟨g, cap, cur, rfl, h7, h8, h11⟩
    · have hl0 : l = [] := by simpa using h0
      subst hl0
      refine (Tryz.slices_Sort_string_none none 0 c.w).mono fun e w' ⟨he, hw⟩ => ?_
      subst he; subst hw
      exact ⟨_, c, .tup [], rfl, rfl, ⟨rfl, by rw [hH]; simp [srtT]⟩, hr, .refl c, by simp [Val, Vals]⟩
    · rw [List.length_map] at h8 hm
      rw [List.length_map]
      have hlt : g < c.w.heap.size := (Array.getElem?_eq_some_iff.1 h7).1
      have hh := rows_holds enc_str h7 h11
      refine (Tryz.slices_Sort_string g 0 cap l c.w (holds_one hh) hlt (by omega)).mono fun e w' ⟨he, n, os, hw⟩ => ?_
      subst he
      rw [putRow_one] at hw
      obtain ⟨r1, e1⟩ := inplace enc_str hr ho hm (d' := (srtT l).toArray) (by simp [srtT_len]) hw
      refine ⟨_, _, .tup [], rfl, rfl, ⟨rfl, ?_⟩, r1, e1, by simp [Val, Vals]⟩
      show c.H.set 0 _ = _
      rw [hH]; rfl
  exact key.one
theorem compact_mem {l : List Txt} {y : Txt} : y ∈ Lib.compact l ↔ y ∈ l := by
  unfold Lib.compact Lib.compactUpTo
  simp only [List.mem_map, List.mem_filter, List.mem_range]
  constructor
  · rintro ⟨j, ⟨hj, _⟩, rfl⟩
    have : l.toArray[j]! = l[j] := by simp [hj]
    rw [this]; exact List.getElem_mem hj
  · intro hy
    obtain ⟨i, hi, he⟩ := List.mem_iff_getElem.1 hy
    -- the first place
    have key : ∀ n, ∀ j (hj : j < l.length), j < n → l[j] = y → ∃ k, (k < l.length ∧ Lib.keeps l.toArray k = true) ∧ l.toArray[k]! = y := fun n => by
      induction n with
      | zero => intro j _ h; omega
      | succ n ih =>
        intro j hj hn hjy
        by_cases h0 : j = 0
        · exact ⟨j, ⟨hj, by subst h0; exact Lib.keeps_lt_one _ 0 (by decide)⟩, by simp [hj, hjy]⟩
        · have hj1 : j - 1 < l.length := by omega
          by_cases h1 : l[j - 1] = y
          · exact ih (j - 1) hj1 (by omega) h1
          · refine ⟨j, ⟨hj, Lib.keeps_pos ?_⟩, by simp [hj, hjy]⟩
            have e1 : l.toArray[j]! = l[j] := by simp [hj]
            have e2 : l.toArray[j - 1]! = l[j - 1] := by simp [hj1]
            rw [e1, e2, hjy]
            exact fun e => h1 e.symm
    exact key (i + 1) i hi (by omega) he
theorem compact_asc {l : List Txt} (h : l.Pairwise (· ≤ ·)) : ascT (Lib.compact l) := by
  unfold ascT Lib.compact Lib.compactUpTo
  rw [List.pairwise_map]
  have hp := List.pairwise_iff_getElem.1 h
  have hs : ((List.range l.length).filter (Lib.keeps l.toArray)).Pairwise (· < ·) := (List.pairwise_lt_range).sublist List.filter_sublist
  refine hs.imp_of_mem fun {i j} hi hj hij => ?_
  simp only [List.mem_filter, List.mem_range] at hi hj
  have hj1 : j - 1 < l.length := by omega
  have e0 : l.toArray[i]! = l[i] := by simp [hi.1]
  have e1 : l.toArray[j]! = l[j] := by simp [hj.1]
  have e2 : l.toArray[j - 1]! = l[j - 1] := by simp [hj1]
  rw [e0, e1]
  have hne : l[j - 1] ≠ l[j] := fun e => by
    have := Lib.keeps_neg (d := l.toArray) (m := j) (by omega) (by rw [e1, e2, e])
    rw [this] at hj; simp at hj
  have h1 : l[j - 1] < l[j] := (List.le_iff_lt_or_eq.1 (hp (j - 1) j hj1 hj.1 (by omega))).resolve_right hne
  by_cases hii : i = j - 1
  · subst hii; exact h1
  · have h2 := hp i (j - 1) hi.1 hj1 (by omega)
    rcases List.le_iff_lt_or_eq.1 h2 with h3 | h3
    · exact List.lt_trans h3 h1
    · rw [h3]; exact h1
theorem compact_set (l : List Txt) : Lib.compact (srtT l) = setT l :=
  ascT_ext (compact_asc (srtT_asc l)) (setT_ok l).1 fun y => by rw [compact_mem, srtT_mem, (setT_ok l).2]
theorem compact_len (l : List Txt) : (Lib.compact l).length ≤ l.length := by
  unfold Lib.compact Lib.compactUpTo
  rw [List.length_map]
  exact Nat.le_trans (List.length_filter_le _ _) (by simp)
theorem bodied39 : bodied Tryz.prog 46 = true := by kernel_rfl
/-- slices.Compact at texts: the region is given up, what is left is frozen. -/
theorem compact_c (l : List Txt) (hl : l.length < 1000000) : ACalls Tryz.prog 46 [.own 0 l.length] [.reg 9 1 (l.map sRow)] (.imm ((Lib.compact l).map sRow)) [.dead] := by
  have key : ACallsR Tryz.prog 46 [.own 0 l.length] [.reg 9 1 (l.map sRow)] (fun v G => v = .imm ((Lib.compact l).map sRow) ∧ G = [.dead]) := by
    refine ⟨bodied39, fun c vs hH hr hv => ?_⟩
    simp only [Vals] at hv
    obtain ⟨v, vs', rfl, hv, rfl⟩ := hv
    have ho : c.H[0]? = some (.reg 9 1 (l.map sRow)) := by rw [hH]; rfl
    obtain ⟨hm, hv⟩ := own_val hr ho (by rw [List.length_map]; exact hv)
    rcases hv with ⟨rfl, h0⟩ | ⟨g, cap, cur, rfl, h7, h8, h11⟩
    · have hl0 : l = [] := by simpa using h0
      subst hl0
      refine (Tryz.slices_Compact_string_empty none 0 c.w).mono fun e w' ⟨he, hw⟩ => ?_
      subst he; subst hw
      obtain ⟨r1, e1⟩ := frz_rel hr ho 1
      have e2 : Ext c (frzCx c 0) := ⟨e1.fr, e1.frn, e1.keep, e1.size, e1.os, e1.tape, e1.output, e1.own, fun o x hx => by
        have : o < 1 := by
          have := (List.getElem?_eq_some_iff.1 hx).1
          rw [hH] at this; simpa using this
        exact e1.obj o x this hx⟩
      refine ⟨_, frzCx c 0, .imm [], rfl, rfl, ⟨rfl, ?_⟩, r1, e2, ?_⟩
      · show c.H.set 0 _ = _
        rw [hH]; rfl
      · simp only [Val]; exact .inr ⟨trivial, _, _, rfl⟩
    · rw [List.length_map] at h8 hm
      rw [List.length_map]
      have hh := rows_holds enc_str h7 h11
      refine (Tryz.slices_Compact_string g 0 cap l c.w (holds_one hh) (by omega) h8).mono fun e w' ⟨he, q, hw⟩ => ?_
      subst he
      have hcl := compact_len l
      rw [putRow_one] at hw
      obtain ⟨r1, e1⟩ := inplace enc_str hr ho hm (d' := (Lib.compact l ++ List.replicate (l.length - (Lib.compact l).length) []).toArray) (by simp; omega) (os := #[]) (n := q) (w' := w') (by rw [hw]; simp [grow])
      have ho2 : (c.H.set 0 (.reg 9 1 ((Lib.compact l ++ List.replicate (l.length - (Lib.compact l).length) []).toArray.toList.map fun s => [AV.str s])))[0]? = some (.reg 9 1 ((Lib.compact l ++ List.replicate (l.length - (Lib.compact l).length) []).map fun s => [AV.str s])) := by rw [hH]; rfl
      have hv2 : Val ⟨c.F, c.μ, c.H.set 0 (.reg 9 1 ((Lib.compact l ++ List.replicate (l.length - (Lib.compact l).length) []).toArray.toList.map fun s => [AV.str s])), w'⟩ (.pre 0 0 (Lib.compact l).length ((Lib.compact l ++ List.replicate (l.length - (Lib.compact l).length) []).map fun s => [AV.str s]).length) (.slice (some ⟨g, 0, none⟩) (Lib.compact l).length cap) := by
        simp only [Val]
        exact ⟨⟨_, _, _, rfl⟩, .inl ⟨9, 1, _, ho2, Nat.le_refl _, fun _ => ⟨by simp, .inl ⟨g, l.length, cap, cap, hm, by simp, by omega⟩⟩⟩⟩
      obtain ⟨r2, e2⟩ := frz_rel r1 ho2 1
      have hv3 := frz_pre r1 ho2 hv2
      have e3 : Ext ⟨c.F, c.μ, c.H.set 0 (.reg 9 1 ((Lib.compact l ++ List.replicate (l.length - (Lib.compact l).length) []).toArray.toList.map fun s => [AV.str s])), w'⟩ (frzCx ⟨c.F, c.μ, c.H.set 0 (.reg 9 1 ((Lib.compact l ++ List.replicate (l.length - (Lib.compact l).length) []).toArray.toList.map fun s => [AV.str s])), w'⟩ 0) := ⟨e2.fr, e2.frn, e2.keep, e2.size, e2.os, e2.tape, e2.output, e2.own, fun o x hx => by
        have : o < 1 := by
          have := (List.getElem?_eq_some_iff.1 hx).1
          rw [hH] at this; simpa using this
        exact e2.obj o x this hx⟩
      refine ⟨_, _, .imm ((Lib.compact l).map sRow), rfl, rfl, ⟨rfl, ?_⟩, r2, e1.trans e3, ?_⟩
      · show (c.H.set 0 _).set 0 _ = _
        rw [hH]; rfl
      · have : ((((Lib.compact l ++ List.replicate (l.length - (Lib.compact l).length) []).map fun s => [AV.str s]).drop 0).take (Lib.compact l).length) = (Lib.compact l).map sRow := by
          rw [List.drop_zero, List.map_append, List.take_append_of_le_length (by simp)]
          rw [List.take_of_length_le (by simp)]; rfl
        rw [← this]; exact hv3
  exact key.one
end Go.Ab
namespace Go.Ab
open Go Go.Proofs Go.Sort
theorem w64u {n : Int} (h0 : 0 ≤ n) (h1 : n < 18446744073709551616) : IntKind.u64.wrap n = n := by rw [IntKind.wrap_u64]; omega
theorem sRow_ren (is : List Nat) (s : Txt) : renL is (sRow s) = sRow s := by simp [sRow, renL, ren]
theorem sRow_cl (k : Nat) (s : Txt) : closedL k (sRow s) = true := by simp [sRow, closedL, closed]
theorem order_c (a b : Txt) (ha : placeB a = true) (hb : placeB b = true) : ACalls Tryz.prog 62 [.str a, .str b] [] (.int .i64 (cmpP a b)) [] := by
  refine acalls_F c62_ok rfl ?_
  unfold c62
  simp +decide -dsimp -implicitDefEqProofs [go_sem]
  refine callE_pure (nCompare_c a b ha hb) rfl rfl ?_
  simp +decide -dsimp -implicitDefEqProofs [go_sem]
def rows (d : Array Txt) : List (List AV) := d.toList.map sRow
def okP (d : Array Txt) : Prop := ∀ x ∈ d.toList, placeB x = true
theorem okP_at {d : Array Txt} (h : okP d) {j : Nat} (hj : j < d.size) : placeB d[j]! = true := by
  rw [getElem!_pos d j hj]; exact h _ (by simp)
theorem rows_at {d : Array Txt} {j : Nat} (hj : j < d.size) : (rows d)[j]? = some (sRow d[j]!) := by
  rw [getElem!_pos d j hj]; simp [rows, hj]
theorem rows_len (d : Array Txt) : (rows d).length = d.size := by simp [rows]
theorem swp_size (d : Array Txt) (i j : Nat) : (swp d i j).size = d.size := by simp [swp]
theorem rows_swp (d : Array Txt) (i j : Nat) : ((rows d).set i (sRow d[j]!)).set j (sRow d[i]!) = rows (swp d i j) := by simp [rows, swp]
theorem okP_swp {d : Array Txt} (h : okP d) {i j : Nat} (hi : i < d.size) (hj : j < d.size) : okP (swp d i j) := by
  intro x hx
  simp only [swp, Array.toList_setIfInBounds] at hx
  rcases List.mem_or_eq_of_mem_set hx with hx | rfl
  · rcases List.mem_or_eq_of_mem_set hx with hx | rfl
    · exact h x hx
    · exact okP_at h hj
  · exact okP_at h hi
def rgO (d : Array Txt) : AObj := .reg 9 1 (rows d)
theorem rows_cl (k : Nat) (d : Array Txt) : closedLL k (rows d) = true := closedLL_map fun _x _ => rfl
theorem rows_ren (is : List Nat) (d : Array Txt) : renLL is (rows d) = rows d := by
  unfold rows
  induction d.toList with
  | nil => rfl
  | cons x r ih => rw [List.map_cons, renLL, ih, sRow_ren]
set_option maxRecDepth 20000 in
set_option maxHeartbeats 4000000 in
theorem insertion_c (d0 : Array Txt) (hn : d0.size ≤ 100000) (h0 : okP d0) :
    ACalls Tryz.prog 179 [.own 0 d0.size, .int .i64 0, .int .i64 d0.size, .fn (.func 62) [] []] [rgO d0] (.tup []) [rgO (insertionSort ltP d0 0 d0.size)] := by
  obtain ⟨n, hN⟩ : ∃ n, n = d0.size := ⟨_, rfl⟩
  rw [← hN] at hn ⊢
  refine acalls_F c179_ok rfl ?_
  unfold c179 rgO
  simp +decide -dsimp -implicitDefEqProofs [go_sem]
  refine loop_of (S := Nat × Array Txt) (fun s => ⟨tmps 53 [(0, .own 0 n), (1, .int .i64 0), (2, .int .i64 n), (3, .fn (.func 62) [] []), (8, .int .i64 s.1)], [.reg 9 1 (rows s.2)]⟩) (fun s => n - s.1)
    (fun s => 1 ≤ s.1 ∧ s.2.size = n ∧ okP s.2 ∧ insertionSort ltP d0 0 n = insOuter ltP 0 n s.1 s.2) (1, d0) ⟨by omega, hN.symm, h0, rfl⟩ (cut_of (by simp) ?_) ?_
  · simp +decide -dsimp -implicitDefEqProofs [go_sem]
    exact rows_cl _ _
  rintro ⟨i, d⟩ ⟨hi, hd, hok, hs⟩
  simp only at hi hd hok hs
  by_cases h : i < n
  · rw [insOuter, if_pos h] at hs
    have wi : IntKind.i64.wrap ((i : Int) + 1) = i + 1 := w64 (by omega) (by omega)
    simp +decide -dsimp -implicitDefEqProofs [go_sem, h]
    refine loop_of (S := Nat × Array Txt) (fun s => ⟨tmps 53 [(0, .own 0 n), (1, .int .i64 0), (2, .int .i64 n), (3, .fn (.func 62) [] []), (8, .int .i64 i), (9, .int .i64 s.1)], [.reg 9 1 (rows s.2)]⟩) (fun s => s.1)
      (fun s => s.1 ≤ i ∧ s.2.size = n ∧ okP s.2 ∧ insInner ltP 0 i d = insInner ltP 0 s.1 s.2) (i, d) ⟨Nat.le_refl _, hd, hok, rfl⟩ (cut_of (by simp) ?_) ?_
    · simp +decide -dsimp -implicitDefEqProofs [go_sem]
      exact rows_cl _ _
    rintro ⟨j, e⟩ ⟨hj, he, hoe, hse⟩
    simp only at hj he hoe hse
    obtain ⟨m, rfl⟩ | rfl : (∃ m, j = m + 1) ∨ j = 0 := by
      cases j with
      | zero => exact .inr rfl
      | succ m => exact .inl ⟨m, rfl⟩
    · have hle : (rows e).length = n := by rw [rows_len, he]
      have hm1 : m + 1 < n := by omega
      have hm : m < n := by omega
      have a1 : (rows e)[m + 1]'(by omega) = sRow e[m + 1]! := by have := rows_at (d := e) (j := m + 1) (by omega); rw [List.getElem?_eq_getElem (by omega)] at this; exact Option.some.inj this
      have a0 : (rows e)[m]'(by omega) = sRow e[m]! := by have := rows_at (d := e) (j := m) (by omega); rw [List.getElem?_eq_getElem (by omega)] at this; exact Option.some.inj this
      have hz : (0 : Int) ≤ (m : Int) + 1 := by omega
      have p1 := okP_at hoe (j := m + 1) (by omega)
      have p0 := okP_at hoe (j := m) (by omega)
      have cl := order_c _ _ p1 p0
      have w : IntKind.i64.wrap (m : Int) = (m : Int) := w64 (by omega) (by omega)
      have hsw : ((rows e).set (m + 1) (AV.str e[m]! :: (sRow e[m + 1]!).tail)).set m (AV.str e[m + 1]! :: (sRow e[m]!).tail) = rows (swp e (m + 1) m) := rows_swp e (m + 1) m
      have hso := okP_swp hoe (i := m + 1) (j := m) (by omega) (by omega)
      rw [insInner] at hse
      simp only [Nat.zero_lt_succ, decide_true, gt_iff_lt, Bool.true_and] at hse
      simp +decide -dsimp -implicitDefEqProofs [go_sem, w, hz, hle, hm, hm1, a0, a1]
      refine callDE_pure cl (by simp +decide -dsimp -implicitDefEqProofs [go_sem]) rfl ?_
      by_cases hlt : cmpP e[m + 1]! e[m]! < 0
      · rw [if_pos (by simpa [ltP] using hlt)] at hse
        simp +decide -dsimp -implicitDefEqProofs [go_sem, w, hz, hle, hm, hm1, a0, a1, sRow_len, hlt]
        rw [hsw]
        refine next_of (m, swp e (m + 1) m) ⟨by show m ≤ i; omega, by show (swp e (m + 1) m).size = n; rw [swp_size, he], hso, hse⟩ (Nat.lt_succ_self m) (cut_of (by simp) ?_)
        simp +decide -dsimp -implicitDefEqProofs [go_sem]
        exact rows_cl _ _
      · rw [if_neg (by simpa [ltP] using hlt)] at hse
        simp +decide -dsimp -implicitDefEqProofs [go_sem, hlt, wi]
        rw [hse] at hs
        refine next_of (i + 1, e) ⟨by show 1 ≤ i + 1; omega, he, hoe, hs⟩ (by show n - (i + 1) < n - i; omega) (cut_of (by simp) ?_)
        simp +decide -dsimp -implicitDefEqProofs [go_sem]
        exact rows_cl _ _
    · rw [insInner] at hse
      rw [hse] at hs
      simp +decide -dsimp -implicitDefEqProofs [go_sem, wi]
      refine next_of (i + 1, e) ⟨by show 1 ≤ i + 1; omega, he, hoe, hs⟩ (by show n - (i + 1) < n - i; omega) (cut_of (by simp) ?_)
      simp +decide -dsimp -implicitDefEqProofs [go_sem]
      exact rows_cl _ _
  · rw [insOuter, if_neg h] at hs
    rw [hs]
    simp +decide -dsimp -implicitDefEqProofs [go_sem, h]
    exact rows_cl _ _
theorem Len_c (n : Nat) (h : n ≤ 1000000) : ACalls Tryz.prog 76 [.int .u64 n] [] (.int .i64 (Go.Lib.bitLen n : Nat)) [] := by
  refine .of_below (by kernel_rfl) fun c vs hv hg => ?_
  simp only [Vals, Val] at hv
  obtain ⟨v, vs', rfl, rfl, rfl⟩ := hv
  refine (Tryz.bits_Len n c.w (by omega) (by omega)).mono fun e w' h => ?_
  obtain ⟨rfl, rfl⟩ := h
  exact ⟨_, rfl, Go.RowKit.Below.refl _ _, fun c' => by simp only [Val]; rw [Int.toNat_natCast]⟩
set_option maxRecDepth 20000 in
theorem pdq_c (d : Array Txt) (k : Int) (hn : d.size ≤ 12) (h0 : okP d) :
    ACalls Tryz.prog 138 [.own 0 d.size, .int .i64 0, .int .i64 d.size, .int .i64 k, .fn (.func 62) [] []] [rgO d] (.tup []) [rgO (insertionSort ltP d 0 d.size)] := by
  have ci := insertion_c d (by omega) h0
  obtain ⟨n, hN⟩ : ∃ n, n = d.size := ⟨_, rfl⟩
  rw [← hN] at hn ci ⊢
  have hle : (rows d).length = n := by rw [rows_len, hN]
  refine acalls_F c138_ok rfl ?_
  unfold c138
  unfold rgO at ci ⊢
  simp +decide -dsimp -implicitDefEqProofs [go_sem]
  refine loop_of (S := Unit) (fun _ => ⟨tmps 148 [(0, .own 0 n), (1, .int .i64 0), (2, .int .i64 n), (3, .int .i64 k), (4, .fn (.func 62) [] [])], [.reg 9 1 (rows d)]⟩) (fun _ => 0) (fun _ => True) () trivial (cut_of (by simp) ?_) ?_
  · simp +decide -dsimp -implicitDefEqProofs [go_sem]
    exact rows_cl _ _
  rintro _ _
  have w : IntKind.i64.wrap (n : Int) = n := w64 (by omega) (by omega)
  have hn' : (n : Int) ≤ 12 := by omega
  simp +decide -dsimp -implicitDefEqProofs [go_sem, hn', w]
  refine callE_frame [0] ci rfl rfl (by simp) (by simp +decide -dsimp -implicitDefEqProofs [go_sem]) (by simp +decide -dsimp -implicitDefEqProofs [go_sem, rows_ren]) ?_
  simp +decide -dsimp -implicitDefEqProofs [go_sem, rows_ren]
  exact rows_cl _ _
set_option maxRecDepth 20000 in
theorem SortFunc_c (d : Array Txt) (hn : d.size ≤ 12) (h0 : okP d) :
    ACalls Tryz.prog 98 [.own 0 d.size, .fn (.func 62) [] []] [rgO d] (.tup []) [rgO (insertionSort ltP d 0 d.size)] := by
  have w : IntKind.u64.wrap (d.size : Int) = d.size := w64u (by omega) (by omega)
  have cp := pdq_c d (Go.Lib.bitLen d.size : Nat) hn h0
  refine acalls_F c98_ok rfl ?_
  unfold c98
  unfold rgO at cp ⊢
  have hle : (rows d).length = d.size := rows_len d
  simp +decide -dsimp -implicitDefEqProofs [go_sem, w, hle]
  refine callE_pure (Len_c d.size (by omega)) rfl rfl ?_
  simp +decide -dsimp -implicitDefEqProofs [go_sem]
  refine callE_frame [0] cp rfl rfl (by simp) (by simp +decide -dsimp -implicitDefEqProofs [go_sem]) (by simp +decide -dsimp -implicitDefEqProofs [go_sem, rows_ren]) ?_
  simp +decide -dsimp -implicitDefEqProofs [go_sem, rows_ren]
  exact rows_cl _ _
end Go.Ab
namespace Go.Ab
open Go Go.Proofs Go.Sort Go.Shelf Go.RowKit
instance : Inhabited Lk := ⟨⟨[], [], []⟩⟩
def encLk (x : Lk) : List Value := [encStr x.name, encStr x.node, encStr x.path]
theorem enc_lk : Enc lkRow encLk 3 := by
  refine ⟨fun _ => rfl, fun _ => rfl, fun c x j a v hj => ?_, fun x v hv => ?_⟩
  · match j, hj with
    | 0, hj => simp only [lkRow, List.getElem?_cons_zero, Option.some.injEq] at hj; subst hj; simp only [Val, encLk, List.getElem?_cons_zero, Option.some.injEq]; exact ⟨fun h => h.symm, fun h => h.symm⟩
    | 1, hj => simp only [lkRow, List.getElem?_cons_succ, List.getElem?_cons_zero, Option.some.injEq] at hj; subst hj; simp only [Val, encLk, List.getElem?_cons_succ, List.getElem?_cons_zero, Option.some.injEq]; exact ⟨fun h => h.symm, fun h => h.symm⟩
    | 2, hj => simp only [lkRow, List.getElem?_cons_succ, List.getElem?_cons_zero, Option.some.injEq] at hj; subst hj; simp only [Val, encLk, List.getElem?_cons_succ, List.getElem?_cons_zero, Option.some.injEq]; exact ⟨fun h => h.symm, fun h => h.symm⟩
    | j + 3, hj => simp [lkRow] at hj
  · simp only [encLk, List.mem_cons, List.not_mem_nil, or_false] at hv
    rcases hv with rfl | rfl | rfl <;> rfl
def ltLk (a b : Lk) : Bool := decide (a.name < b.name)
theorem swo_ltLk : SWO ltLk where
  irrefl := fun a => by simp only [ltLk, decide_eq_false_iff_not]; exact List.lt_irrefl _
  trans := fun a b c h1 h2 => by simp only [ltLk, decide_eq_true_eq] at *; exact List.lt_trans h1 h2
  ntrans := fun a b c h1 h2 => by
    simp only [ltLk, decide_eq_false_iff_not, List.not_lt] at *
    exact List.le_trans h2 h1
set_option maxHeartbeats 2000000 in
theorem less53 (blk off c Bs size : Nat) (W : World) (G : Nat → Txt) (hs : W.cell? ⟨Bs, 0, none⟩ = some (.slice (some ⟨blk, off, none⟩) size c))
    (hc : ∀ t, t < size → W.cell? ⟨blk, off + t * 3, none⟩ = some (encStr (G t))) (i j : Nat) (hi : i < size) (hj : j < size) (_hsz : size < 4611686018427387904) :
    Calls Tryz.prog 82 #[.int .i64 i, .int .i64 j, .pointer (some ⟨Bs, 0, none⟩)] W fun e w' => e = .returned (.bool (decide (G i < G j))) ∧ ∃ q, w' = W.drewN q := by
  have ci := hc i hi
  have cj := hc j hj
  go_enter Tryz.func82, Tryz.ntmps82
  go_wp2
  go_quiet (fail)
  go_wp2
  go_ret
  refine ⟨?_, nq, rfl⟩
  rw [← bytesLess_eq]
  rfl
noncomputable def lkT : TypeInfo := (Tryz.prog.info? 45).get (by kernel_rfl)
noncomputable def lkE : TypeInfo := (Tryz.prog.info? 61).get (by kernel_rfl)
theorem lkK (n : Nat) (h2 : 2 ≤ n) : Lib.swapperK n lkE 25 = 9 := by
  have a : lkE.hasPointers = true := by kernel_rfl
  have b : lkE.bytes = 48 := by kernel_rfl
  have c : (n == 0) = false := by simp; omega
  have d : (n == 1) = false := by simp; omega
  simp [Lib.swapperK, a, b, c, d]
theorem bodied52 : bodied Tryz.prog 81 = true := by kernel_rfl
theorem perm_sorted {d d' : Array Lk} (h : PermIn 0 d.size d d') (hs : SortedIn ltLk 0 d.size d') : d'.toList.Perm d.toList ∧ d'.toList.Pairwise fun a b => ¬ b.name < a.name := by
  obtain ⟨hsz, _, hperm⟩ := h
  have e1 : d'.extract 0 d.size = d' := by rw [← hsz]; exact Array.extract_size
  rw [e1, Array.extract_size] at hperm
  refine ⟨hperm, ?_⟩
  rw [List.pairwise_iff_getElem]
  intro i j hi hj hij
  have hi' : i < d'.size := by simpa using hi
  have hj' : j < d'.size := by simpa using hj
  have h3 := hs i j (Nat.zero_le _) hij (by omega)
  rw [getElem!_pos d' j hj', getElem!_pos d' i hi'] at h3
  simpa [ltLk] using h3
def sortedLk (L : List Lk) (v : AV) (G : List AObj) : Prop := v = .tup [] ∧ ∃ S : List Lk, S.Perm L ∧ (S.Pairwise fun a b => ¬ b.name < a.name) ∧ G = [.box 45 [.own 1 L.length], .reg 61 3 (S.map lkRow)]
/-- sort.Slice of at most twelve links by their names. -/
theorem sortSlice_c (L : List Lk) (hl : L.length ≤ 12) : ACallsR Tryz.prog 81 [.ifv 45 (.own 1 L.length), .fn (.func 82) [] [.ptr 0 0]] [.box 45 [.own 1 L.length], .reg 61 3 (L.map lkRow)] (sortedLk L) := by
  refine ⟨bodied52, fun c vs hH hr hv => ?_⟩
  simp only [Vals] at hv
  obtain ⟨v0, vs', rfl, hv0, v1, vs'', rfl, hv1, rfl⟩ := hv
  have h0 : c.H[0]? = some (.box 45 [.own 1 L.length]) := by rw [hH]; rfl
  have h1 : c.H[1]? = some (.reg 61 3 (L.map lkRow)) := by rw [hH]; rfl
  unfold Val at hv0
  obtain ⟨x, rfl, hx⟩ := hv0
  obtain ⟨hm, hx⟩ := own_val hr h1 (by rw [List.length_map]; exact hx)
  unfold Val at hv1
  obtain ⟨vf, vc, rfl, hvf, hvc⟩ := hv1
  simp only [Vals] at hvf hvc
  obtain ⟨p, _, hvc, hp, rfl⟩ := hvc
  unfold Val at hp
  obtain ⟨e0, cs0, B, g1, g2, rfl⟩ := hp
  have hvf' : vf = #[] := by rw [← Array.toList_inj, hvf]
  have hvc' : vc = #[.pointer (some ⟨B, 0, none⟩)] := by rw [← Array.toList_inj, hvc]
  subst hvf' hvc'
  by_cases h2 : 2 ≤ L.length
  rotate_left
  · -- none or one
    have hf : ∃ f, Tryz.prog.funcs.findIdx? (·.name == "internal/reflectlite" ++ ".Swapper$" ++ toString (Lib.swapperK L.length lkE 25)) = some f := by
      rcases (show L.length = 0 ∨ L.length = 1 by omega) with h | h
      · exact ⟨159, by rw [h]; kernel_rfl⟩
      · exact ⟨160, by rw [h]; kernel_rfl⟩
    obtain ⟨f, hf⟩ := hf
    have hxs : ∃ p cp, x = .slice p L.length cp := by
      rcases hx with ⟨rfl, h⟩ | ⟨g, cap, cur, rfl, _⟩
      · have : L.length = 0 := by have := congrArg List.length h; simpa using this
        exact ⟨_, _, by rw [this]⟩
      · rw [List.length_map]; exact ⟨_, _, rfl⟩
    obtain ⟨p, cp, rfl⟩ := hxs
    refine (Any.sort_Slice_tiny Tryz.laysGg6 45 61 lkT lkE (by kernel_rfl) (by kernel_rfl) (by kernel_rfl) (by kernel_rfl) 25 (fun _ => by kernel_rfl) p L.length cp (by omega) f hf (.func 82) #[] #[.pointer (some ⟨B, 0, none⟩)] c.w).mono fun e w' ⟨he, os, hw⟩ => ?_
    subst he
    have hsz : (c.w.heap ++ os).size = c.w.heap.size + os.size := Array.size_append
    obtain ⟨r1, e1⟩ := rel_grow hr (F' := c.F) (w' := w') (fun _ h => h) (fun _ h => .inl h) (fun b hb => by rw [hw]; exact Array.getElem?_append_left hb) (by rw [hw]; show c.w.heap.size ≤ (c.w.heap ++ os).size; omega) (by rw [hw]; rfl) (by rw [hw]; rfl) (by rw [hw]; rfl)
    refine ⟨_, ⟨c.F, c.μ, c.H, w'⟩, .tup [], rfl, rfl, ⟨rfl, L, .refl _, ?_, hH⟩, r1, e1, by simp [Val, Vals]⟩
    match L, h2 with
    | [], _ => exact .nil
    | [x], _ => simp
    | _ :: _ :: _, h2 => simp at h2
  · rcases hx with ⟨_, h⟩ | ⟨g, cap, cur, rfl, h7, h8, h11⟩
    · have : L.length = 0 := by have := congrArg List.length h; simpa using this
      omega
    rw [List.length_map] at h8 hm ⊢
    have hlt : g < c.w.heap.size := (Array.getElem?_eq_some_iff.1 h7).1
    have hh := rows_holds enc_lk h7 h11
    obtain ⟨b', arr, hm0, hb0, has, hcells⟩ := hr.obj 0 _ h0
    rw [g2] at hm0
    simp only [Option.some.injEq, Value.pointer.injEq, Addr.mk.injEq, and_true] at hm0
    subst hm0
    obtain ⟨⟨vm, hcell, _, hvm⟩, _⟩ := hcells
    obtain ⟨hm2, _⟩ := own_val hr h1 (by rw [List.length_map]; exact hvm)
    rw [hm] at hm2
    simp only [Option.some.injEq] at hm2
    subst hm2
    have hB1 : B < c.w.heap.size := (Array.getElem?_eq_some_iff.1 hb0).1
    have hB2 : B ≠ g := fun e => by
      have := hr.inj 0 1 B ⟨_, _, h0, rfl, g2, rfl⟩ ⟨_, _, h1, rfl, hm, by rw [e]; rfl⟩
      cases this
    have hless : LessReadsK Tryz.prog 82 #[.pointer (some ⟨B, 0, none⟩)] encLk 3 ltLk g 0 L.toArray.size c.w := by
      intro m os dk hs i j hi hj
      have e : sortWorldK encLk 3 c.w g 0 m dk os = putRowK encLk 3 (grow (Sort.ahead c.w m) os) g 0 dk := by
        unfold sortWorldK; rw [putRowK_grow _ _ (Sort.ahead c.w m) _ g 0 _ hlt]
      have hHg : HoldsK encLk 3 (grow (Sort.ahead c.w m) os) g 0 L.toArray := holdsK_grow _ _ _ _ g 0 L.toArray hlt (holdsK_ahead _ _ _ _ _ _ _ hh)
      refine less53 g 0 cap B L.toArray.size _ (fun t => dk[t]!.name) ?_ (fun t ht => ?_) i j hi hj (by simp; omega)
      · rw [e, cell?_putRowK_other _ _ _ g 0 dk _ (by exact hB2), cell?_grow _ _ _ (by exact hB1)]
        simpa using hcell
      · rw [e]; exact ((holdsK_putRowK _ _ _ g 0 L.toArray dk hHg hs).cell (i := t) (c := 0) (by omega) (by omega)).1
    have key := Any.sort_Slice_small_cells_sorted Tryz.laysGg6 45 61 lkT lkE (by kernel_rfl) (by kernel_rfl) (by kernel_rfl) (by kernel_rfl) 25 (fun _ => by kernel_rfl) encLk 3 (fun _ => rfl) (by kernel_rfl) (fun _ => by kernel_rfl)
      (fun x v hv => enc_lk.o x v hv) ltLk swo_ltLk 82 #[.pointer (some ⟨B, 0, none⟩)] (enters_of Tryz.func82 (by kernel_rfl) rfl) g 0 cap L.toArray (by simpa using h2) (by simpa using hl) 167 (by rw [lkK _ (by simpa using h2)]; kernel_rfl) false
      (fun args W => run_callFunc_extern Tryz.func167 (by kernel_rfl) (by kernel_rfl) (by kernel_rfl) (e := Extern.ReflectliteSwapper.swap false) (by kernel_rfl) args W) c.w hless hh hlt
    have key2 : Calls Tryz.prog 81 #[.iface 45 (.slice (some ⟨g, 0, none⟩) L.length cap), .func (.func 82) #[] #[.pointer (some ⟨B, 0, none⟩)]] c.w _ := key
    refine key2.mono fun e w' ⟨he, d', n, os, hp, hs, hw⟩ => ?_
    subst he
    have hd : d'.size = L.length := by simpa using hp.1
    obtain ⟨r1, e1⟩ := inplace enc_lk hr h1 hm hd hw
    obtain ⟨k1, k2⟩ := perm_sorted hp hs
    refine ⟨_, _, .tup [], rfl, rfl, ⟨rfl, d'.toList, by simpa using k1, k2, ?_⟩, r1, e1, by simp [Val, Vals]⟩
    show c.H.set 1 _ = _
    rw [hH]; rfl
end Go.Ab
namespace Go.Ab
open Go Go.RowKit Go.Maps Go.Sort Go.Proofs
variable {β : Type}
def ksS (m : SMap β) : List (List UInt8) := m.filterMap (fun o => o.map (·.1))
def srtK (l : List (List UInt8)) : List (List UInt8) := l.mergeSort leB
theorem mem_ksS {m : SMap β} {k : List UInt8} (h : oneS' m) : k ∈ ksS m ↔ (getS k m).isSome = true := by
  induction m with
  | nil => simp [ksS, getS]
  | cons o r ih =>
    cases o with
    | none => simpa [ksS, getS] using ih (by simpa [oneS'] using h)
    | some p =>
      have hr := ih (by simp only [oneS'] at h; exact h.2)
      simp only [ksS, getS, List.filterMap_cons, Option.map_some, List.mem_cons] at hr ⊢
      by_cases e : p.1 = k
      · rw [if_pos e]; exact ⟨fun _ => rfl, fun _ => .inl e.symm⟩
      · rw [if_neg e, ← hr]
        exact ⟨fun h => h.resolve_left fun h => e h.symm, .inr⟩
theorem ksS_nodup : ∀ {m : SMap β}, oneS' m → (ksS m).Nodup
  | [], _ => by simp [ksS]
  | none :: r, h => by simpa [ksS] using ksS_nodup (m := r) h
  | some p :: r, h => by
    simp only [oneS'] at h
    have hr := ksS_nodup h.2
    simp only [ksS, List.filterMap_cons, Option.map_some, List.nodup_cons] at hr ⊢
    refine ⟨fun hm => ?_, hr⟩
    have := (mem_ksS h.2).1 (by simpa [ksS] using hm)
    rw [h.1] at this; cases this
theorem ksS_len : ∀ m : SMap β, (ksS m).length = cntS m
  | [] => rfl
  | none :: r => by simpa [ksS, cntS] using ksS_len r
  | some p :: r => by have := ksS_len r; simp only [ksS, List.filterMap_cons, Option.map_some, List.length_cons, cntS] at this ⊢; rw [this]
theorem srtK_eq {l l' : List (List UInt8)} (h : l.Perm l') : srtK l = srtK l' := mergeSort_of_perm h
theorem srtK_len (l : List (List UInt8)) : (srtK l).length = l.length := by simp [srtK]
theorem srtK_mem {l : List (List UInt8)} {k : List UInt8} : k ∈ srtK l ↔ k ∈ l := by simp [srtK]
/-- Two maps that answer alike have the same sorted keys. -/
theorem srtK_ext {m m' : SMap β} (h : oneS' m) (h' : oneS' m') (he : ∀ k, getS k m = getS k m') : srtK (ksS m) = srtK (ksS m') :=
  srtK_eq ((List.perm_ext_iff_of_nodup (ksS_nodup h) (ksS_nodup h')).2 fun k => by rw [mem_ksS h, mem_ksS h', he])
theorem Kvs_smK {c : Cx} {f : β → AV} : ∀ {m : SMap β} {n : Nat} {es : List MapEntry}, Kvs c (smK f m) n es → es.map (·.key) = (ksS m).map encStr ∧ (∀ e ∈ es, n ≤ e.born ∧ e.born < n + m.length) ∧ (es.map (·.born)).Nodup
  | [], n, es, h => by simp only [smK, List.map_nil, Kvs] at h; subst h; simp [ksS]
  | none :: r, n, es, h => by
    simp only [smK, List.map_cons, kvRow, Kvs, isGap, if_true] at h
    obtain ⟨h1, h2, h3⟩ := Kvs_smK (m := r) h
    refine ⟨by simpa [ksS] using h1, fun e he => ?_, h3⟩
    have := h2 e he
    simp only [List.length_cons]; omega
  | some p :: r, n, es, h => by
    simp only [smK, List.map_cons, kvRow, Kvs, isGap, Bool.false_eq_true, if_false] at h
    obtain ⟨e, es', rfl, hk, _, hb, hr⟩ := h
    obtain ⟨h1, h2, h3⟩ := Kvs_smK (m := r) hr
    simp only [Val] at hk
    refine ⟨?_, fun x hx => ?_, ?_⟩
    · simp only [ksS, List.map_cons, List.filterMap_cons, Option.map_some] at h1 ⊢
      rw [h1, hk]
      try rfl
    · simp only [List.mem_cons] at hx
      simp only [List.length_cons]
      rcases hx with rfl | hx
      · omega
      · have := h2 x hx; omega
    · simp only [List.map_cons, List.nodup_cons, h3, and_true, List.mem_map, not_exists, not_and]
      intro x hx hxb
      have := h2 x hx; omega
/-- A new row of one cell an element. -/
theorem reg_born {c : Cx} {w' : World} {v : Value} {e n : Nat} {ss : List (List UInt8)} (h : w'.ownsRow c.w.heap.size e 1 v n (ss.map encStr)) (hn : ss.length = n) :
    ∀ c' : Cx, c'.w = w' → c'.μ[c.H.length]? = some v → ObjOk c' c.H.length (.reg e 1 (ss.map fun k => [.str k])) := by
  intro c' hw hm
  subst hw
  refine ⟨v, hm, ?_⟩
  rcases h.2 with ⟨rfl, h0⟩ | ⟨g, cap, cur, rfl, _, hg, h1, h2, h3, h4⟩
  · refine .inl ⟨rfl, ?_⟩
    have : ss = [] := List.eq_nil_of_length_eq_zero (by omega)
    subst this; rfl
  · refine .inr ⟨g, cap, cur, by simp [hn], hg, by simp [hn, h1], h2, by omega, ?_⟩
    have key : ∀ (l : List (List UInt8)) (off : Nat), (∀ j s, l[j]? = some s → cur[off + j]? = some (encStr s)) → RowsAt c' (l.map fun k => [AV.str k]) g off 1 := by
      intro l
      induction l with
      | nil => intro off _; simp [RowsAt]
      | cons s r ih =>
        intro off hc
        simp only [List.map_cons, RowsAt]
        refine ⟨rfl, ?_, ih (off + 1) fun j x hj => ?_⟩
        · simp only [Cells, and_true]
          refine ⟨encStr s, ?_, by simp [Value.oneCell'], by simp [Val, encStr]⟩
          have := hc 0 s rfl
          simp only [Nat.add_zero] at this
          simp [World.cell?, hg, this]
        · have := hc (j + 1) x (by simpa using hj)
          rw [← this]; congr 1; omega
    refine key ss 0 fun j s hj => ?_
    have hj2 : (cur.toList.take (n * 1))[j]? = some (encStr s) := by rw [h4, List.getElem?_map, hj]; rfl
    have hjl : j < n * 1 := by have := (List.getElem?_eq_some_iff.1 hj).1; omega
    rw [List.getElem?_take_of_lt hjl] at hj2
    simpa using hj2
/-- How a value reads does not matter here. -/
def noR (_ : Value) : Option (DataW Unit × List MemPlace) := some (.nil, [])
theorem ownsMap_smK {c : Cx} {f : β → AV} {m : SMap β} {P : Program} {k r : Nat} {es : Array MapEntry} (hP : P.underlying k = some .string) (h1 : oneS' m) (hl : ∀ x ∈ ksS m, x.length ≤ maxLen) (hn : m.length ≤ 1000000)
    (hh : c.w.heap[r]? = some (.map es m.length)) (hk : Kvs c (smK f m) 0 es.toList) :
    ∃ D0 : DataW Unit, c.w.ownsMap P k noR r m.length D0 ∧ (strKeys D0).Perm (ksS m) ∧ Maps.size D0 ≤ 1000000 := by
  obtain ⟨g1, g2, g3⟩ := Kvs_smK hk
  have hlen : es.size ≤ m.length := by
    have : (es.toList.map (·.key)).length = (ksS m).length := by rw [g1]; simp
    have h2 : (ksS m).length ≤ m.length := List.length_filterMap_le _ _
    simp only [List.length_map, Array.length_toList] at this; omega
  have hkey : ∀ x ∈ es.toList, ∃ s ∈ ksS m, x.key = encStr s := fun x hx => by
    have : x.key ∈ es.toList.map (·.key) := List.mem_map.2 ⟨x, hx, rfl⟩
    rw [g1] at this
    obtain ⟨s, hs, e⟩ := List.mem_map.1 this
    exact ⟨s, hs, e.symm⟩
  have hrd : ∀ x ∈ es.toList, ∀ s, x.key = encStr s → s ∈ ksS m → Go.WideElems.rd P k noR x = some (.string s, .nil) := fun x _ s e hs => by
    have := hl s hs
    simp [Go.WideElems.rd, e, keyOf, hP, mapKey, encStr, noR, ByteArray.size, this]
  refine ⟨_, ⟨es, m.length, hh, ⟨?_, ⟨?_, g3, ?_⟩, ?_⟩, hlen, rfl⟩, ?_, ?_⟩
  · exact Nat.le_trans (Nat.le_trans hlen hn) (by decide)
  · intro x hx; have := (g2 x hx).2; omega
  · rw [g1]
    exact (List.pairwise_map.2 ((ksS_nodup h1).imp fun hne e => hne (encStr_inj e)))
  · intro x hx
    obtain ⟨s, hs, e⟩ := hkey x hx
    exact ⟨_, hrd x hx s e hs⟩
  · show (((es.toList.map (Go.WideElems.rg P k noR)).foldr DataW.insert []).map fun p => strOf p.1).Perm _
    refine ((Go.WideShapes.sorted_perm _).map _).trans (List.Perm.of_eq ?_)
    have hmap : ∀ x ∈ es.toList, ((fun p : Lit × DataW Unit => encStr (strOf p.1)) ∘ Go.WideElems.rg P k noR) x = x.key := fun x hx => by
      obtain ⟨s, hs, e⟩ := hkey x hx
      simp [Go.WideElems.rg, hrd x hx s e hs, strOf, e]
    have he : (((es.toList.map (Go.WideElems.rg P k noR)).map fun p => strOf p.1).map encStr) = (ksS m).map encStr := by
      rw [List.map_map, List.map_map, ← g1]
      exact List.map_congr_left hmap
    exact (List.map_inj_right fun a b => encStr_inj).1 he
  · show ((es.toList.map (Go.WideElems.rg P k noR)).foldr DataW.insert []).length ≤ _
    rw [length_sorted]; simp; omega
variable [Glob]
theorem rel_born {c : Cx} (hr : Rel c) {x' : AObj} {v' : Value} {w' : World} (hk : Below c.w.heap.size c.w w') (hb : ∀ b, blk v' = some b → c.w.heap.size ≤ b)
    (hok : ∀ c' : Cx, c'.w = w' → c'.μ[c.H.length]? = some v' → ObjOk c' c.H.length x') :
    Rel ⟨c.F, c.μ ++ [v'], c.H ++ [x'], w'⟩ ∧ Ext c ⟨c.F, c.μ ++ [v'], c.H ++ [x'], w'⟩ := by
  obtain ⟨r1, e1⟩ := rel_push hr
  have hs1 : (c.H ++ [AObj.unborn]).set c.H.length x' = c.H ++ [x'] := by simp
  have hs2 : (c.μ ++ [Value.pointer none]).set c.H.length v' = c.μ ++ [v'] := by rw [← hr.len]; simp
  have hU := rel_upd (c := { c with μ := c.μ ++ [.pointer none], H := c.H ++ [.unborn] }) r1 (o := c.H.length) (x := .unborn) (x' := x') (v' := v') (F' := c.F) (w' := w') (by simp) (by simp [OStep]) (fun _ h => h) (fun _ h => .inl h)
    (fun b h _ => hk.block b h) hk.size hk.os hk.tape hk.output (fun b _ h => .inl (hb b h)) (fun _ => hok _ rfl (by rw [hs2, ← hr.len]; simp))
  rw [hs1, hs2] at hU
  exact ⟨hU.1, e1.trans hU.2⟩
end Go.Ab
namespace Go.Ab
open Go Go.Proofs Go.RowKit Go.Maps Go.Sort Go.Shelf
section
variable {β : Type}
set_option maxRecDepth 20000 in
theorem keys_c (f : β → AV) (m : SMap β) : ACallsR Tryz.prog 61 [.map 0] [.map (smK f m)] (fun v G => v = .fn (.func 99) [] [.ptr 1 0] ∧ G = [.map (smK f m), .box 96 [.map 0]]) := by
  refine acalls_W _ c61_ok ?_
  unfold c61
  simp +decide -dsimp -implicitDefEqProofs [go_sem]
  refine endW_of _ _ (.refl _ _) ?_
  simp +decide -dsimp -implicitDefEqProofs [go_sem, packR]
def colR (f : β → AV) (m : SMap β) (v : AV) (G : List AObj) : Prop := ∃ ks : List Txt, ks.Perm (ksS m) ∧ v = .own 2 ks.length ∧ G = [.map (smK f m), .box 96 [.map 0], .reg 9 1 (ks.map sRow)]
theorem collect_c (f : β → AV) (m : SMap β) (h1 : oneS' m) (hl : ∀ x ∈ ksS m, x.length ≤ maxLen) (hn : m.length ≤ 1000000) :
    ACallsR Tryz.prog 97 [.fn (.func 99) [] [.ptr 1 0]] [.map (smK f m), .box 96 [.map 0]] (colR f m) := by
  refine ⟨by kernel_rfl, fun c vs hH hr hv => ?_⟩
  obtain ⟨v0, _, rfl, hv0, rfl⟩ := hv
  obtain ⟨vf, vc, rfl, hvf, hvc⟩ := hv0
  have hvf' : vf = #[] := by simpa [Vals] using hvf
  subst hvf'
  simp only [Vals] at hvc
  obtain ⟨vp, _, hvc, hp, rfl⟩ := hvc
  obtain ⟨e, cs, b, h1b, hmu1, rfl⟩ := hp
  have hvc' : vc = #[.pointer (some ⟨b, 0, none⟩)] := by rw [← Array.toList_inj, hvc]
  subst hvc'
  have hH0 : c.H[0]? = some (.map (smK f m)) := by rw [hH]; rfl
  have hH1 : c.H[1]? = some (.box 96 [.map 0]) := by rw [hH]; rfl
  obtain ⟨b', arr, hm1, hb, has, hcells⟩ := hr.obj 1 _ hH1
  rw [hmu1] at hm1
  simp only [Option.some.injEq, Value.pointer.injEq, Addr.mk.injEq, and_true] at hm1
  subst hm1
  obtain ⟨⟨vm, hcell, _, hvm⟩, _⟩ := hcells
  obtain ⟨kvs, r, _, hmu0, rfl⟩ := hvm
  obtain ⟨r', es, hm0, hheap, hkvs⟩ := hr.obj 0 _ hH0
  rw [hmu0] at hm0
  simp only [Option.some.injEq, Value.map.injEq] at hm0
  subst hm0
  rw [length_smK] at hheap
  obtain ⟨D0, hown, hperm, hsz⟩ := ownsMap_smK (P := Tryz.prog) (k := 9) Tryz.underlying9 h1 hl hn hheap hkvs
  have hblt : b < c.w.heap.size := (Array.getElem?_eq_some_iff.1 hb).1
  have hseq : SeqGives Fence.wide 3 Tryz.prog 99 #[.pointer (some ⟨b, 0, none⟩)] encStr (fun ss => ss.Perm (strKeys D0)) (Maps.size D0) c.w :=
    AnyZ.keys_gives (ρ := Tryz.keys42_ren) { Tryz.keys42 with } Fence.wide _ trivial rfl (by omega) b r m.length D0 _ hblt hcell hown
  have hk := callsIn_wide.1 (AnyZ.collect_in Tryz.collect70 Fence.wide 5 trivial trivial rfl (by omega) 99 #[.pointer (some ⟨b, 0, none⟩)] trivial (enters_of Tryz.func99 (by kernel_rfl) rfl) _ _ (Nat.le_trans hsz (by decide)) (by omega) _ hseq)
  refine hk.mono fun e w' hq => ?_
  obtain ⟨v, ss, rfl, hS, hrow, _, hbel⟩ := hq
  obtain ⟨r1, e1⟩ := rel_born hr hbel (v' := v) (x' := .reg 9 1 (ss.map fun k => [.str k])) (fun q hq => by
    rcases hrow.2 with ⟨rfl, _⟩ | ⟨g, cap, cur, rfl, hg, _⟩
    · cases hq
    · cases hq; exact hg) (fun c' hw hm => reg_born hrow rfl c' hw hm)
  refine ⟨v, _, .own 2 ss.length, rfl, rfl, ⟨ss, hS.trans hperm, rfl, by rw [hH]; rfl⟩, r1, e1, ?_⟩
  have hl2 : c.H.length = 2 := by rw [hH]; rfl
  have hm2 : c.μ.length = 2 := by rw [hr.len, hl2]
  simp only [Val]
  refine ⟨?_, .inl ⟨9, 1, ss.map fun k => [.str k], ?_, Nat.le_of_eq (by rw [List.length_map]), fun _ => ?_⟩⟩
  · rcases hrow.2 with ⟨rfl, _⟩ | ⟨g, cap, cur, rfl, _⟩
    · exact ⟨_, _, _, rfl⟩
    · exact ⟨_, _, _, rfl⟩
  · show (c.H ++ _)[2]? = _
    rw [← hl2]; simp
  · show (c.μ ++ _)[2]? = _
    rw [← hm2]; simp
theorem paths_asc {d : Array Txt} (h0 : okP d) (hn : d.toList.Nodup) : (insertionSort ltP d 0 d.size).toList.Perm d.toList ∧ (insertionSort ltP d 0 d.size).toList.Pairwise fun a b => ltP a b = true := by
  obtain ⟨⟨hsz, _, hperm⟩, hs⟩ := insertionSort_holds swo_ltP d 0 d.size (Nat.zero_le _) (Nat.le_refl _)
  generalize insertionSort ltP d 0 d.size = d' at *
  have e1 : d'.extract 0 d.size = d' := by rw [← hsz]; exact Array.extract_size
  rw [e1, Array.extract_size] at hperm
  refine ⟨hperm, ?_⟩
  have hn' : d'.toList.Nodup := hperm.nodup_iff.2 hn
  unfold List.Nodup at hn'
  rw [List.pairwise_iff_getElem] at hn' ⊢
  intro i j hi hj hij
  have hi' : i < d'.size := by simpa using hi
  have hj' : j < d'.size := by simpa using hj
  have h3 := hs i j (Nat.zero_le _) hij (by omega)
  rw [getElem!_pos d' j hj', getElem!_pos d' i hi'] at h3
  have hne := hn' i j hi hj hij
  simp only [Array.getElem_toList] at hne ⊢
  have hm : ∀ (k : Nat) (hk : k < d'.size), placeB d'[k] = true := fun k hk => h0 _ (hperm.mem_iff.1 (by simp))
  cases h4 : ltP d'[i] d'[j] with
  | true => rfl
  | false => exact absurd (cmpP_ntot (hm i hi') (hm j hj') (by simpa [ltP] using h4) (by simpa [ltP] using h3)) hne
def sfR (f : β → AV) (m : SMap β) (v : AV) (G : List AObj) : Prop := ∃ ks : List Txt, ks.Perm (ksS m) ∧ (ks.Pairwise fun a b => ltP a b = true) ∧ v = .own 2 ks.length ∧ G = [.map (smK f m), .box 96 [.map 0], .reg 9 1 (ks.map sRow)]
set_option maxRecDepth 20000 in
theorem sortedF_c (f : β → AV) (hf : ∀ k x, closed k (f x) = true) (hfr : ∀ is x, ren is (f x) = f x) (m : SMap β) (h1 : oneS' m) (hp : ∀ x ∈ ksS m, placeB x = true) (hn : (ksS m).length ≤ 12) (hm : m.length ≤ 1000000) :
    ACallsR Tryz.prog 60 [.fn (.func 99) [] [.ptr 1 0], .fn (.func 62) [] []] [.map (smK f m), .box 96 [.map 0]] (sfR f m) := by
  have hsc : ∀ (m : SMap β) (k : Nat) (a b : AV), (a, b) ∈ smK f m → closed k a = true ∧ closed k b = true := fun m k => smK_clm (k := k) (hf k)
  have hsr : ∀ is, renKv is (smK f m) = smK f m := fun is => smK_ren is f (hfr is) m
  refine acalls_W _ c60_ok ?_
  unfold c60
  simp +decide -dsimp -implicitDefEqProofs [go_sem]
  refine callE_grow [0, 1] 1 (collect_c f m h1 (fun x hx => Nat.le_trans (path_small (hp x hx)) (by decide)) hm) rfl (fun v G ⟨_, _, _, hG⟩ => by rw [hG]; rfl) (by simp +decide) (by simp +decide -dsimp -implicitDefEqProofs [go_sem]) (by simp +decide -dsimp -implicitDefEqProofs [go_sem, hsr]) ?_
  rintro _ _ ⟨ks, hk, rfl, rfl⟩
  have hd0 : okP ks.toArray := fun x hx => hp x (hk.mem_iff.1 (by simpa using hx))
  have hnd : ks.Nodup := hk.nodup_iff.2 (ksS_nodup h1)
  have hkl := hk.length_eq
  have cs := SortFunc_c ks.toArray (by simp; omega) hd0
  obtain ⟨q1, q2⟩ := paths_asc hd0 (by simpa using hnd)
  generalize insertionSort ltP ks.toArray 0 ks.toArray.size = d' at cs q1 q2
  have hl2 : d'.toList.length = ks.length := by simpa using q1.length_eq
  unfold rgO rows at cs
  simp only [List.size_toArray] at cs
  simp +decide -dsimp -implicitDefEqProofs [go_sem, hsr]
  refine callE_frame [2] cs rfl rfl (by simp) (by simp +decide -dsimp -implicitDefEqProofs [go_sem]) (by simp +decide -dsimp -implicitDefEqProofs [go_sem]) ?_
  simp +decide -dsimp -implicitDefEqProofs [go_sem]
  refine endW_of _ _ (.refl _ _) ?_
  simp +decide -dsimp -implicitDefEqProofs [go_sem, packR]
  exact ⟨d'.toList, by simpa using q1.trans (by simpa using hk), q2, by rw [hl2], rfl⟩
end
end Go.Ab
namespace Go.Ab
open Go Go.Proofs Go.Sort
theorem cmpB_eq : ∀ (a b : List UInt8), Lib.compareBytes a b = cmpS a b
  | [], [] => by simp [Lib.compareBytes, cmpS]
  | [], _ :: _ => by simp [Lib.compareBytes, cmpS]
  | _ :: _, [] => by simp [Lib.compareBytes, cmpS]
  | a :: r, b :: s => by
    rw [Lib.compareBytes, cmpB_eq r s]
    unfold cmpS
    simp only [List.cons_lt_cons_iff]
    by_cases h : a < b
    · simp [h]
    · by_cases h2 : b < a
      · have h3 : a ≠ b := fun e => by subst e; exact h h2
        simp [h, h2, h3]
      · have h3 : a = b := UInt8.le_antisymm (UInt8.not_lt.1 h2) (UInt8.not_lt.1 h)
        subst h3
        simp [h]
theorem sCompare_c (a b : List UInt8) : ACalls Tryz.prog 107 [.str a, .str b] [] (.int .i64 (cmpS a b)) [] := by
  refine .of_below (by kernel_rfl) fun cx vs hv hg => ?_
  simp only [Vals, Val] at hv
  obtain ⟨v, vs', rfl, rfl, v2, vs2, rfl, rfl, rfl⟩ := hv
  refine (Tryz.strings_Compare _ _ cx.w).mono fun e w' hq => ?_
  obtain ⟨rfl, rfl⟩ := hq
  exact ⟨_, rfl, Go.RowKit.Below.refl _ _, fun c' => by simp only [Val]; rw [cmpB_eq]⟩
set_option maxRecDepth 20000 in
theorem rCompare_c (l m : List (List UInt8)) (hl : l.length < 1000000) (_hm : m.length < 1000000) : ACalls Tryz.prog 66 [.imm (l.map sRow), .imm (m.map sRow)] [] (.int .i64 (cmpL l m)) [] := by
  refine acalls_F c66_ok rfl ?_
  unfold c66
  simp +decide -dsimp -implicitDefEqProofs [go_sem]
  refine loop_of (S := Nat) (fun i => ⟨tmps 48 [(0, .imm (l.map sRow)), (1, .imm (m.map sRow)), (5, .int .i64 i)], []⟩) (fun i => l.length - i)
    (fun i => i ≤ l.length ∧ i ≤ m.length ∧ cmpL l m = cmpL (l.drop i) (m.drop i)) 0 (by simp) (cut_of (by simp) ?_) ?_
  · simp +decide -dsimp -implicitDefEqProofs [go_sem]
  rintro i ⟨hi, hj, hc⟩
  by_cases h : i < l.length
  · have hdl : l.drop i = l[i] :: l.drop (i + 1) := List.drop_eq_getElem_cons h
    have w : IntKind.i64.wrap ((i : Int) + 1) = i + 1 := w64 (by omega) (by omega)
    by_cases h2 : i < m.length
    · have hdm : m.drop i = m[i] :: m.drop (i + 1) := List.drop_eq_getElem_cons h2
      rw [hdl, hdm, cmpL] at hc
      have cs := sCompare_c l[i] m[i]
      by_cases he : l[i] = m[i]
      · rw [if_pos ((cmpS_eq _ _).2 he)] at hc
        simp +decide -dsimp -implicitDefEqProofs [go_sem, h, h2, he, w]
        refine next_of (i + 1) ⟨by omega, by omega, hc⟩ (by show l.length - (i + 1) < l.length - i; omega) (cut_of (by simp) ?_)
        simp +decide -dsimp -implicitDefEqProofs [go_sem]
      · rw [if_neg (fun e => he ((cmpS_eq _ _).1 e))] at hc
        simp +decide -dsimp -implicitDefEqProofs [go_sem, h, h2, he]
        refine callDE_pure cs rfl rfl ?_
        simp +decide -dsimp -implicitDefEqProofs [go_sem, hc]
    · have h3 : m.length ≤ i := by omega
      have hdm : m.drop i = [] := List.drop_eq_nil_of_le h3
      rw [hdl, hdm, cmpL] at hc
      have e1 : ¬ l.length < m.length := by omega
      have e2 : m.length < l.length := by omega
      simp +decide -dsimp -implicitDefEqProofs [go_sem, h, h2, hc, e1, e2]
  · have e : i = l.length := by omega
    rw [List.drop_eq_nil_of_le (show l.length ≤ i by omega)] at hc
    by_cases h2 : l.length < m.length
    · have hdm : m.drop i = m[l.length] :: m.drop (l.length + 1) := by rw [e]; exact List.drop_eq_getElem_cons h2
      rw [hdm, cmpL] at hc
      simp +decide -dsimp -implicitDefEqProofs [go_sem, h, h2, hc]
    · have hdm : m.drop i = [] := List.drop_eq_nil_of_le (by omega)
      rw [hdm, cmpL] at hc
      have e2 : ¬ m.length < l.length := by omega
      simp +decide -dsimp -implicitDefEqProofs [go_sem, h, h2, hc, e2]
theorem place_split {p : List UInt8} (h : placeB p = true) : splitL p 47 = [] :: compsP p := by
  obtain ⟨h1, _⟩ := comps_some h
  cases p with
  | nil => cases h1
  | cons c r =>
    simp only [pathL] at h1
    split at h1
    · rename_i h2
      obtain ⟨rfl, _⟩ := h2
      simp only [Option.some.injEq] at h1
      rw [splitL_eq] at h1 ⊢
      rw [← h1]
      simp [splitC]
    · cases h1
theorem Order_c (a b : List UInt8) (ha : placeB a = true) (hb : placeB b = true) : ACalls Tryz.prog 129 [.str a, .str b] [] (.int .i64 (cmpP a b)) [] := by
  obtain ⟨ea, la⟩ := comps_some ha
  obtain ⟨eb, lb⟩ := comps_some hb
  have ca := Split_c a 47 (by have := path_small ha; omega)
  have cb := Split_c b 47 (by have := path_small hb; omega)
  rw [place_split ha] at ca
  rw [place_split hb] at cb
  have cc := rCompare_c ([] :: compsP a) ([] :: compsP b) (by simp; omega) (by simp; omega)
  have e : cmpL ([] :: compsP a) ([] :: compsP b) = cmpP a b := by
    rw [cmpL, if_pos ((cmpS_eq _ _).2 rfl)]; rfl
  rw [e] at cc
  refine acalls_F c129_ok rfl ?_
  unfold c129
  simp +decide -dsimp -implicitDefEqProofs [go_sem]
  refine callE_pure ca rfl (by simp +decide -dsimp -implicitDefEqProofs [go_sem]) ?_
  simp +decide -dsimp -implicitDefEqProofs [go_sem]
  refine callE_pure cb rfl (by simp +decide -dsimp -implicitDefEqProofs [go_sem]) ?_
  simp +decide -dsimp -implicitDefEqProofs [go_sem]
  refine callE_pure cc (by simp +decide -dsimp -implicitDefEqProofs [go_sem]) rfl ?_
  simp +decide -dsimp -implicitDefEqProofs [go_sem]
end Go.Ab
namespace Go.Ab
open Go Go.Proofs Go.Sort
set_option maxRecDepth 20000
def tbO (m : SMap Own) : List AObj := [.map (smK ownV m), .box 98 [.map 0]]
theorem ownV_cl (k : Nat) (o : Own) : closed k (ownV o) = true := by simp [ownV, closed, closedL]
theorem ownV_ren (is : List Nat) (o : Own) : ren is (ownV o) = ownV o := by
  simp only [ownV, ren, renL]
  have := renLL_sRows is o.links
  unfold sRow at this
  rw [this]
theorem own_clm (m : SMap Own) (k : Nat) (a b : AV) : (a, b) ∈ smK ownV m → closed k a = true ∧ closed k b = true := smK_clm (k := k) (ownV_cl k) a b
theorem own_renK (is : List Nat) (m : SMap Own) : renKv is (smK ownV m) = smK ownV m := smK_ren is ownV (ownV_ren is) m
theorem new_c : ACallsR Tryz.prog 31 [] [] (fun v G => v = .ptr 1 0 ∧ G = tbO []) := by
  refine acalls_W _ c31_ok ?_
  unfold c31
  simp +decide -dsimp -implicitDefEqProofs [go_sem]
  refine endW_of _ _ (.refl _ _) ?_
  simp +decide -dsimp -implicitDefEqProofs [go_sem, packR, tbO, smK]
theorem beneath_c (a b : Txt) (ha : a.length ≤ 140737488351232) : ACalls Tryz.prog 80 [.str a, .str b] [] (.bool (benB a b)) [] := by
  have c := HasPrefix_c b (a ++ [47]) (by simp; omega)
  refine acalls_F c80_ok rfl ?_
  unfold c80 benB
  simp +decide -dsimp -implicitDefEqProofs [go_sem]
  refine ⟨by omega, ?_⟩
  refine callE_pure c rfl rfl ?_
  simp +decide -dsimp -implicitDefEqProofs [go_sem]
theorem near_c (a b : Txt) (ha : a.length ≤ 140737488351232) (hb : b.length ≤ 140737488351232) : ACalls Tryz.prog 78 [.str a, .str b] [] (.bool (nearB a b)) [] := by
  have c1 := beneath_c a b ha
  have c2 := beneath_c b a hb
  refine acalls_F c78_ok rfl ?_
  unfold c78 nearB
  by_cases h : a = b
  · subst h
    simp +decide -dsimp -implicitDefEqProofs [go_sem]
  · cases h1 : benB a b with
    | true =>
      rw [h1] at c1
      simp +decide -dsimp -implicitDefEqProofs [go_sem, h]
      refine callE_pure c1 rfl rfl ?_
      simp +decide -dsimp -implicitDefEqProofs [go_sem]
    | false =>
      rw [h1] at c1
      simp +decide -dsimp -implicitDefEqProofs [go_sem, h]
      refine callE_pure c1 rfl rfl ?_
      simp +decide -dsimp -implicitDefEqProofs [go_sem, h]
      refine callE_pure c2 rfl rfl ?_
      simp +decide -dsimp -implicitDefEqProofs [go_sem]
theorem better_c (a b : Cl) (ha : placeB a.path = true) (hb : placeB b.path = true) : ACalls Tryz.prog 79 [.agg (clRow a), .agg (clRow b)] [] (.bool (betB ltP a b)) [] := by
  have c := order_c _ _ ha hb
  refine acalls_F c79_ok rfl ?_
  unfold c79 clRow betB
  by_cases h : a.prio = b.prio
  · simp +decide -dsimp -implicitDefEqProofs [go_sem, h]
    refine callE_pure c rfl rfl ?_
    simp +decide -dsimp -implicitDefEqProofs [go_sem, ltP]
  · simp +decide -dsimp -implicitDefEqProofs [go_sem, h]
theorem path_c (s : Txt) (hs : s.length < 100000000) : ACalls Tryz.prog 55 [.str s] [] (.bool (pathL s).isSome) [] := by
  have c := nSplit_c s hs
  refine acalls_F c55_ok rfl ?_
  unfold c55
  cases h : pathL s with
  | none =>
    rw [h] at c
    simp +decide -dsimp -implicitDefEqProofs [go_sem]
    refine callE_pure c rfl rfl ?_
    simp +decide -dsimp -implicitDefEqProofs [go_sem]
  | some l =>
    rw [h] at c
    simp +decide -dsimp -implicitDefEqProofs [go_sem]
    refine callE_pure c rfl (by simp +decide -dsimp -implicitDefEqProofs [go_sem]) ?_
    simp +decide -dsimp -implicitDefEqProofs [go_sem]
theorem notLink_c (s : Txt) (hs : s.length < 1000000000) : ACalls Tryz.prog 58 [.str s] [] (.bool (!linkB s)) [] := by
  refine acalls_F c58_ok rfl ?_
  unfold c58
  simp +decide -dsimp -implicitDefEqProofs [go_sem]
  refine callE_pure (Link_c s hs) rfl rfl ?_
  simp +decide -dsimp -implicitDefEqProofs [go_sem]
theorem del_none {β : Type} {p : Txt} : ∀ {m : SMap β}, getS p m = none → delS p m = m
  | [], _ => rfl
  | none :: r, h => by
    simp only [getS] at h
    simp only [delS, del_none h]
  | some q :: r, h => by
    simp only [getS] at h
    split at h
    · cases h
    · rename_i e
      simp only [delS, if_neg e, del_none h]
/-- What Set asks of its arguments. -/
def okSet (at_ node : Txt) (links : List Txt) (prio : Int) : Bool := (pathL at_).isSome && linkB node && decide (-1000 ≤ prio) && decide (prio ≤ 1000) && links.all linkB
theorem SetBad_c (m : SMap Own) (p node : Txt) (links : List Txt) (prio : Int) (hp : p.length ≤ 1000000) (hn : node.length ≤ 1000000) (hl : links.length ≤ 1000000) (hll : ∀ x ∈ links, x.length ≤ 1000000) (hb : okSet p node links prio = false) :
    ACalls Tryz.prog 32 [.ptr 1 0, .str p, .str node, .imm (links.map sRow), .int .i64 prio] (tbO m) (.int .i64 210) (tbO m) := by
  have hcl := own_clm
  have c1 := path_c p (by omega)
  have c2 := Link_c node (by omega)
  have c3 := ContainsFunc_c links 58 [] [] (fun x => !linkB x) (by omega) rfl (by simp [selfH, cvH]) (fun x hx => notLink_c x (by have := hll x hx; omega))
  refine acalls_F c32_ok rfl ?_
  unfold c32 tbO
  unfold okSet at hb
  cases h1 : (pathL p).isSome with
  | false =>
    rw [h1] at c1
    simp +decide -dsimp -implicitDefEqProofs [go_sem]
    refine callE_pure c1 rfl rfl ?_
    simp +decide -dsimp -implicitDefEqProofs [go_sem]
    exact hcl _ _
  | true =>
  rw [h1] at c1 hb
  simp +decide -dsimp -implicitDefEqProofs [go_sem]
  refine callE_pure c1 rfl rfl ?_
  simp +decide -dsimp -implicitDefEqProofs [go_sem]
  refine callE_pure c2 rfl rfl ?_
  cases h2 : linkB node with
  | false =>
    simp +decide -dsimp -implicitDefEqProofs [go_sem]
    exact hcl _ _
  | true =>
  rw [h2] at hb
  by_cases h3 : prio < -1000
  · simp +decide -dsimp -implicitDefEqProofs [go_sem, h3]
    exact hcl _ _
  by_cases h4 : 1000 < prio
  · simp +decide -dsimp -implicitDefEqProofs [go_sem, h3, h4]
    exact hcl _ _
  have h5 : links.any (fun x => !linkB x) = true := by
    rw [decide_eq_true (by omega : -1000 ≤ prio), decide_eq_true (by omega : prio ≤ 1000)] at hb
    simp only [Bool.true_and, List.all_eq_false, Bool.not_eq_true] at hb
    obtain ⟨x, hx, hx2⟩ := hb
    exact List.any_eq_true.2 ⟨x, hx, by rw [hx2]; rfl⟩
  rw [h5] at c3
  simp +decide -dsimp -implicitDefEqProofs [go_sem, h3, h4]
  refine callE_pure c3 (by simp +decide -dsimp -implicitDefEqProofs [go_sem]) rfl ?_
  simp +decide -dsimp -implicitDefEqProofs [go_sem]
  exact hcl _ _
def clashM (m : SMap Own) (p node : Txt) : Prop := ∃ q o, getS q m = some o ∧ q ≠ p ∧ o.node = node
def setR (m : SMap Own) (p node : Txt) (links : List Txt) (prio : Int) (v : AV) (G : List AObj) : Prop :=
  (clashM m p node ∧ v = .int .i64 211 ∧ G = tbO m) ∨ (¬ clashM m p node ∧ v = .int .i64 0 ∧ G = tbO (setS p ⟨node, setT links, prio⟩ m))
structure visK (m : SMap Own) (p node : Txt) (vis : List Nat) : Prop where
  nd : vis.Nodup
  lt : ∀ j ∈ vis, j < m.length
  no : ∀ j ∈ vis, ∀ q o, m[j]? = some (some (q, o)) → q = p ∨ o.node ≠ node
set_option maxHeartbeats 4000000 in
theorem Set_c (m : SMap Own) (p node : Txt) (links : List Txt) (prio : Int) (ho : oneS' m) (hp : p.length ≤ 1000000) (hn : node.length ≤ 1000000) (hl : links.length ≤ 100000) (hll : ∀ x ∈ links, x.length ≤ 1000000) (hb : okSet p node links prio = true) :
    ACallsR Tryz.prog 32 [.ptr 1 0, .str p, .str node, .imm (links.map sRow), .int .i64 prio] (tbO m) (setR m p node links prio) := by
  have hcl := own_clm
  have hkr := own_renK
  have c1 := path_c p (by omega)
  have c2 := Link_c node (by omega)
  have c3 := ContainsFunc_c links 58 [] [] (fun x => !linkB x) (by omega) rfl (by simp [selfH, cvH]) (fun x hx => notLink_c x (by have := hll x hx; omega))
  have c4 := CloneT_c links (by omega)
  have c5 := sort_c links (by omega)
  have c6 := compact_c (srtT links) (by rw [srtT_len]; omega)
  rw [srtT_len, compact_set] at c6
  unfold okSet at hb
  simp only [Bool.and_eq_true, decide_eq_true_eq] at hb
  obtain ⟨⟨⟨⟨b1, b2⟩, b3⟩, b4⟩, b5⟩ := hb
  have h5 : links.any (fun x => !linkB x) = false := by
    rw [List.any_eq_false]; intro x hx; simp [List.all_eq_true.1 b5 x hx]
  rw [b1] at c1; rw [b2] at c2; rw [h5] at c3
  have h3 : ¬ prio < -1000 := by omega
  have h4 : ¬ 1000 < prio := by omega
  refine acalls_E (setR m p node links prio) 0 c32_ok ?_
  unfold c32 tbO
  simp +decide -dsimp -implicitDefEqProofs [go_sem]
  refine callE_pure c1 rfl rfl ?_
  simp +decide -dsimp -implicitDefEqProofs [go_sem]
  refine callE_pure c2 rfl rfl ?_
  simp +decide -dsimp -implicitDefEqProofs [go_sem, h3, h4]
  refine callE_pure c3 (by simp +decide -dsimp -implicitDefEqProofs [go_sem]) rfl ?_
  simp +decide -dsimp -implicitDefEqProofs [go_sem]
  refine loop_of (S := List Nat) (fun vis => ⟨tmps 67 [(0, .ptr 1 0), (1, .str p), (2, .str node), (3, .imm (links.map sRow)), (4, .int .i64 prio), (38, .it 2)], [.map (smK ownV m), .box 98 [.map 0], .iter 0 m.length vis]⟩) (fun vis => m.length - vis.length) (visK m p node) [] ⟨by simp, by simp, by simp⟩ (cut_of (by simp) ?_) ?_
  · simp +decide -dsimp -implicitDefEqProofs [go_sem]
    exact hcl _ _
  intro vis hv
  have hst : setKv (.str p) (.agg [.str node, .imm ((setT links).map sRow), .int .i64 prio]) (smK ownV m) = smK ownV (setS p ⟨node, setT links, prio⟩ m) := set_smK ownV p ⟨node, setT links, prio⟩ m
  have hk := keys_smK ownV p m
  simp +decide -dsimp -implicitDefEqProofs [go_sem]
  refine mnext_of (i := 2) (m := 0) (kvs := smK ownV m) rfl rfl (length_smK ownV m).symm (fun hA => ?_) (fun j kk x hj hg hnj => ?_)
  · have hno : ¬ clashM m p node := fun ⟨q, o, h1, h2, h3⟩ => by
      obtain ⟨j, hj⟩ := at_get h1
      have := hA j _ (smK_put hj).1 rfl
      rcases hv.no j this q o hj with h | h
      · exact h2 h
      · exact h h3
    simp +decide -dsimp -implicitDefEqProofs [go_sem]
    refine callE_grow [] 1 c4 rfl (fun v G h => by rw [h.2]; rfl) (by simp +decide) (by simp +decide -dsimp -implicitDefEqProofs [go_sem]) (by simp) ?_
    rintro _ _ ⟨rfl, rfl⟩
    simp +decide -dsimp -implicitDefEqProofs [go_sem]
    refine callE_frame [3] c5 rfl rfl (by simp) (by simp +decide -dsimp -implicitDefEqProofs [go_sem]) (by simp +decide -dsimp -implicitDefEqProofs [go_sem]) ?_
    simp +decide -dsimp -implicitDefEqProofs [go_sem]
    refine callDE_frame [3] c6 rfl rfl (by simp) (by simp +decide -dsimp -implicitDefEqProofs [go_sem]) (by simp +decide -dsimp -implicitDefEqProofs [go_sem]) ?_
    simp +decide -dsimp -implicitDefEqProofs [go_sem, hk, hst]
    refine end_of (.int .i64 0) (tbO (setS p ⟨node, setT links, prio⟩ m)) (.inr ⟨hno, rfl, rfl⟩) rfl ?_
    simp +decide -dsimp -implicitDefEqProofs [go_sem, tbO]
    exact hcl _ _
  · obtain ⟨pr, hjp, rfl, rfl⟩ := smK_at hj hg
    obtain ⟨q, o⟩ := pr
    have hjl := (List.getElem?_eq_some_iff.1 hjp).1
    have hvl := vis_lt hv.nd hv.lt hjl hnj
    rw [List.length_append] at hvl
    simp only [List.length_cons, List.length_nil] at hvl
    have hj' : (smK ownV m)[j]? = some (AV.str q, .agg [.str o.node, .imm (o.links.map sRow), .int .i64 o.prio]) := hj
    have hstep : (q = p ∨ o.node ≠ node) → visK m p node (vis ++ [j]) := fun h => by
      refine ⟨?_, fun x hx => ?_, fun x hx q' o' hx' => ?_⟩
      · rw [List.nodup_append]
        refine ⟨hv.nd, by simp, fun a ha b hb => ?_⟩
        simp at hb; subst hb
        exact fun e => hnj (e ▸ ha)
      · rcases List.mem_append.1 hx with hx | hx
        · exact hv.lt x hx
        · simp at hx; omega
      · rcases List.mem_append.1 hx with hx | hx
        · exact hv.no x hx q' o' hx'
        · simp at hx; subst hx
          rw [hjp] at hx'
          simp only [Option.some.injEq, Prod.mk.injEq] at hx'
          obtain ⟨rfl, rfl⟩ := hx'
          exact h
    by_cases hq : q = p
    · simp +decide -dsimp -implicitDefEqProofs [go_sem, hj', isGap, hq]
      refine next_of (vis ++ [j]) (hstep (.inl hq)) (by show m.length - (vis ++ [j]).length < m.length - vis.length; simp; omega) (cut_of (by simp) ?_)
      simp +decide -dsimp -implicitDefEqProofs [go_sem]
      exact hcl _ _
    · by_cases hn2 : o.node = node
      · simp +decide -dsimp -implicitDefEqProofs [go_sem, hj', isGap, hq, hn2]
        refine end_of (.int .i64 211) (tbO m) (.inl ⟨⟨q, o, get_at ho hjp, hq, hn2⟩, rfl, rfl⟩) rfl ?_
        simp +decide -dsimp -implicitDefEqProofs [go_sem, tbO]
        exact hcl _ _
      · simp +decide -dsimp -implicitDefEqProofs [go_sem, hj', isGap, hq, hn2]
        refine next_of (vis ++ [j]) (hstep (.inr hn2)) (by show m.length - (vis ++ [j]).length < m.length - vis.length; simp; omega) (cut_of (by simp) ?_)
        simp +decide -dsimp -implicitDefEqProofs [go_sem]
        exact hcl _ _
end Go.Ab
