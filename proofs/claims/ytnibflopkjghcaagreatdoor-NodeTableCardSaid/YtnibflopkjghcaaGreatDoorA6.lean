/- Regions of our own given up: from then on frozen lists. -/
import Derived.Test.YtnibflopkjghcaaGreatDoorA5
import Derived.Shelf.GgSortFunc.RowK
import Derived.Sort.EncStr
namespace Go.Ab
open Go
set_option linter.unusedSectionVars false
variable [Glob]
/-- The world, told with region o given up. -/
def frzCx (c : Cx) (o : Nat) : Cx := ⟨fun b => c.F b ∨ Owner c o b, c.μ, c.H.set o .dead, c.w⟩
theorem frz_own {c : Cx} {o p b : Nat} (hol : o < c.H.length) (h : Owner (frzCx c o) p b) : p ≠ o ∧ Owner c p b := by
  obtain ⟨x, v, h1, h2, h3, h4⟩ := h
  have h1' : (c.H.set o .dead)[p]? = some x := h1
  by_cases hp : o = p
  · subst hp
    rw [List.getElem?_set_self hol] at h1'
    cases h1'; simp [AObj.alive] at h2
  · rw [List.getElem?_set_ne hp] at h1'
    exact ⟨fun e => hp e.symm, x, v, h1', h2, h3, h4⟩
theorem frz_ext {c : Cx} {o e sz : Nat} {l : List (List AV)} (ho : c.H[o]? = some (.reg e sz l)) : VExt c (frzCx c o) :=
  ⟨fun _ h => .inl h, fun _ _ => rfl, fun p x _ hx => by
    by_cases hp : o = p
    · subst hp
      rw [ho] at hx; cases hx
      exact ⟨.dead, List.getElem?_set_self (List.getElem?_eq_some_iff.1 ho).1, trivial⟩
    · exact ⟨x, (List.getElem?_set_ne hp).trans hx, OStep.refl _ _⟩⟩
theorem frz_rel {c : Cx} (hr : Rel c) {o e sz : Nat} {l : List (List AV)} (ho : c.H[o]? = some (.reg e sz l)) (k : Nat) : Rel (frzCx c o) ∧ ExtN k c (frzCx c o) := by
  have hol : o < c.H.length := (List.getElem?_eq_some_iff.1 ho).1
  have hV := frz_ext (c := c) ho
  refine ⟨⟨by show c.μ.length = (c.H.set o _).length; rw [List.length_set]; exact hr.len, fun p x hx => ?_, fun p q b h1 h2 => hr.inj p q b (frz_own hol h1).2 (frz_own hol h2).2, fun p b h => ?_, fun b h => ?_, hr.gl, hr.gb, fun p b h => hr.go p b (frz_own hol h).2⟩,
    ⟨fun _ h => .inl h, fun _ h => h.imp id fun h => .inr ⟨o, h⟩, fun _ _ _ => rfl, Nat.le_refl _, rfl, rfl, rfl, fun p b h => .inr ⟨p, (frz_own hol h).2⟩, fun p x _ hx => ?_⟩⟩
  · have hx' : (c.H.set o .dead)[p]? = some x := hx
    by_cases hp : o = p
    · subst hp
      rw [List.getElem?_set_self hol] at hx'; cases hx'
      trivial
    · rw [List.getElem?_set_ne hp] at hx'
      exact ObjOk_ext hV (hr.obj p x hx') hx' rfl fun _ _ => rfl
  · obtain ⟨hne, h2⟩ := frz_own hol h
    rintro (h3 | h3)
    · exact hr.free p b h2 h3
    · exact hne (hr.inj p o b h2 h3)
  · rcases h with h | ⟨x, v, h1, _, h3, h4⟩
    · exact hr.lt b h
    · rw [ho] at h1; cases h1
      obtain ⟨v', h5, h6⟩ := hr.obj o _ ho
      rw [h3] at h5; cases h5
      rcases h6 with ⟨rfl, _⟩ | ⟨g, cap, cur, rfl, h7, _⟩
      · cases h4
      · cases h4
        exact (Array.getElem?_eq_some_iff.1 h7).1
  · by_cases hp : o = p
    · subst hp
      rw [ho] at hx; cases hx
      exact ⟨.dead, List.getElem?_set_self hol, trivial⟩
    · exact ⟨x, (List.getElem?_set_ne hp).trans hx, OStep.refl _ _⟩
theorem frz_val {c : Cx} (hr : Rel c) {o e sz : Nat} {l : List (List AV)} (ho : c.H[o]? = some (.reg e sz l)) {v : Value} (hv : Val c (.own o l.length) v) : Val (frzCx c o) (.imm l) v := by
  have hV := frz_ext (c := c) ho
  simp only [Val] at hv
  obtain ⟨_, hv⟩ := hv
  rcases hv with ⟨e', sz', l', h1, _, h3⟩ | h1
  rotate_left
  · rw [ho] at h1; cases h1
  rw [ho] at h1; cases h1
  obtain ⟨v', h5, h6⟩ := hr.obj o _ ho
  rw [h3 rfl] at h5; cases h5
  rcases h6 with ⟨rfl, rfl⟩ | ⟨g, cap, cur, rfl, h7, h8, _, _, h11⟩
  · simp only [Val]; exact .inr ⟨trivial, _, _, rfl⟩
  · simp only [Val]
    exact .inl ⟨g, 0, cap, sz, rfl, .inr ⟨_, _, ho, rfl, h3 rfl, rfl⟩, h8, RowsAt_ext hV _ _ _ _ rfl h11⟩
theorem RowsAt_part {c : Cx} : ∀ {l : List (List AV)} {b off sz : Nat} (lo n : Nat), RowsAt c l b off sz → RowsAt c ((l.drop lo).take n) b (off + lo * sz) sz
  | [], _, _, _, lo, n, _ => by simp [RowsAt]
  | r :: rs, b, off, sz, 0, 0, h => by simp [RowsAt]
  | r :: rs, b, off, sz, 0, n + 1, h => by
    simp only [RowsAt] at h
    simp only [List.drop_zero, List.take_succ_cons, Nat.zero_mul, Nat.add_zero, RowsAt]
    refine ⟨h.1, h.2.1, ?_⟩
    have := RowsAt_part 0 n h.2.2
    simpa using this
  | r :: rs, b, off, sz, lo + 1, n, h => by
    simp only [RowsAt] at h
    have := RowsAt_part lo n h.2.2
    rw [List.drop_succ_cons, show off + (lo + 1) * sz = off + sz + lo * sz by rw [Nat.add_mul]; omega]
    exact this
theorem frz_pre {c : Cx} (hr : Rel c) {o e sz lo n : Nat} {l : List (List AV)} (ho : c.H[o]? = some (.reg e sz l)) {v : Value} (hv : Val c (.pre o lo n l.length) v) : Val (frzCx c o) (.imm ((l.drop lo).take n)) v := by
  have hV := frz_ext (c := c) ho
  simp only [Val] at hv
  obtain ⟨_, hv⟩ := hv
  rcases hv with ⟨e', sz', l', h1, _, h3⟩ | h1
  rotate_left
  · rw [ho] at h1; cases h1
  rw [ho] at h1; cases h1
  obtain ⟨h4, h5⟩ := h3 rfl
  rcases h5 with ⟨g, len, cap, cp, h6, rfl, h7⟩ | ⟨rfl, a, cp, rfl⟩
  · obtain ⟨v', h8, h9⟩ := hr.obj o _ ho
    rw [h6] at h8; cases h8
    rcases h9 with ⟨h9, _⟩ | ⟨g', cap', cur, h9, h10, _, _, _, h14⟩
    · cases h9
    · cases h9
      have hl : ((l.drop lo).take n).length = n := by rw [List.length_take, List.length_drop]; omega
      simp only [Val]
      refine .inl ⟨g, lo * sz, cp, sz, by rw [hl], .inr ⟨_, _, ho, rfl, h6, rfl⟩, by rw [hl]; exact h7, ?_⟩
      have := RowsAt_part lo n h14
      rw [Nat.zero_add] at this
      exact RowsAt_ext hV _ _ _ _ rfl this
  · simp only [Val]; exact .inr ⟨by simp, _, _, rfl⟩
/-- A region of our own in a temporary becomes a frozen list. -/
theorem Wk.frz {k : Nat} {T : List AV} {H : List AObj} {e sz : Nat} {l : List (List AV)} (i o : Nat) (ho : H[o]? = some (.reg e sz l)) (hi : T[i]? = some (.own o l.length)) : Wk k ⟨T, H⟩ ⟨T.set i (.imm l), H.set o .dead⟩ := fun c a hr hH hF => by
  have hH' : c.H = H := hH
  subst hH'
  obtain ⟨r1, e1⟩ := frz_rel hr ho k
  have hV := frz_ext (c := c) ho
  refine ⟨frzCx c o, rfl, r1, e1, rfl, by simpa using hF.1, hF.2.1, fun j => ?_⟩
  by_cases hj : i = j
  · subst hj
    have hv := hF.2.2 i
    rw [hi, Option.getD_some] at hv
    rw [List.getElem?_set_self (List.getElem?_eq_some_iff.1 hi).1, Option.getD_some]
    exact frz_val hr ho hv
  · rw [List.getElem?_set_ne hj]
    exact Val_ext hV _ _ (hF.2.2 j)
/-- A part of such a region likewise. -/
theorem Wk.frzP {k : Nat} {T : List AV} {H : List AObj} {e sz lo n : Nat} {l : List (List AV)} (i o : Nat) (ho : H[o]? = some (.reg e sz l)) (hi : T[i]? = some (.pre o lo n l.length)) : Wk k ⟨T, H⟩ ⟨T.set i (.imm ((l.drop lo).take n)), H.set o .dead⟩ := fun c a hr hH hF => by
  have hH' : c.H = H := hH
  subst hH'
  obtain ⟨r1, e1⟩ := frz_rel hr ho k
  have hV := frz_ext (c := c) ho
  refine ⟨frzCx c o, rfl, r1, e1, rfl, by simpa using hF.1, hF.2.1, fun j => ?_⟩
  by_cases hj : i = j
  · subst hj
    have hv := hF.2.2 i
    rw [hi, Option.getD_some] at hv
    rw [List.getElem?_set_self (List.getElem?_eq_some_iff.1 hi).1, Option.getD_some]
    exact frz_pre hr ho hv
  · rw [List.getElem?_set_ne hj]
    exact Val_ext hV _ _ (hF.2.2 j)
end Go.Ab
namespace Go.Ab
open Go Go.Sort
set_option linter.unusedSectionVars false
variable [Glob]
/-- Rows that are written one way only. -/
structure Enc {α : Type} (f : α → List AV) (enc : α → List Value) (sz : Nat) : Prop where
  fl : ∀ x, (f x).length = sz
  el : ∀ x, (enc x).length = sz
  v : ∀ (c : Cx) (x : α) (j : Nat) (a : AV) (v : Value), (f x)[j]? = some a → (Val c a v ↔ (enc x)[j]? = some v)
  o : ∀ x, ∀ v ∈ enc x, v.oneCell' = true
variable {α : Type} [Inhabited α] {f : α → List AV} {enc : α → List Value} {sz : Nat}
theorem divmod_lt {t n k : Nat} (h : t < n * k) : t / k < n ∧ t % k < k ∧ t = t / k * k + t % k := by
  have k0 : 0 < k := by
    rcases Nat.eq_zero_or_pos k with h0 | h0
    · subst h0; simp at h
    · exact h0
  refine ⟨Nat.div_lt_of_lt_mul (by rwa [Nat.mul_comm]), Nat.mod_lt _ k0, ?_⟩
  rw [Nat.mul_comm]; exact (Nat.div_add_mod t k).symm
theorem rows_holds (hE : Enc f enc sz) {c : Cx} {L : List α} {g e : Nat} {arr : Array Value} (hb : c.w.heap[g]? = some (.cells arr e (0, 0))) (h : RowsAt c (L.map f) g 0 sz) : HoldsK enc sz c.w g 0 L.toArray := by
  intro t ht
  rw [size_flatK] at ht
  obtain ⟨h1, h2, h3⟩ := divmod_lt ht
  have h1' : t / sz < L.length := by simpa using h1
  obtain ⟨h4, h5⟩ := RowsAt_iff.1 h (t / sz) (f L[t / sz]) (by rw [List.getElem?_map, List.getElem?_eq_getElem h1']; rfl)
  have h6 : t % sz < (f L[t / sz]).length := by rw [h4]; exact h2
  obtain ⟨v, h7, _, h8⟩ := Cells_iff.1 h5 (t % sz) _ (List.getElem?_eq_getElem h6)
  have h9 := (hE.v c _ _ _ v (List.getElem?_eq_getElem h6)).1 h8
  have e1 : (L.toArray)[t / sz]! = L[t / sz] := by simp [h1']
  refine ⟨?_, ?_⟩
  · rw [get_flatK _ _ _ _ ht, e1]
    show c.w.cell? ⟨g, 0 + t, none⟩ = some (enc L[t / sz])[t % sz]!
    have h10 : (enc L[t / sz])[t % sz]! = v := by
      have := (List.getElem?_eq_some_iff.1 h9)
      obtain ⟨hlt, hv⟩ := this
      rw [getElem!_pos (enc L[t / sz]) (t % sz) hlt]; exact hv
    rw [h10, ← h7]
    congr 2
    omega
  · simp [World.frozen?, hb]
theorem holds_rows (hE : Enc f enc sz) {c : Cx} {d : Array α} {g : Nat} (h : HoldsK enc sz c.w g 0 d) : RowsAt c (d.toList.map f) g 0 sz := by
  refine RowsAt_iff.2 fun i r hi => ?_
  rw [List.getElem?_map] at hi
  obtain ⟨x, hx, rfl⟩ := Option.map_eq_some_iff.1 hi
  have hil : i < d.size := by simpa using (List.getElem?_eq_some_iff.1 hx).1
  have hxe : d[i]! = x := by
    rw [getElem!_pos d i hil]
    have := (List.getElem?_eq_some_iff.1 hx).2
    simpa using this
  refine ⟨hE.fl x, Cells_iff.2 fun j a hj => ?_⟩
  have hjl : j < sz := by rw [← hE.fl x]; exact (List.getElem?_eq_some_iff.1 hj).1
  have h1 := (h.cell hil hjl).1
  rw [hxe] at h1
  have hel : j < (enc x).length := by rw [hE.el]; exact hjl
  rw [getElem!_pos (enc x) j hel] at h1
  exact ⟨_, h1, hE.o x _ (List.getElem_mem hel), (hE.v c x j a _ hj).2 (List.getElem?_eq_getElem hel)⟩
theorem inplace0 {c : Cx} (hr : Rel c) {o e sz : Nat} {rows rows' : List (List AV)} (ho : c.H[o]? = some (.reg e sz rows)) {g cap : Nat} (hm : c.μ[o]? = some (.slice (some ⟨g, 0, none⟩) rows.length cap)) (hd : rows'.length = rows.length)
    {w' : World} (hk : ∀ b, b < c.w.heap.size → g ≠ b → w'.heap[b]? = c.w.heap[b]?) (hgl : ∀ cur, c.w.heap[g]? = some (.cells cur e (0, 0)) → ∃ cur', w'.heap[g]? = some (.cells cur' e (0, 0)) ∧ cur'.size = cur.size)
    (hsize : c.w.heap.size ≤ w'.heap.size) (h1 : w'.os = c.w.os) (h2 : w'.tape = c.w.tape) (h3 : w'.output = c.w.output)
    (hrows : RowsAt c rows g 0 sz → ∀ c' : Cx, c'.w = w' → RowsAt c' rows' g 0 sz) :
    Rel ⟨c.F, c.μ, c.H.set o (.reg e sz rows'), w'⟩ ∧ Ext c ⟨c.F, c.μ, c.H.set o (.reg e sz rows'), w'⟩ := by
  obtain ⟨v', g1, g2⟩ := hr.obj o _ ho
  rw [hm] at g1
  simp only [Option.some.injEq] at g1
  subst g1
  rcases g2 with ⟨g2, _⟩ | ⟨g', cap', cur, g2, g3, g4, g5, g6, g7⟩
  · cases g2
  simp only [Value.slice.injEq, Option.some.injEq, Addr.mk.injEq, and_true, true_and] at g2
  obtain ⟨rfl, rfl⟩ := g2
  have hset : c.μ.set o (.slice (some ⟨g, 0, none⟩) rows.length cap) = c.μ := by
    refine List.ext_getElem? fun j => ?_
    by_cases hj : o = j
    · subst hj; rw [List.getElem?_set_self (List.getElem?_eq_some_iff.1 hm).1, hm]
    · rw [List.getElem?_set_ne hj]
  have hOw : Owner c o g := ⟨_, _, ho, rfl, hm, rfl⟩
  obtain ⟨cur', k1, k2⟩ := hgl cur g3
  have key := rel_upd hr (o := o) (x' := .reg e sz rows') (v' := .slice (some ⟨g, 0, none⟩) rows.length cap) (F' := c.F) (w' := w') ho
    (by show e = e ∧ sz = sz ∧ rows.length ≤ rows'.length ∧ (rows'.length = rows.length → some _ = c.μ[o]?)
        exact ⟨rfl, rfl, by omega, fun _ => hm.symm⟩) (fun _ h => h) (fun _ h => .inl h)
    (fun b hb hnb => hk b hb fun hgb => by subst hgb; exact hnb hOw) hsize h1 h2 h3
    (fun b _ hb => by simp only [blk, Option.some.injEq] at hb; subst hb; exact .inr hOw)
    (fun _ => ⟨_, List.getElem?_set_self (List.getElem?_eq_some_iff.1 hm).1, .inr ⟨g, cap, cur', by rw [hd], k1, by rw [hd]; exact g4, g5, by rw [k2, g6], hrows g7 _ rfl⟩⟩)
  rw [hset] at key
  exact key
theorem put_heap {β : Type} [Inhabited β] {en : β → Value} {w : World} {n g off b : Nat} {d : Array β} {os : Array Obj} (hb : b < w.heap.size) (h : g ≠ b) : (grow (putRow en (Sort.ahead w n) g off d) os).heap[b]? = w.heap[b]? := by
  show ((putRow en (Sort.ahead w n) g off d).heap ++ os)[b]? = _
  rw [Array.getElem?_append_left (by rw [size_putRow]; exact hb)]
  show ((Sort.ahead w n).heap.modify g (onCells _))[b]? = _
  rw [Array.getElem?_modify, if_neg h]; rfl
theorem put_heap_self {β : Type} [Inhabited β] {en : β → Value} {w : World} {n g off e : Nat} {d : Array β} {os : Array Obj} {cur : Array Value} (h : w.heap[g]? = some (.cells cur e (0, 0))) : (grow (putRow en (Sort.ahead w n) g off d) os).heap[g]? = some (.cells (putCells en off d cur) e (0, 0)) := by
  have hb : g < w.heap.size := (Array.getElem?_eq_some_iff.1 h).1
  show ((putRow en (Sort.ahead w n) g off d).heap ++ os)[g]? = _
  rw [Array.getElem?_append_left (by rw [size_putRow]; exact hb)]
  show ((Sort.ahead w n).heap.modify g (onCells _))[g]? = _
  rw [Array.getElem?_modify, if_pos rfl]
  show Option.map _ w.heap[g]? = _
  rw [h]; rfl
theorem put_size {β : Type} [Inhabited β] {en : β → Value} {w : World} {n g off : Nat} {d : Array β} {os : Array Obj} : w.heap.size ≤ (grow (putRow en (Sort.ahead w n) g off d) os).heap.size := by
  show _ ≤ ((putRow en (Sort.ahead w n) g off d).heap ++ os).size
  rw [Array.size_append, size_putRow]
  exact Nat.le_add_right _ _
theorem inplace (hE : Enc f enc sz) {c : Cx} (hr : Rel c) {o e : Nat} {L : List α} (ho : c.H[o]? = some (.reg e sz (L.map f))) {g cap : Nat} (hm : c.μ[o]? = some (.slice (some ⟨g, 0, none⟩) L.length cap)) {d' : Array α} (hd : d'.size = L.length)
    {n : Nat} {os : Array Obj} {w' : World} (hw : w' = grow (putRowK enc sz (Sort.ahead c.w n) g 0 d') os) :
    Rel ⟨c.F, c.μ, c.H.set o (.reg e sz (d'.toList.map f)), w'⟩ ∧ Ext c ⟨c.F, c.μ, c.H.set o (.reg e sz (d'.toList.map f)), w'⟩ := by
  subst hw
  obtain ⟨v', g1, g2⟩ := hr.obj o _ ho
  rw [hm] at g1
  simp only [Option.some.injEq] at g1
  subst g1
  rcases g2 with ⟨g2, _⟩ | ⟨g', cap', cur, g2, g3, _⟩
  · cases g2
  simp only [Value.slice.injEq, Option.some.injEq, Addr.mk.injEq, and_true] at g2
  obtain ⟨rfl, _, _⟩ := g2
  refine inplace0 hr ho (by rw [List.length_map]; exact hm) (by simp [hd]) (fun b hb h => put_heap hb h) (fun cur' hc => ⟨_, put_heap_self hc, by simp [putCells]⟩) put_size rfl rfl rfl fun hR c' hw' => ?_
  refine holds_rows hE ?_
  rw [hw']
  have h8 := rows_holds hE g3 hR
  have hg : g < c.w.heap.size := (Array.getElem?_eq_some_iff.1 g3).1
  exact holdsK_grow enc sz _ _ g 0 d' (by show g < (putRow id _ _ _ _).heap.size; rw [size_putRow]; exact hg) (holdsK_putRowK enc sz _ g 0 L.toArray d' (holdsK_ahead enc sz _ _ _ _ _ h8) (by simp [hd]))
/-! ### Rows of one cell -/
theorem putRow_one {β : Type} [Inhabited β] (en : β → Value) (w : World) (g off : Nat) (d : Array β) : putRow en w g off d = putRowK (fun x => [en x]) 1 w g off d := by
  unfold putRowK putRow
  refine mapBlock_congr _ _ _ _ fun c _ _ _ => ?_
  apply Array.ext_getElem?
  intro k
  simp only [putCells, Array.getElem?_mapIdx, size_flatK, Nat.mul_one]
  cases c[k]? with
  | none => rfl
  | some y =>
    simp only [Option.map_some]
    split
    · rename_i h
      rw [get_flatK _ _ _ _ (by omega)]
      simp [Nat.mod_one]
    · rfl
theorem holds_one {β : Type} [Inhabited β] {en : β → Value} {w : World} {g off : Nat} {d : Array β} (h : HoldsK (fun x => [en x]) 1 w g off d) : Holds en w g off d := fun j hj => by
  have := h j (by rw [size_flatK]; omega)
  rw [get_flatK _ _ _ _ (by omega)] at this
  simpa [Nat.mod_one] using this
theorem enc_str : Enc (fun s : List UInt8 => [AV.str s]) (fun s => [Proofs.encStr s]) 1 := by
  refine ⟨fun _ => rfl, fun _ => rfl, fun c x j a v hj => ?_, fun x v hv => ?_⟩
  · cases j with
    | zero =>
      simp only [List.getElem?_cons_zero, Option.some.injEq] at hj ⊢
      subst hj
      simp only [Val]
      exact ⟨fun h => h.symm, fun h => h.symm⟩
    | succ j => simp at hj
  · simp only [List.mem_singleton] at hv; subst hv; rfl
end Go.Ab
namespace Go.Ab
open Go
abbrev Txt := List UInt8
/-- The order of paths, of those that are paths. -/
structure POrd (pb : Txt → Bool) (lt : Txt → Txt → Bool) : Prop where
  irr : ∀ a, lt a a = false
  tr : ∀ a b c, lt a b = true → lt b c = true → lt a c = true
  tot : ∀ a b, pb a = true → pb b = true → lt a b = false → lt b a = false → a = b
structure Cl where
  link : Txt
  path : Txt
  node : Txt
  prio : Int
structure Lk where
  name : Txt
  node : Txt
  path : Txt
def clRow (c : Cl) : List AV := [.str c.link, .str c.path, .str c.node, .int .i64 c.prio]
def lkRow (x : Lk) : List AV := [.str x.name, .str x.node, .str x.path]
def benB (a b : Txt) : Bool := (a ++ [47]).isPrefixOf b
def nearB (a b : Txt) : Bool := decide (a = b) || benB a b || benB b a
def voidB (nodes : List Txt) (c : Cl) : Bool := nodes.any fun n => nearB n c.link
def opn (nodes : List Txt) (l : List Cl) : List Cl := l.filter fun c => !voidB nodes c
def toLk (c : Cl) : Lk := ⟨c.link, c.node, c.path⟩
theorem asc_ext' {α : Type} {R : α → α → Prop} (ha : ∀ a b, R a b → ¬ R b a) : ∀ {l l' : List α}, l.Pairwise R → l'.Pairwise R → (∀ x, x ∈ l ↔ x ∈ l') → l = l'
  | [], [], _, _, _ => rfl
  | [], y :: r, _, _, h => by have := (h y).2 (by simp); simp at this
  | y :: r, [], _, _, h => by have := (h y).1 (by simp); simp at this
  | x :: l, y :: l', h1, h2, h => by
    rw [List.pairwise_cons] at h1 h2
    have hirr : ∀ a, ¬ R a a := fun a h => ha a a h h
    have e : x = y := by
      rcases List.mem_cons.1 ((h x).1 (by simp)) with e | hx
      · exact e
      · rcases List.mem_cons.1 ((h y).2 (by simp)) with e | hy
        · exact e.symm
        · exact absurd (h1.1 y hy) (ha _ _ (h2.1 x hx))
    subst e
    congr 1
    refine asc_ext' ha h1.2 h2.2 fun z => ⟨fun hz => ?_, fun hz => ?_⟩
    · rcases List.mem_cons.1 ((h z).1 (by simp [hz])) with rfl | h3
      · exact absurd (h1.1 _ hz) (hirr _)
      · exact h3
    · rcases List.mem_cons.1 ((h z).2 (by simp [hz])) with rfl | h3
      · exact absurd (h2.1 _ hz) (hirr _)
      · exact h3
section
variable {pb : Txt → Bool} {lt : Txt → Txt → Bool}
variable (lt) in
def betB (a b : Cl) : Bool := decide (a.prio > b.prio) || (decide (a.prio = b.prio) && lt a.path b.path)
variable (lt) in
/-- The best claim of a link, of some. -/
def bestC (O : List Cl) (c : Cl) : Prop := c ∈ O ∧ ∀ d ∈ O, d.link = c.link → betB lt d c = false
variable (pb) in
def okCl (O : List Cl) : Prop := (∀ c ∈ O, pb c.path = true) ∧ O.Pairwise fun c d => ¬ (c.link = d.link ∧ c.path = d.path)
theorem okCl.inj {O : List Cl} (h : okCl pb O) {c d : Cl} (hc : c ∈ O) (hd : d ∈ O) (h1 : c.link = d.link) (h2 : c.path = d.path) : c = d := by
  obtain ⟨i, hi, rfl⟩ := List.mem_iff_getElem.1 hc
  obtain ⟨j, hj, rfl⟩ := List.mem_iff_getElem.1 hd
  have hp := List.pairwise_iff_getElem.1 h.2
  rcases Nat.lt_trichotomy i j with h3 | h3 | h3
  · exact absurd ⟨h1, h2⟩ (hp i j hi hj h3)
  · subst h3; rfl
  · exact absurd ⟨h1.symm, h2.symm⟩ (hp j i hj hi h3)
theorem bet_tr (hO : POrd pb lt) {a b c : Cl} (h1 : betB lt a b = true) (h2 : betB lt b c = true) : betB lt a c = true := by
  simp only [betB, Bool.or_eq_true, Bool.and_eq_true, decide_eq_true_eq] at h1 h2 ⊢
  rcases h1 with h1 | ⟨h1, h3⟩ <;> rcases h2 with h2 | ⟨h2, h4⟩
  · exact .inl (by omega)
  · exact .inl (by omega)
  · exact .inl (by omega)
  · exact .inr ⟨by omega, hO.tr _ _ _ h3 h4⟩
theorem best_uniq (hO : POrd pb lt) {O : List Cl} (h : okCl pb O) {c d : Cl} (hc : bestC lt O c) (hd : bestC lt O d) (he : c.link = d.link) : c = d := by
  have h1 := hc.2 d hd.1 he.symm
  have h2 := hd.2 c hc.1 he
  simp only [betB, Bool.or_eq_false_iff, decide_eq_false_iff_not, Bool.and_eq_false_iff] at h1 h2
  have h3 : c.prio = d.prio := by omega
  refine h.inj hc.1 hd.1 he (hO.tot _ _ (h.1 c hc.1) (h.1 d hd.1) ?_ ?_)
  · rcases h2.2 with h4 | h4
    · omega
    · exact h4
  · rcases h1.2 with h4 | h4
    · omega
    · exact h4
variable (lt) in
/-- What Resolve gives of the open claims. -/
structure ResOf (O : List Cl) (L : List Lk) : Prop where
  asc : L.Pairwise fun a b => a.name < b.name
  mem : ∀ x, x ∈ L ↔ ∃ c, bestC lt O c ∧ toLk c = x ∧ ∀ d ∈ O, benB c.link d.link = false
theorem txt_asymm (a b : Txt) : a < b → ¬ b < a := fun h1 h2 => List.lt_irrefl _ (List.lt_trans h1 h2)
theorem ResOf.uniq {O : List Cl} {L L' : List Lk} (h : ResOf lt O L) (h' : ResOf lt O L') : L = L' :=
  asc_ext' (fun a b => txt_asymm a.name b.name) h.asc h'.asc fun x => by rw [h.mem, h'.mem]
/-- The map of the best claims, so far. -/
structure BestM (O : List Cl) (m : SMap Cl) : Prop where
  o : oneS' m
  b : ∀ k c, getS k m = some c → bestC lt O c ∧ c.link = k
  a : ∀ d ∈ O, (getS d.link m).isSome = true
theorem BestM.nil : BestM (lt := lt) [] [] := ⟨trivial, fun k c h => by simp [getS] at h, by simp⟩
theorem BestM.new {O : List Cl} {m : SMap Cl} (h : BestM (lt := lt) O m) (hO : POrd pb lt) {c : Cl} (hn : getS c.link m = none) : BestM (lt := lt) (O ++ [c]) (setS c.link c m) := by
  have hnl : ∀ d ∈ O, d.link ≠ c.link := fun d hd e => by
    have := h.a d hd
    rw [e, hn] at this; cases this
  refine ⟨one_set _ _ h.o, fun k x hx => ?_, fun d hd => ?_⟩
  · rw [get_set] at hx
    split at hx
    · rename_i e
      cases hx
      refine ⟨⟨by simp, fun d hd e2 => ?_⟩, e⟩
      rcases List.mem_append.1 hd with hd | hd
      · exact absurd e2 (hnl d hd)
      · rw [List.mem_singleton.1 hd]; simp [betB, hO.irr]
    · rename_i e
      obtain ⟨h1, h2⟩ := h.b k x hx
      refine ⟨⟨by simp [h1.1], fun d hd e2 => ?_⟩, h2⟩
      rcases List.mem_append.1 hd with hd | hd
      · exact h1.2 d hd e2
      · rw [List.mem_singleton.1 hd] at e2
        exact absurd (e2.trans h2) e
  · rw [get_set]
    split
    · rfl
    · rename_i e
      rcases List.mem_append.1 hd with hd | hd
      · exact h.a d hd
      · rw [List.mem_singleton.1 hd] at e; exact absurd rfl e
theorem BestM.won {O : List Cl} {m : SMap Cl} (h : BestM (lt := lt) O m) (hO : POrd pb lt) {c old : Cl} (hn : getS c.link m = some old) (hb : betB lt c old = true) : BestM (lt := lt) (O ++ [c]) (setS c.link c m) := by
  obtain ⟨h1, h2⟩ := h.b _ _ hn
  refine ⟨one_set _ _ h.o, fun k x hx => ?_, fun d hd => ?_⟩
  · rw [get_set] at hx
    split at hx
    · rename_i e
      cases hx
      refine ⟨⟨by simp, fun d hd e2 => ?_⟩, e⟩
      rcases List.mem_append.1 hd with hd | hd
      · cases hq : betB lt d c with
        | false => rfl
        | true => rw [← h1.2 d hd (e2.trans h2.symm), bet_tr hO hq hb]
      · rw [List.mem_singleton.1 hd]; simp [betB, hO.irr]
    · rename_i e
      obtain ⟨h3, h4⟩ := h.b k x hx
      refine ⟨⟨by simp [h3.1], fun d hd e2 => ?_⟩, h4⟩
      rcases List.mem_append.1 hd with hd | hd
      · exact h3.2 d hd e2
      · rw [List.mem_singleton.1 hd] at e2
        exact absurd (e2.trans h4) e
  · rw [get_set]
    split
    · rfl
    · rename_i e
      rcases List.mem_append.1 hd with hd | hd
      · exact h.a d hd
      · rw [List.mem_singleton.1 hd] at e; exact absurd rfl e
theorem BestM.lost {O : List Cl} {m : SMap Cl} (h : BestM (lt := lt) O m) {c old : Cl} (hn : getS c.link m = some old) (hb : betB lt c old = false) : BestM (lt := lt) (O ++ [c]) m := by
  obtain ⟨h1, h2⟩ := h.b _ _ hn
  refine ⟨h.o, fun k x hx => ?_, fun d hd => ?_⟩
  · obtain ⟨h3, h4⟩ := h.b k x hx
    refine ⟨⟨by simp [h3.1], fun d hd e2 => ?_⟩, h4⟩
    rcases List.mem_append.1 hd with hd | hd
    · exact h3.2 d hd e2
    · rw [List.mem_singleton.1 hd] at e2 ⊢
      have e3 : c.link = k := e2.trans h4
      rw [e3, hx] at hn
      cases hn; exact hb
  · rcases List.mem_append.1 hd with hd | hd
    · exact h.a d hd
    · rw [List.mem_singleton.1 hd, hn]; rfl
theorem BestM.iff {O : List Cl} {m : SMap Cl} (h : BestM (lt := lt) O m) (hO : POrd pb lt) (hk : okCl pb O) {k : Txt} {c : Cl} : getS k m = some c ↔ bestC lt O c ∧ c.link = k := by
  refine ⟨h.b k c, fun ⟨h1, h2⟩ => ?_⟩
  have := h.a c h1.1
  rw [h2] at this
  obtain ⟨d, hd⟩ := Option.isSome_iff_exists.1 this
  obtain ⟨h3, h4⟩ := h.b k d hd
  rw [hd, best_uniq hO hk h1 h3 (h2.trans h4.symm)]
end
/-! ### Lists of texts that ascend -/
def ascT (l : List Txt) : Prop := l.Pairwise (· < ·)
theorem ascT_ext {l l' : List Txt} (h : ascT l) (h' : ascT l') (he : ∀ x, x ∈ l ↔ x ∈ l') : l = l' := asc_ext' txt_asymm h h' he
/-- A text put into a list that ascends. -/
def putS : List Txt → Txt → List Txt
  | [], s => [s]
  | x :: r, s => if x < s then x :: putS r s else if x = s then x :: r else s :: x :: r
theorem putS_mem {s y : Txt} : ∀ {l : List Txt}, y ∈ putS l s ↔ y = s ∨ y ∈ l
  | [] => by simp [putS]
  | x :: r => by
    unfold putS
    split
    · simp only [List.mem_cons, putS_mem (l := r)]
      constructor
      · rintro (h | h | h) <;> simp [h]
      · rintro (h | h | h) <;> simp [h]
    · split
      · rename_i e; subst e
        simp only [List.mem_cons]
        constructor
        · rintro (h | h) <;> simp [h]
        · rintro (h | h | h) <;> simp [h]
      · simp
theorem txt_tri (a b : Txt) (h1 : ¬ a < b) (h2 : a ≠ b) : b < a := by
  have h3 : b ≤ a := List.not_lt.1 h1
  rcases List.le_iff_lt_or_eq.1 h3 with h | h
  · exact h
  · exact absurd h.symm h2
theorem putS_asc {s : Txt} : ∀ {l : List Txt}, ascT l → ascT (putS l s)
  | [], _ => by simp [putS, ascT]
  | x :: r, h => by
    unfold ascT at h ⊢
    rw [List.pairwise_cons] at h
    unfold putS
    split
    · rename_i hx
      rw [List.pairwise_cons]
      refine ⟨fun y hy => ?_, putS_asc h.2⟩
      rcases putS_mem.1 hy with rfl | hy
      · exact hx
      · exact h.1 y hy
    · split
      · rw [List.pairwise_cons]; exact h
      · rename_i h1 h2
        have h3 := txt_tri _ _ h1 h2
        rw [List.pairwise_cons, List.pairwise_cons]
        refine ⟨fun y hy => ?_, h⟩
        rcases List.mem_cons.1 hy with rfl | hy
        · exact h3
        · exact List.lt_trans h3 (h.1 y hy)
def setT (l : List Txt) : List Txt := l.foldl putS []
theorem setT_snoc (l : List Txt) (s : Txt) : setT (l ++ [s]) = putS (setT l) s := by unfold setT; rw [List.foldl_append]; rfl
theorem setT_ok (l : List Txt) : ascT (setT l) ∧ ∀ y, y ∈ setT l ↔ y ∈ l := by
  have key : ∀ (l acc : List Txt), ascT acc → ascT (l.foldl putS acc) ∧ ∀ y, y ∈ l.foldl putS acc ↔ y ∈ l ∨ y ∈ acc := fun l => by
    induction l with
    | nil => intro acc h; exact ⟨h, by simp⟩
    | cons x r ih =>
      intro acc h
      obtain ⟨h1, h2⟩ := ih (putS acc x) (putS_asc h)
      refine ⟨h1, fun y => ?_⟩
      rw [List.foldl_cons, h2, putS_mem]
      simp only [List.mem_cons]
      constructor
      · rintro (h | h | h) <;> simp [h]
      · rintro ((h | h) | h) <;> simp [h]
  obtain ⟨h1, h2⟩ := key l [] .nil
  exact ⟨h1, fun y => by rw [show setT l = l.foldl putS [] from rfl, h2]; simp⟩
/-- A sorted list without what stands twice. -/
def cpct : List Txt → List Txt
  | [] => []
  | [x] => [x]
  | x :: y :: r => if x = y then cpct (y :: r) else x :: cpct (y :: r)
theorem cpct_mem {z : Txt} : ∀ {l : List Txt}, z ∈ cpct l ↔ z ∈ l
  | [] => by simp [cpct]
  | [x] => by simp [cpct]
  | x :: y :: r => by
    unfold cpct
    split
    · rename_i e; subst e
      rw [cpct_mem]; simp
    · rw [List.mem_cons, cpct_mem]; simp
theorem cpct_asc : ∀ {l : List Txt}, l.Pairwise (· ≤ ·) → ascT (cpct l)
  | [], _ => .nil
  | [x], _ => by simp [cpct, ascT]
  | x :: y :: r, h => by
    rw [List.pairwise_cons] at h
    unfold cpct
    split
    · exact cpct_asc h.2
    · rename_i hne
      unfold ascT
      rw [List.pairwise_cons]
      refine ⟨fun z hz => ?_, cpct_asc h.2⟩
      have hz' := cpct_mem.1 hz
      have hxy : x < y := (List.le_iff_lt_or_eq.1 (h.1 y (by simp))).resolve_right hne
      rcases List.mem_cons.1 hz' with rfl | hz'
      · exact hxy
      · have h3 := (List.pairwise_cons.1 h.2).1 z hz'
        rcases List.le_iff_lt_or_eq.1 h3 with h4 | h4
        · exact List.lt_trans hxy h4
        · rw [← h4]; exact hxy
theorem cpct_set {l l' : List Txt} (h : l.Pairwise (· ≤ ·)) (hm : ∀ y, y ∈ l ↔ y ∈ l') : cpct l = setT l' :=
  ascT_ext (cpct_asc h) (setT_ok l').1 fun y => by rw [cpct_mem, hm, (setT_ok l').2]
end Go.Ab
namespace Go.Ab
open Go
structure Own where
  node : Txt
  links : List Txt
  prio : Int
def ownV (o : Own) : AV := .agg [.str o.node, .imm (o.links.map fun s => [.str s]), .int .i64 o.prio]
abbrev Dv := Txt × Own
def dvRow (d : Dv) : List AV := [.str d.1, .str d.2.node, .imm (d.2.links.map fun s => [.str s]), .int .i64 d.2.prio]
def clOf (d : Dv) : List Cl := d.2.links.map fun s => ⟨s, d.1, d.2.node, d.2.prio⟩
def clm (w : List Dv) : List Cl := w.flatMap clOf
section
variable {pb : Txt → Bool} {lt : Txt → Txt → Bool}
variable (pb lt) in
/-- A table of the reference: in the order of paths, nodes and links without repetition. -/
structure TabW (w : List Dv) : Prop where
  p : ∀ d ∈ w, pb d.1 = true
  a : w.Pairwise fun a b => lt a.1 b.1 = true
  n : w.Pairwise fun a b => a.2.node ≠ b.2.node
  l : ∀ d ∈ w, ascT d.2.links
variable (pb lt) in
/-- Both tables have the same devices. -/
structure TabL (m : SMap Own) (w : List Dv) : Prop extends TabW pb lt w where
  o : oneS' m
  g : ∀ p x, getS p m = some x ↔ (p, x) ∈ w
theorem TabW.nil : TabW pb lt [] := ⟨by simp, .nil, .nil, by simp⟩
theorem TabL.nil : TabL pb lt [] [] := ⟨.nil, trivial, by simp [getS]⟩
theorem TabW.sub {w w' : List Dv} (h : TabW pb lt w) (hs : w'.Sublist w) : TabW pb lt w' :=
  ⟨fun d hd => h.p d (hs.subset hd), h.a.sublist hs, h.n.sublist hs, fun d hd => h.l d (hs.subset hd)⟩
theorem POrd.asym (hO : POrd pb lt) (a b : Txt) : lt a b = true → ¬ lt b a = true := fun h1 h2 => by
  have := hO.tr a b a h1 h2
  rw [hO.irr] at this; cases this
theorem TabL.uniq (hO : POrd pb lt) {m m' : SMap Own} {w w' : List Dv} (h : TabL pb lt m w) (h' : TabL pb lt m' w') (he : ∀ k, getS k m = getS k m') : w = w' :=
  asc_ext' (fun a b => hO.asym a.1 b.1) h.a h'.a fun d => by
    rw [show d = (d.1, d.2) from rfl, ← h.g, ← h'.g, he]
theorem TabW.path_inj (hO : POrd pb lt) {w : List Dv} (h : TabW pb lt w) {a b : Dv} (ha : a ∈ w) (hb : b ∈ w) (he : a.1 = b.1) : a = b := by
  obtain ⟨i, hi, rfl⟩ := List.mem_iff_getElem.1 ha
  obtain ⟨j, hj, rfl⟩ := List.mem_iff_getElem.1 hb
  have hp := List.pairwise_iff_getElem.1 h.a
  rcases Nat.lt_trichotomy i j with h3 | h3 | h3
  · have := hp i j hi hj h3; rw [he, hO.irr] at this; cases this
  · subst h3; rfl
  · have := hp j i hj hi h3; rw [he, hO.irr] at this; cases this
def dropD (w : List Dv) (p : Txt) : List Dv := w.filter fun d => !decide (d.1 = p)
variable (lt) in
def insD : List Dv → Dv → List Dv
  | [], d => [d]
  | x :: r, d => if lt x.1 d.1 = true then x :: insD r d else d :: x :: r
theorem insD_mem {d y : Dv} : ∀ {w : List Dv}, y ∈ insD lt w d ↔ y = d ∨ y ∈ w
  | [] => by simp [insD]
  | x :: r => by
    unfold insD
    split
    · simp only [List.mem_cons, insD_mem (w := r)]
      constructor
      · rintro (h | h | h) <;> simp [h]
      · rintro (h | h | h) <;> simp [h]
    · simp
theorem insD_asc (hO : POrd pb lt) {d : Dv} (hd : pb d.1 = true) : ∀ {w : List Dv}, (∀ x ∈ w, pb x.1 = true ∧ x.1 ≠ d.1) → w.Pairwise (fun a b => lt a.1 b.1 = true) → (insD lt w d).Pairwise fun a b => lt a.1 b.1 = true
  | [], _, _ => by simp [insD]
  | x :: r, hw, h => by
    rw [List.pairwise_cons] at h
    unfold insD
    split
    · rename_i hx
      rw [List.pairwise_cons]
      refine ⟨fun y hy => ?_, insD_asc hO hd (fun z hz => hw z (by simp [hz])) h.2⟩
      rcases insD_mem.1 hy with rfl | hy
      · exact hx
      · exact h.1 y hy
    · rename_i hx
      have h3 : lt d.1 x.1 = true := by
        cases h4 : lt d.1 x.1 with
        | true => rfl
        | false => exact absurd (hO.tot _ _ (hw x (by simp)).1 hd (by simpa using hx) h4) (hw x (by simp)).2
      rw [List.pairwise_cons, List.pairwise_cons]
      refine ⟨fun y hy => ?_, h⟩
      rcases List.mem_cons.1 hy with rfl | hy
      · exact h3
      · exact hO.tr _ _ _ h3 (h.1 y hy)
theorem insD_node {d : Dv} : ∀ {w : List Dv}, (∀ x ∈ w, x.2.node ≠ d.2.node) → w.Pairwise (fun a b => a.2.node ≠ b.2.node) → (insD lt w d).Pairwise fun a b => a.2.node ≠ b.2.node
  | [], _, _ => by simp [insD]
  | x :: r, hw, h => by
    rw [List.pairwise_cons] at h
    unfold insD
    split
    · rw [List.pairwise_cons]
      refine ⟨fun y hy => ?_, insD_node (fun z hz => hw z (by simp [hz])) h.2⟩
      rcases insD_mem.1 hy with rfl | hy
      · exact hw x (by simp)
      · exact h.1 y hy
    · rw [List.pairwise_cons, List.pairwise_cons]
      refine ⟨fun y hy => ?_, h⟩
      exact fun e => hw y hy e.symm
theorem TabW.drop {w : List Dv} (h : TabW pb lt w) (p : Txt) : TabW pb lt (dropD w p) := h.sub List.filter_sublist
theorem TabW.put (hO : POrd pb lt) {w : List Dv} (h : TabW pb lt w) {d : Dv} (hp : pb d.1 = true) (hl : ascT d.2.links) (hn : ∀ x ∈ w, x.1 ≠ d.1 → x.2.node ≠ d.2.node) : TabW pb lt (insD lt (dropD w d.1) d) := by
  have h1 := h.drop d.1
  have hne : ∀ x ∈ dropD w d.1, x ∈ w ∧ x.1 ≠ d.1 := fun x hx => by simpa [dropD] using hx
  refine ⟨fun x hx => ?_, insD_asc hO hp (fun x hx => ⟨h.p x (hne x hx).1, (hne x hx).2⟩) h1.a, insD_node (fun x hx => hn x (hne x hx).1 (hne x hx).2) h1.n, fun x hx => ?_⟩
  · rcases insD_mem.1 hx with rfl | hx
    · exact hp
    · exact h1.p x hx
  · rcases insD_mem.1 hx with rfl | hx
    · exact hl
    · exact h1.l x hx
theorem TabL.drop {m : SMap Own} {w : List Dv} (h : TabL pb lt m w) (p : Txt) : TabL pb lt (delS p m) (dropD w p) := by
  refine ⟨h.toTabW.drop p, one_del p h.o, fun q x => ?_⟩
  rw [get_del _ _ h.o]
  simp only [dropD, List.mem_filter, Bool.not_eq_true', decide_eq_false_iff_not]
  split
  · rename_i e; subst e; simp
  · rename_i e
    rw [h.g]
    exact ⟨fun hx => ⟨hx, fun e2 => e e2.symm⟩, fun hx => hx.1⟩
theorem TabL.put (hO : POrd pb lt) {m : SMap Own} {w : List Dv} (h : TabL pb lt m w) {p : Txt} {x : Own} (hp : pb p = true) (hl : ascT x.links) (hn : ∀ d ∈ w, d.1 ≠ p → d.2.node ≠ x.node) : TabL pb lt (setS p x m) (insD lt (dropD w p) (p, x)) := by
  refine ⟨h.toTabW.put hO (d := (p, x)) hp hl hn, one_set p x h.o, fun q y => ?_⟩
  rw [get_set, insD_mem]
  simp only [dropD, List.mem_filter, Bool.not_eq_true', decide_eq_false_iff_not, Prod.mk.injEq]
  split
  · rename_i e; subst e
    simp [eq_comm]
  · rename_i e
    rw [h.g]
    constructor
    · exact fun hx => .inr ⟨hx, fun e2 => e e2.symm⟩
    · rintro (⟨e2, _⟩ | hx)
      · exact absurd e2.symm e
      · exact hx.1
theorem clm_mem {w : List Dv} {c : Cl} : c ∈ clm w ↔ ∃ d ∈ w, c.link ∈ d.2.links ∧ c.path = d.1 ∧ c.node = d.2.node ∧ c.prio = d.2.prio := by
  simp only [clm, List.mem_flatMap, clOf, List.mem_map]
  constructor
  · rintro ⟨d, hd, s, hs, rfl⟩; exact ⟨d, hd, hs, rfl, rfl, rfl⟩
  · rintro ⟨d, hd, h1, h2, h3, h4⟩
    refine ⟨d, hd, c.link, h1, ?_⟩
    cases c; simp only at h2 h3 h4 ⊢
    rw [h2, h3, h4]
theorem clm_ok (hO : POrd pb lt) {w : List Dv} (h : TabW pb lt w) : okCl pb (clm w) := by
  refine ⟨fun c hc => ?_, ?_⟩
  · obtain ⟨d, hd, _, h2, _⟩ := clm_mem.1 hc
    rw [h2]; exact h.p d hd
  · have key : ∀ w : List Dv, (w.Pairwise fun a b => lt a.1 b.1 = true) → (∀ d ∈ w, ascT d.2.links) → (clm w).Pairwise fun c d => ¬ (c.link = d.link ∧ c.path = d.path) := fun w => by
      induction w with
      | nil => intro _ _; exact .nil
      | cons d r ih =>
        intro ha hl
        rw [List.pairwise_cons] at ha
        show (clOf d ++ clm r).Pairwise _
        rw [List.pairwise_append]
        refine ⟨?_, ih ha.2 fun x hx => hl x (by simp [hx]), fun a ha' b hb => ?_⟩
        · unfold clOf
          rw [List.pairwise_map]
          refine (hl d (by simp)).imp fun {s t} hst => fun ⟨e, _⟩ => ?_
          subst e; exact List.lt_irrefl _ hst
        · rintro ⟨_, e⟩
          simp only [clOf, List.mem_map] at ha'
          obtain ⟨s, _, rfl⟩ := ha'
          obtain ⟨x, hx, _, h2, _⟩ := clm_mem.1 hb
          have := ha.1 x hx
          rw [← h2, ← e] at this
          simp only at this
          rw [hO.irr] at this; cases this
    exact key w h.a h.l
theorem okCl.sub {O O' : List Cl} (h : okCl pb O) (hs : O'.Sublist O) : okCl pb O' := ⟨fun c hc => h.1 c (hs.subset hc), h.2.sublist hs⟩
theorem okCl.perm {O O' : List Cl} (h : okCl pb O) (hs : O'.Perm O) : okCl pb O' :=
  ⟨fun c hc => h.1 c (hs.mem_iff.1 hc), (hs.pairwise_iff fun {_a _b} hab ⟨e1, e2⟩ => hab ⟨e1.symm, e2.symm⟩).2 h.2⟩
end
end Go.Ab
namespace Go.Ab
open Go
def insL : List Lk → Lk → List Lk
  | [], x => [x]
  | y :: r, x => if y.name < x.name then y :: insL r x else x :: y :: r
theorem insL_mem {x z : Lk} : ∀ {l : List Lk}, z ∈ insL l x ↔ z = x ∨ z ∈ l
  | [] => by simp [insL]
  | y :: r => by
    unfold insL
    split
    · simp only [List.mem_cons, insL_mem (l := r)]
      constructor
      · rintro (h | h | h) <;> simp [h]
      · rintro (h | h | h) <;> simp [h]
    · simp
theorem insL_asc {x : Lk} : ∀ {l : List Lk}, (∀ y ∈ l, y.name ≠ x.name) → (l.Pairwise fun a b => a.name < b.name) → (insL l x).Pairwise fun a b => a.name < b.name
  | [], _, _ => by simp [insL]
  | y :: r, hn, h => by
    rw [List.pairwise_cons] at h
    unfold insL
    split
    · rename_i hy
      rw [List.pairwise_cons]
      refine ⟨fun z hz => ?_, insL_asc (fun z hz => hn z (by simp [hz])) h.2⟩
      rcases insL_mem.1 hz with rfl | hz
      · exact hy
      · exact h.1 z hz
    · rename_i hy
      have h3 := txt_tri _ _ hy (hn y (by simp))
      rw [List.pairwise_cons, List.pairwise_cons]
      refine ⟨fun z hz => ?_, h⟩
      rcases List.mem_cons.1 hz with rfl | hz
      · exact h3
      · exact List.lt_trans h3 (h.1 z hz)
section
variable {pb : Txt → Bool} {lt : Txt → Txt → Bool}
variable (lt) in
def beatB (c d : Cl) : Bool := (decide (d.link = c.link) && betB lt d c) || benB c.link d.link
variable (lt) in
/-- Whether a claim leads its link. -/
def leadB (O : List Cl) (c : Cl) : Bool := !O.any fun d => beatB lt c d
variable (lt) in
def refR (O : List Cl) (l : List Cl) : List Lk := l.foldl (fun out c => if leadB lt O c then insL out (toLk c) else out) []
theorem refR_snoc (O l : List Cl) (c : Cl) : refR lt O (l ++ [c]) = if leadB lt O c then insL (refR lt O l) (toLk c) else refR lt O l := by unfold refR; rw [List.foldl_append]; rfl
theorem lead_iff {O : List Cl} {c : Cl} (hc : c ∈ O) : leadB lt O c = true ↔ bestC lt O c ∧ ∀ d ∈ O, benB c.link d.link = false := by
  unfold leadB bestC beatB
  simp only [Bool.not_eq_true', List.any_eq_false, Bool.or_eq_true, Bool.and_eq_true, decide_eq_true_eq, not_or, not_and, Bool.not_eq_true]
  constructor
  · intro h; exact ⟨⟨hc, fun d hd e => (h d hd).1 e⟩, fun d hd => (h d hd).2⟩
  · intro h d hd; exact ⟨h.1.2 d hd, h.2 d hd⟩
theorem refR_ok (hO : POrd pb lt) {O : List Cl} (hk : okCl pb O) : ResOf lt O (refR lt O O) := by
  have key : ∀ l r : List Cl, O = l ++ r → ((refR lt O l).Pairwise fun a b => a.name < b.name) ∧ ∀ x, x ∈ refR lt O l ↔ ∃ c ∈ l, leadB lt O c = true ∧ toLk c = x := fun l => by
    have snoc : ∀ {P : List Cl → Prop}, P [] → (∀ l e, P l → P (l ++ [e])) → ∀ l, P l := fun {P} h0 hs l => by
      have : ∀ r : List Cl, P r.reverse := fun r => by
        induction r with
        | nil => exact h0
        | cons a r ih => rw [List.reverse_cons]; exact hs _ _ ih
      have h := this l.reverse
      rwa [List.reverse_reverse] at h
    refine snoc (P := fun l => ∀ r : List Cl, O = l ++ r → ((refR lt O l).Pairwise fun a b => a.name < b.name) ∧ ∀ x, x ∈ refR lt O l ↔ ∃ c ∈ l, leadB lt O c = true ∧ toLk c = x) ?_ ?_ l
    · intro r _; exact ⟨.nil, by simp [refR]⟩
    · intro l c ih r hr
      obtain ⟨h1, h2⟩ := ih (c :: r) (by rw [hr]; simp)
      rw [refR_snoc]
      split
      · rename_i hl
        refine ⟨insL_asc (fun y hy e => ?_) h1, fun x => ?_⟩
        · obtain ⟨d, hd, h3, rfl⟩ := (h2 y).1 hy
          have hdO : d ∈ O := by rw [hr]; simp [hd]
          have hcO : c ∈ O := by rw [hr]; simp
          have e2 := best_uniq hO hk ((lead_iff hdO).1 h3).1 ((lead_iff hcO).1 hl).1 e
          have h4 := hk.2
          rw [hr, List.pairwise_append] at h4
          have h5 := (List.pairwise_append.1 h4.1).2.2 d hd c (by simp)
          exact h5 ⟨by rw [e2], by rw [e2]⟩
        · rw [insL_mem, h2]
          constructor
          · rintro (rfl | ⟨d, hd, h3, rfl⟩)
            · exact ⟨c, by simp, hl, rfl⟩
            · exact ⟨d, by simp [hd], h3, rfl⟩
          · rintro ⟨d, hd, h3, rfl⟩
            rcases List.mem_append.1 hd with hd | hd
            · exact .inr ⟨d, hd, h3, rfl⟩
            · rw [List.mem_singleton.1 hd]; exact .inl rfl
      · rename_i hl
        refine ⟨h1, fun x => ?_⟩
        rw [h2]
        constructor
        · rintro ⟨d, hd, h3, rfl⟩; exact ⟨d, by simp [hd], h3, rfl⟩
        · rintro ⟨d, hd, h3, rfl⟩
          rcases List.mem_append.1 hd with hd | hd
          · exact ⟨d, hd, h3, rfl⟩
          · rw [List.mem_singleton.1 hd] at h3; exact absurd h3 hl
  obtain ⟨h1, h2⟩ := key O [] (by simp)
  refine ⟨h1, fun x => ?_⟩
  rw [h2]
  constructor
  · rintro ⟨c, hc, h3, rfl⟩
    obtain ⟨h4, h5⟩ := (lead_iff hc).1 h3
    exact ⟨c, h4, rfl, h5⟩
  · rintro ⟨c, h4, rfl, h5⟩
    exact ⟨c, h4.1, (lead_iff h4.1).2 ⟨h4, h5⟩, rfl⟩
/-- Sorted by name: what the range over the map brought. -/
theorem res_of_sorted {O : List Cl} {L S : List Lk} (hp : S.Perm L) (hs : S.Pairwise fun a b => ¬ b.name < a.name) (hn : L.Pairwise fun a b => a.name ≠ b.name) (hm : ∀ x, x ∈ L ↔ ∃ c, bestC lt O c ∧ toLk c = x ∧ ∀ d ∈ O, benB c.link d.link = false) : ResOf lt O S := by
  have hn' : S.Pairwise fun a b => a.name ≠ b.name := (hp.pairwise_iff fun {a b} h e => h e.symm).2 hn
  refine ⟨(hs.and hn').imp fun {a b} h => ?_, fun x => by rw [hp.mem_iff, hm]⟩
  exact txt_tri _ _ h.1 fun e => h.2 e.symm
end
end Go.Ab
