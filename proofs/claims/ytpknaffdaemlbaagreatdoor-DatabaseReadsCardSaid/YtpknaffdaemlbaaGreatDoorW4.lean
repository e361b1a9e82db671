/- Numerals: what FormatInt writes. -/
import Derived.Test.YtpknaffdaemlbaaGreatDoorW3
import Derived.Test.YtpknaffdaemlbaaGreatDoorW2
import Derived.Test.YtpknaffdaemlbaaGreatDoorC1
namespace Go.Ab
open Go Go.Proofs

theorem below_grow (w : World) (k : Nat) (os : Array Go.Obj) : Go.RowKit.Below w.heap.size w (Go.Sort.grow (w.drewN k) os) := by
  refine ⟨rfl, rfl, rfl, by simp [Go.Sort.grow], fun b hb => ?_⟩
  simp only [Go.Sort.grow]
  rw [Array.getElem?_append_left (by simpa using hb)]
  simp
theorem Itoa_c (n : Int) (h0 : -9223372036854775808 ≤ n) (h1 : n ≤ 9223372036854775807) : ACalls Tryz.prog 64 [.int .i64 n] [] (.str (baseT 10 n)) [] := by
  refine .of_below (by kernel_rfl) fun c vs hv hg => ?_
  simp only [Vals, Val] at hv
  obtain ⟨v, vs', rfl, rfl, rfl⟩ := hv
  refine (Tryz.strconv_Itoa n h0 h1 c.w hg.2.1).mono fun e w' h => ?_
  obtain ⟨rfl, k, os, rfl⟩ := h
  exact ⟨_, rfl, below_grow _ _ _, fun c' => by simp only [Val, baseT_itoa]⟩
theorem FormatInt10_c (n : Int) (h0 : -9223372036854775808 ≤ n) (h1 : n ≤ 9223372036854775807) : ACalls Tryz.prog 151 [.int .i64 n, .int .i64 10] [] (.str (baseT 10 n)) [] := by
  refine .of_below (by kernel_rfl) fun c vs hv hg => ?_
  simp only [Vals, Val] at hv
  obtain ⟨v, vs', rfl, rfl, v2, vs2, rfl, rfl, rfl⟩ := hv
  refine (Tryz.internal_strconv_FormatInt_10 n h0 h1 c.w hg.2.1).mono fun e w' h => ?_
  obtain ⟨rfl, k, os, rfl⟩ := h
  exact ⟨_, rfl, below_grow _ _ _, fun c' => by simp only [Val, baseT_itoa]⟩

set_option maxHeartbeats 1000000 in
set_option maxRecDepth 100000 in
theorem tz8 (w : World) (h : w.cell? ⟨6, 7, none⟩ = some (.int .u8 3)) : Calls Tryz.prog 235 #[.int .u64 8] w fun e w' => e = .returned (.int .i64 3) ∧ w' = w := by
  have e : IntKind.u64.wrap (bits BinOp.and IntKind.u64 8 (IntKind.u64.wrap (-8)) * 285870213051353865) / 288230376151711744 = 7 := by decide +kernel
  go_enter Tryz.func235, Tryz.ntmps235
  go_wp2
  all_goals go_ret
  all_goals exact ⟨rfl, rfl⟩
theorem tz8_c : ACalls Tryz.prog 235 [.int .u64 8] [] (.int .i64 3) [] :=
  of_same (by kernel_rfl) fun c vs hv hg => by
    simp only [Vals, Val] at hv
    obtain ⟨v, vs', rfl, rfl, rfl⟩ := hv
    exact ⟨_, tz8 c.w hg.2.2.2.2, fun c' => by simp only [Val]⟩
theorem tz_c : ACalls Tryz.prog 212 [.int .u64 8] [] (.int .i64 3) [] := by
  refine acalls_F c212_ok rfl ?_
  unfold c212
  simp +decide -dsimp -implicitDefEqProofs [go_sem]
  refine callE_pure tz8_c rfl rfl ?_
  simp +decide -dsimp -implicitDefEqProofs [go_sem]
theorem pow2_c : ACalls Tryz.prog 211 [.int .i64 8] [] (.bool true) [] := by
  refine acalls_F c211_ok rfl ?_
  unfold c211
  simp +decide -dsimp -implicitDefEqProofs [go_sem]

def bCell (c : UInt8) : AV := .int .u8 c.toNat
def arrL (i : Nat) (ds : List UInt8) : List AV := List.replicate i (.int .u8 0) ++ ds.map bCell
theorem arrL_len (i : Nat) (ds : List UInt8) : (arrL i ds).length = i + ds.length := by simp [arrL]
theorem arrL_set (i : Nat) (ds : List UInt8) (c : UInt8) : (arrL (i + 1) ds).take i ++ [.int .u8 c.toNat] ++ (arrL (i + 1) ds).drop (i + 1) = arrL i (c :: ds) := by
  have e1 : (arrL (i + 1) ds).take i = List.replicate i (.int .u8 0) := by
    rw [arrL, List.take_append_of_le_length (by simp), List.take_replicate]; congr 1; omega
  have e2 : (arrL (i + 1) ds).drop (i + 1) = ds.map bCell := by
    rw [arrL, List.drop_append_of_le_length (by simp), List.drop_eq_nil_of_le (by simp)]; rfl
  rw [e1, e2]; simp [arrL, bCell]
theorem arrL_win (i : Nat) (ds : List UInt8) : unb (((arrL i ds).drop i).map fun x => [x]) = some ds := by
  have e2 : (arrL i ds).drop i = ds.map bCell := by
    rw [arrL, List.drop_append_of_le_length (by simp), List.drop_eq_nil_of_le (by simp)]; rfl
  rw [e2, List.map_map]
  exact unb_map ds
theorem arr65 : arrL 65 [] = zU65 := rfl
theorem and7 (u : Nat) (h : u < 18446744073709551616) : bits .and .u64 (u : Int) 7 = ((u % 8 : Nat) : Int) := by
  have := bits_mask .u64 64 (by decide) (fun n h0 h1 => by rw [IntKind.wrap_u64]; omega) 3 (by decide) (u : Int) (by omega) (by omega)
  simpa using this
theorem w64u {n : Int} (h0 : 0 ≤ n) (h1 : n < 18446744073709551616) : IntKind.u64.wrap n = n := by rw [IntKind.wrap_u64]; omega
theorem dig36_fin : ∀ x : Fin 10, dig36[x.val]? = some (digC x.val) := by decide
theorem arrL_closed (k i : Nat) (ds : List UInt8) : closedL k (arrL i ds) = true := by
  have key : ∀ l : List AV, (∀ x ∈ l, closed k x = true) → closedL k l = true := by
    intro l
    induction l with
    | nil => intro _; simp [closedL]
    | cons x l ih => intro h; simp only [closedL, Bool.and_eq_true]; exact ⟨h x (by simp), ih fun y hy => h y (by simp [hy])⟩
  refine key _ fun x hx => ?_
  rcases List.mem_append.1 hx with hx | hx
  · rw [(List.mem_replicate.1 hx).2]; rfl
  · obtain ⟨c, _, rfl⟩ := List.mem_map.1 hx; rfl
theorem arrL_cvT (H : List AObj) (k i : Nat) (ds : List UInt8) : cvT H k (arrL i ds) (arrL i ds) := cvT_self (arrL_closed k i ds)
set_option maxRecDepth 20000 in
theorem fbits_c (n : Nat) (hn : n < 1000000) : ACalls Tryz.prog 184 [.nils, .int .u64 n, .int .i64 8, .bool false, .bool false] [] (.tup [.nils, .str (digsB 8 n)]) [] := by
  refine acalls_F c184_ok rfl ?_
  unfold c184
  rw [← arr65]
  simp +decide -dsimp -implicitDefEqProofs [go_sem]
  refine callE_pure pow2_c rfl rfl ?_
  simp +decide -dsimp -implicitDefEqProofs [go_sem]
  refine callE_pure tz_c rfl rfl ?_
  simp +decide -dsimp -implicitDefEqProofs [go_sem]
  refine loop_of (S := Nat × List UInt8 × Nat) (fun s => ⟨tmps 102 [(0, .nils), (1, .int .u64 s.2.2), (3, .bool false), (4, .bool false), (10, .nils), (12, .ptr 0 0), (13, .int .i64 s.1), (14, .int .u64 3), (15, .int .u64 8), (16, .int .u64 7)], [.box 238 (arrL s.1 s.2.1)]⟩) (fun s => s.2.2)
    (fun s => s.1 + s.2.1.length = 65 ∧ digsB 8 n = digsB 8 s.2.2 ++ s.2.1 ∧ s.2.2 * 8 ^ s.2.1.length ≤ n ∧ (1 ≤ s.2.2 ∨ s.2.1 = []) ∧ s.2.2 ≤ n) (65, [], n) (by simp) (cut_of (by simp) ?_) ?_
  · simp +decide -dsimp -implicitDefEqProofs [go_sem, arrL_cvT]
  rintro ⟨i, ds, u⟩ ⟨h1, h2, h3, h4, h5⟩
  simp only at h1 h2 h3 h4 h5
  have hlen : ds.length ≤ 7 := by
    rcases h4 with h4 | rfl
    · apply Nat.le_of_not_lt
      intro h
      have e1 : 8 ^ 8 ≤ 8 ^ ds.length := Nat.pow_le_pow_right (by decide) h
      have e2 : 8 ^ ds.length ≤ u * 8 ^ ds.length := Nat.le_mul_of_pos_left _ h4
      have e3 : (8 : Nat) ^ 8 = 16777216 := by decide
      omega
    · simp
  obtain ⟨j, rfl⟩ : ∃ j, i = j + 1 := ⟨i - 1, by omega⟩
  by_cases h : 8 ≤ u
  · have h8 : (8 : Int) ≤ u := by omega
    have hm : u % 8 < 10 := by omega
    have w1 : IntKind.i64.wrap ((j : Int) + 1 - 1) = j := by rw [Int.add_sub_cancel]; exact w64 (by omega) (by omega)
    have w2 : IntKind.i64.wrap (j : Int) = j := w64 (by omega) (by omega)
    have a7 : bits .and .u64 (u : Int) 7 = (u : Int) % 8 := by rw [and7 u (by omega)]; omega
    have p7 : (0 : Int) ≤ (u : Int) % 8 := by omega
    have t7 : ((u : Int) % 8).toNat = u % 8 := by omega
    have hd : dig36[u % 8]? = some (digC (u % 8)) := dig36_fin ⟨u % 8, hm⟩
    have d8 : (u : Int).fdiv 8 = (u : Int) / 8 := Int.fdiv_eq_ediv_of_nonneg _ (by decide)
    have hj : j < 65 := by omega
    have hj2 : (j : Int) < 65 := by omega
    have hset := arrL_set j ds (digC (u % 8))
    simp +decide -dsimp -implicitDefEqProofs [go_sem, h8, w2, a7, d8, p7, t7, hd, hj, arrL_len, hset]
    have hd8 : (u : Int) / 8 = ((u / 8 : Nat) : Int) := by omega
    rw [hd8]
    refine next_of (j, digC (u % 8) :: ds, u / 8) ⟨by simp; omega, ?_, ?_, by left; show 1 ≤ u / 8; omega, by show u / 8 ≤ n; omega⟩ (by show u / 8 < u; omega) (cut_of (by simp) ?_)
    · rw [h2, digsB_big (by decide) h]; simp
    · simp only [List.length_cons, Nat.pow_succ]
      have e1 : u / 8 * (8 ^ ds.length * 8) = (u / 8 * 8) * 8 ^ ds.length := by rw [Nat.mul_comm (8 ^ ds.length), Nat.mul_assoc]
      rw [e1]
      exact Nat.le_trans (Nat.mul_le_mul_right _ (by omega)) h3
    simp +decide -dsimp -implicitDefEqProofs [go_sem, arrL_cvT]
  · have h8 : ¬ (8 : Int) ≤ u := by omega
    have w1 : IntKind.i64.wrap ((j : Int) + 1 - 1) = j := by rw [Int.add_sub_cancel]; exact w64 (by omega) (by omega)
    have w2 : IntKind.i64.wrap (j : Int) = j := w64 (by omega) (by omega)
    have hd : dig36[u]? = some (digC u) := dig36_fin ⟨u, by omega⟩
    have hj : j < 65 := by omega
    have hj2 : (j : Int) < 65 := by omega
    have hset := arrL_set j ds (digC u)
    have hw := arrL_win j (digC u :: ds)
    have e2 : digsB 8 n = digC u :: ds := by rw [h2, digsB_small (by omega)]; rfl
    have hn : (65 - (j : Int)).toNat = ds.length + 1 := by omega
    have e3 : ((arrL j (digC u :: ds)).drop j).take (ds.length + 1) = (arrL j (digC u :: ds)).drop j := List.take_of_length_le (by simp [arrL_len])
    have hl : j + (ds.length + 1) = 65 := by omega
    have hl2 : j + (ds.length + 1) ≤ j + (ds.length + 1) := Nat.le_refl _
    simp +decide -dsimp -implicitDefEqProofs [go_sem, h8, w2, hd, hj, hj2, arrL_len, hset, hn, e3, e2, hl]
    refine ⟨by omega, ?_⟩
    rw [← List.map_drop, hw]
    exact rfl
end Go.Ab
namespace Go.Ab
open Go Go.Proofs
theorem FormatInt8_c (n : Int) (h0 : 0 ≤ n) (h1 : n < 1000000) : ACalls Tryz.prog 151 [.int .i64 n, .int .i64 8] [] (.str (baseT 8 n)) [] := by
  refine acalls_F c151_ok rfl ?_
  unfold c151
  obtain ⟨m, rfl⟩ : ∃ m : Nat, n = m := ⟨n.toNat, by omega⟩
  have e : baseT 8 (m : Int) = digsB 8 m := by rw [baseT, if_neg (by omega)]; simp
  have w : IntKind.u64.wrap (m : Int) = m := w64u (by omega) (by omega)
  have h2 : ¬ (m : Int) < 0 := by omega
  rw [e]
  simp +decide -dsimp -implicitDefEqProofs [go_sem, w, h2]
  refine callE_pure (fbits_c m (by omega)) rfl rfl ?_
  simp +decide -dsimp -implicitDefEqProofs [go_sem]
theorem fmtInt_c {n : Int} {b : Nat} {t : List UInt8} (h : ACalls Tryz.prog 151 [.int .i64 n, .int .i64 b] [] (.str t) []) : ACalls Tryz.prog 113 [.int .i64 n, .int .i64 b] [] (.str t) [] := by
  refine acalls_F c113_ok rfl ?_
  unfold c113
  simp +decide -dsimp -implicitDefEqProofs [go_sem]
  refine callE_pure h rfl rfl ?_
  simp +decide -dsimp -implicitDefEqProofs [go_sem]
theorem fmt8_c (n : Int) (h0 : 0 ≤ n) (h1 : n < 1000000) : ACalls Tryz.prog 113 [.int .i64 n, .int .i64 8] [] (.str (baseT 8 n)) [] := fmtInt_c (b := 8) (FormatInt8_c n h0 h1)
theorem fmt10_c (n : Int) (h0 : -9223372036854775808 ≤ n) (h1 : n ≤ 9223372036854775807) : ACalls Tryz.prog 113 [.int .i64 n, .int .i64 10] [] (.str (baseT 10 n)) [] := fmtInt_c (b := 10) (FormatInt10_c n h0 h1)
theorem number_c {n : Int} {b : Nat} (h : ACalls Tryz.prog 113 [.int .i64 n, .int .i64 b] [] (.str (baseT b n)) []) : ACalls Tryz.prog 66 [.int .i64 n, .int .i64 b] [] (.str (numT b n)) [] := by
  refine acalls_F c66_ok rfl ?_
  unfold c66 numT
  by_cases h0 : n = 0
  · subst h0
    simp +decide -dsimp -implicitDefEqProofs [go_sem]
  · simp +decide -dsimp -implicitDefEqProofs [go_sem, h0]
    refine callE_pure h rfl rfl ?_
    simp +decide -dsimp -implicitDefEqProofs [go_sem]

structure Lines (r : Rcd) : Prop where
  len : (encT r).length < 100000000
  props : r.props.length < 1000000
  tags : r.tags.length < 1000000
  links : r.links.length < 1000000
  run : r.run.length < 1000000
  load : r.load.length < 1000000
end Go.Ab
namespace Go.Ab
open Go Go.Proofs

theorem linesT_len {b : UInt8} {l : List (List UInt8)} {B : Nat} (h : ∀ x ∈ l, x.length ≤ B) : (linesT b l).length ≤ l.length * (B + 3) := by
  induction l with
  | nil => simp [linesT]
  | cons x l ih =>
    have h1 := h x (by simp)
    have h2 := ih fun y hy => h y (by simp [hy])
    have e : linesT b (x :: l) = lineT b x ++ linesT b l := rfl
    rw [e]
    simp only [List.length_append, lineT, List.length_cons, List.length_nil, Nat.add_mul]
    omega
theorem filledT_len {b : UInt8} {x : List UInt8} : (filledT b x).length ≤ x.length + 3 := by
  unfold filledT; split
  · simp
  · simp [lineT]
theorem splitC_len {c : UInt8} {B : Nat} : ∀ {s : List UInt8}, (∀ x ∈ splitC c s, x.length ≤ B) → s.length + 1 ≤ (splitC c s).length * (B + 1)
  | [], _ => by simp [splitC]
  | x :: r, h => by
    unfold splitC at h ⊢
    split at h
    · rename_i e
      rw [if_pos e]
      have := splitC_len (c := c) (s := r) fun y hy => h y (by simp [hy])
      simp only [List.length_cons, Nat.add_mul]; omega
    · rename_i e
      rw [if_neg e]
      split at h
      · rename_i a l hl
        have h1 := h (x :: a) (by simp)
        have key : ∀ (s : List UInt8) (a : List UInt8) (l : List (List UInt8)), splitC c s = a :: l → (∀ y ∈ l, y.length ≤ B) → s.length ≤ a.length + l.length * (B + 1) := by
          intro s
          induction s with
          | nil => intro a l hs _; simp
          | cons y s ih =>
            intro a l hs hall
            unfold splitC at hs
            split at hs
            · simp only [List.cons.injEq] at hs
              obtain ⟨rfl, rfl⟩ := hs
              obtain ⟨a', l', hs'⟩ := List.exists_cons_of_ne_nil (splitC_ne c s)
              rw [hs'] at hall
              have := ih a' l' hs' fun y hy => hall y (by simp [hy])
              have h2 := hall a' (by simp)
              rw [hs']
              simp only [List.length_cons, List.length_nil, Nat.add_mul]; omega
            · split at hs
              · rename_i a' l' hs'
                simp only [List.cons.injEq] at hs
                obtain ⟨rfl, rfl⟩ := hs
                have := ih a' l' hs' hall
                simp only [List.length_cons]; omega
              · rename_i hs'; exact absurd hs' (splitC_ne c s)
        have := key r a l hl fun y hy => h y (by simp [hy])
        simp only [List.length_cons, Nat.add_mul] at h1 ⊢; omega
      · rename_i hl; exact absurd hl (splitC_ne c r)
theorem path_small {s : List UInt8} (h : placeB s = true) : s.length ≤ 240 := by
  unfold placeB at h
  split at h
  · rename_i l hl
    simp only [decide_eq_true_eq] at h
    unfold pathL at hl
    split at hl
    · cases hl
    · rename_i c r
      split at hl
      · rename_i hc
        simp only [Option.some.injEq] at hl
        have h2 := List.all_eq_true.1 hc.2
        rw [hl] at h2
        rw [splitL_eq] at hl
        have := splitC_len (c := 47) (B := 32) (s := r) fun x hx => valid_small (h2 x (hl ▸ hx))
        rw [hl] at this
        have h3 : l.length * 33 ≤ 7 * 33 := Nat.mul_le_mul_right _ h
        simp only [List.length_cons]; omega
      · cases hl
  · cases h
theorem text_small {s : List UInt8} (h : textB s = true) : s.length ≤ 256 := by
  unfold textB at h
  simp only [Bool.and_eq_true, decide_eq_true_eq] at h
  exact h.2
theorem link_small {s : List UInt8} (h : linkB s = true) : s.length ≤ 256 := by
  unfold linkB at h
  simp only [Bool.and_eq_true, decide_eq_true_eq] at h
  exact h.1
theorem key_small {s : List UInt8} (h : keyNB s = true) : s.length ≤ 32 := by
  unfold keyNB at h
  simp only [Bool.and_eq_true, decide_eq_true_eq] at h
  exact h.1.1.2
theorem base_small {b : Nat} (hb : 2 ≤ b) (hb2 : b ≤ 10) {n : Int} (h : n.natAbs < b ^ 10) : (baseT b n).length ≤ 11 := by
  have h4 := (digsB_spec hb hb2 n.natAbs).2.2.2 10 (by decide) h
  unfold baseT
  split
  · simp; omega
  · have e : n.toNat = n.natAbs := by omega
    rw [e]; omega
theorem num_small {b : Nat} (hb : 2 ≤ b) (hb2 : b ≤ 10) {n : Int} (h : n.natAbs < b ^ 10) : (numT b n).length ≤ 11 := by
  unfold numT; split
  · simp
  · exact base_small hb hb2 h

structure Small (r : Rcd) : Prop where
  path : r.path.length ≤ 240
  props : r.props.length ≤ 64
  attr : ∀ p ∈ r.props, p.1.length ≤ 32 ∧ p.2.length ≤ 256
  tags : r.tags.length ≤ 16
  tag : ∀ x ∈ r.tags, x.length ≤ 32
  links : r.links.length ≤ 16
  link : ∀ x ∈ r.links, x.length ≤ 256
  runs : r.run.length ≤ 16
  run : ∀ x ∈ r.run, x.length ≤ 256
  loads : r.load.length ≤ 16
  load : ∀ x ∈ r.load, x.length ≤ 256
  name : r.name.length ≤ 32
  owner : r.owner.length ≤ 32
  group : r.group.length ≤ 32
theorem small_of {r : Rcd} (h : soundB r = true) : Small r := by
  unfold soundB at h
  simp only [Bool.and_eq_true, Bool.or_eq_true, decide_eq_true_eq, risAB, risB, List.all_eq_true] at h
  obtain ⟨⟨⟨⟨⟨⟨⟨⟨⟨⟨⟨h1, h2⟩, h3⟩, h4⟩, h5⟩, h6⟩, h7⟩, h8⟩, h9⟩, h10⟩, h11⟩, h12⟩ := h
  have hg : ∀ p ∈ r.props, keyNB p.1 = true ∧ textB p.2 = true := fun p hp => by simpa [goodA] using h3.1.1 p hp
  have hf : ∀ x, fillB x = true → x.length ≤ 256 := fun x hx => by
    unfold fillB at hx; simp only [Bool.and_eq_true] at hx; exact text_small hx.2
  refine ⟨path_small h1, h3.2, fun p hp => ⟨key_small (hg p hp).1, text_small (hg p hp).2⟩, h4.2, fun x hx => valid_small (h4.1.1 x hx), h5.2, fun x hx => link_small (h5.1.1 x hx), h7, fun x hx => hf x (h8 x hx), h6.2, fun x hx => hf x (h6.1.1 x hx), ?_, ?_, ?_⟩
  · rcases h9 with h | h
    · rw [h]; simp
    · unfold ifaceB at h; simp only [Bool.and_eq_true] at h; exact valid_small h.1.1.1
  · rcases h12 with h | h
    · rw [h.1]; simp
    · exact valid_small h.1
  · rcases h12 with h | h
    · rw [h.2.1]; simp
    · exact valid_small h.2
theorem Small.few {r : Rcd} (h : Small r) : Few r := by
  have := h.path; have := h.tags; have := h.props; have := h.links; have := h.runs; have := h.loads
  exact ⟨by omega, by omega, by omega, fun x hx => by have := h.attr x hx; omega, by omega, fun x hx => by have := h.link x hx; omega, by omega, fun x hx => by have := h.run x hx; omega, by omega, fun x hx => by have := h.load x hx; omega⟩
theorem enc_small {r : Rcd} (h : soundB r = true) : (encT r).length ≤ 40000 := by
  have s := small_of h
  have n := nice_of h
  have hp := n.prio; have hm := n.mode; have hi := n.index
  have a1 : (baseT 10 r.index).length ≤ 11 := base_small (by decide) (by decide) (by omega)
  have a2 : (numT 10 r.prio).length ≤ 11 := num_small (by decide) (by decide) (by omega)
  have a3 : (numT 8 r.mode).length ≤ 11 := num_small (by decide) (by decide) (by omega)
  have b1 := linesT_len (b := 69) (l := r.props.map attrT) (B := 289) fun x hx => by
    obtain ⟨p, hp, rfl⟩ := List.mem_map.1 hx
    have := s.attr p hp
    simp only [attrT, List.length_append, List.length_cons]; omega
  have b2 := linesT_len (b := 71) s.tag
  have b3 := linesT_len (b := 76) s.link
  have b4 := linesT_len (b := 82) s.run
  have b5 := linesT_len (b := 77) s.load
  have c1 := @filledT_len 78 r.name
  have c2 := @filledT_len 79 r.owner
  have c3 := @filledT_len 81 r.group
  have c4 := @filledT_len 89 (numT 10 r.prio)
  have c5 := @filledT_len 88 (numT 8 r.mode)
  have := s.path; have := s.props; have := s.tags; have := s.links; have := s.runs; have := s.loads; have := s.name; have := s.owner; have := s.group
  rw [List.length_map] at b1
  simp only [encT, List.length_append, lineT, List.length_cons, List.length_nil]
  omega
end Go.Ab
namespace Go.Ab
open Go Go.Proofs

theorem lines_e {x : AObj} {tl : List AObj} {l : List UInt8} {b : UInt8} {ts : List (List UInt8)} {K : List AObj → AV → Prop} {u : TagOf K} (hn : ts.length ≤ 1000000) (hs : l.length + (linesT b ts).length ≤ 1000000000)
    (hK : ∀ l', l' = l ++ linesT b ts → K (x :: .box 116 [.ptr 1 0, .own 2 l'.length] :: .reg 5 1 (l'.map bRow) :: tl) (.tup [])) :
    callE Tryz.prog 63 [.ptr 1 0, .int .u8 b.toNat, .imm (ts.map sRow)] (x :: .box 116 [.ptr 1 0, .own 2 l.length] :: .reg 5 1 (l.map bRow) :: tl) K u := by
  refine callE_frame [1, 2] (lines_c (.inl rfl) b ts (.inr rfl) hn hs) rfl rfl (by simp) (by simp +decide -dsimp -implicitDefEqProofs [go_sem]) (by simp +decide -dsimp -implicitDefEqProofs [go_sem, bld]) ?_
  have := hK _ rfl
  simpa [go_sem, bld] using this
theorem lines_e0 {x : AObj} {b : UInt8} {ts : List (List UInt8)} {K : List AObj → AV → Prop} {u : TagOf K} (h0 : ts ≠ []) (hn : ts.length ≤ 1000000) (hs : (linesT b ts).length ≤ 1000000000)
    (hK : ∀ l', l' = linesT b ts → K [x, .box 116 [.ptr 1 0, .own 2 l'.length], .reg 5 1 (l'.map bRow)] (.tup [])) :
    callE Tryz.prog 63 [.ptr 1 0, .int .u8 b.toNat, .imm (ts.map sRow)] [x, .box 116 [.nilp, .own 2 0], .reg 5 1 []] K u := by
  refine callE_frame [1, 2] (lines_c (l := []) (.inr ⟨rfl, rfl⟩) b ts (.inl h0) hn (by simpa using hs)) rfl rfl (by simp) (by simp +decide -dsimp -implicitDefEqProofs [go_sem]) (by simp +decide -dsimp -implicitDefEqProofs [go_sem, bld0]) ?_
  have := hK _ rfl
  simpa [go_sem, bld] using this
theorem filled_e {x : AObj} {tl : List AObj} {l : List UInt8} {b : UInt8} {s : List UInt8} {K : List AObj → AV → Prop} {u : TagOf K} (hs : l.length + s.length + 3 ≤ 1000000000)
    (hK : ∀ l', l' = l ++ filledT b s → K (x :: .box 116 [.ptr 1 0, .own 2 l'.length] :: .reg 5 1 (l'.map bRow) :: tl) (.tup [])) :
    callE Tryz.prog 65 [.ptr 1 0, .int .u8 b.toNat, .str s] (x :: .box 116 [.ptr 1 0, .own 2 l.length] :: .reg 5 1 (l.map bRow) :: tl) K u := by
  refine callE_frame [1, 2] (filledLine_c l b s hs) rfl rfl (by simp) (by simp +decide -dsimp -implicitDefEqProofs [go_sem]) (by simp +decide -dsimp -implicitDefEqProofs [go_sem, bld]) ?_
  have := hK _ rfl
  simpa [go_sem, bld] using this
theorem write_e {x : AObj} {tl : List AObj} {l : List UInt8} {s : List UInt8} {K : List AObj → AV → Prop} {u : TagOf K} (hs : l.length + s.length ≤ 1000000000)
    (hK : ∀ l', l' = l ++ s → K (x :: .box 116 [.ptr 1 0, .own 2 l'.length] :: .reg 5 1 (l'.map bRow) :: tl) (.tup [.int .i64 s.length, .raw .nilIface])) :
    callE Tryz.prog 56 [.ptr 1 0, .str s] (x :: .box 116 [.ptr 1 0, .own 2 l.length] :: .reg 5 1 (l.map bRow) :: tl) K u := by
  refine callE_frame [1, 2] (WriteString_c (.inl rfl) s hs) rfl rfl (by simp) (by simp +decide -dsimp -implicitDefEqProofs [go_sem]) (by simp +decide -dsimp -implicitDefEqProofs [go_sem, bld]) ?_
  have := hK _ rfl
  simpa [go_sem, bld] using this
theorem string_e {x : AObj} {tl : List AObj} {l : List UInt8} {K : List AObj → AV → Prop} {u : TagOf K} (h0 : l ≠ [])
    (hK : K (x :: .box 116 [.ptr 1 0, .own 2 l.length] :: .dead :: tl) (.str l)) :
    callE Tryz.prog 58 [.ptr 1 0] (x :: .box 116 [.ptr 1 0, .own 2 l.length] :: .reg 5 1 (l.map bRow) :: tl) K u := by
  refine callE_frame [1, 2] (String_c l h0) rfl rfl (by simp) (by simp +decide -dsimp -implicitDefEqProofs [go_sem]) (by simp +decide -dsimp -implicitDefEqProofs [go_sem, bld]) ?_
  simpa [go_sem, bldE] using hK

def encS (r : Rcd) : List UInt8 := if soundB r then encT r else []

set_option maxRecDepth 20000 in
set_option maxHeartbeats 1000000 in
theorem Encode_c (r : Rcd) (hf : Few r) : ACalls Tryz.prog 30 [.agg (rRow r)] [] (.tup [.str (encS r), .int .i64 (chkB r)]) [] := by
  refine acalls_A c30_ok rfl ?_
  unfold c30
  have c0 := sound_c r hf
  by_cases hS : soundB r = true
  rotate_left
  · have e1 : encS r = [] := by simp [encS, hS]
    have e2 : chkB r = 250 := by simp [chkB, hS]
    rw [e1, e2]
    refine awp_of ?_
    unfold rRow at c0 ⊢
    simp +decide -dsimp -implicitDefEqProofs [go_sem]
    refine callE_pure c0 (by simp [go_sem]) rfl ?_
    simp +decide -dsimp -implicitDefEqProofs [go_sem, hS]
  have e1 : encS r = encT r := by simp [encS, hS]
  have e2 : chkB r = 0 := by simp [chkB, hS]
  have hsm := enc_small hS
  have hsz := small_of hS
  have hni := nice_of hS
  have z1 := hsz.props; have z2 := hsz.tags; have z3 := hsz.links; have z4 := hsz.runs; have z5 := hsz.loads
  rw [e1, e2]
  refine awp_cut ⟨tmps 68 [(1, .ptr 0 0), (2, .str []), (3, .int .i64 0)], [.box 34 (rRow r)]⟩ (awp_of ?_) (awp_cut ⟨tmps 68 [(1, .ptr 0 0), (2, .str []), (3, .int .i64 0)], [.box 34 (rRow r)]⟩ (awp_of ?_)
    (awp_cut ⟨tmps 68 [(1, .ptr 0 0), (2, .str []), (3, .int .i64 0), (4, .ptr 1 0)], [.box 34 (rRow r), .box 116 [.nilp, .own 2 0], .reg 5 1 []]⟩ (awp_of ?_) (awp_of ?_)))
  · unfold rRow
    simp +decide -dsimp -implicitDefEqProofs [go_sem]
    refine cutE_of (by simp) ?_
    simp +decide -dsimp -implicitDefEqProofs [go_sem]
  · unfold rRow at c0 ⊢
    simp +decide -dsimp -implicitDefEqProofs [go_sem]
    refine callE_pure c0 (by simp [go_sem]) rfl ?_
    simp +decide -dsimp -implicitDefEqProofs [go_sem, hS]
    refine cutE_of (by simp) ?_
    simp +decide -dsimp -implicitDefEqProofs [go_sem]
  · unfold rRow
    simp +decide -dsimp -implicitDefEqProofs [go_sem]
    refine Wk.trans (Wk.nilB 1 1 5 1 rfl rfl (Nat.zero_le _)) (cut_of (by simp) ?_)
    simp +decide -dsimp -implicitDefEqProofs [go_sem]
  have hle : ∀ l : List UInt8, (∃ t, encT r = l ++ t) → l.length ≤ 40000 := fun l ⟨t, ht⟩ => by
    have := congrArg List.length ht
    rw [List.length_append] at this; omega
  unfold rRow
  simp +decide -dsimp -implicitDefEqProofs [go_sem]
  refine lines_e0 (b := 80) (ts := [r.path]) (by simp) (by simp) (by simp [linesT, lineT]; have := hsz.path; omega) fun l1 hl1 => ?_
  simp +decide -dsimp -implicitDefEqProofs [go_sem]
  refine callE_pure (Itoa_c r.index (by have := hni.index; omega) (by have := hni.index; omega)) rfl rfl ?_
  simp +decide -dsimp -implicitDefEqProofs [go_sem]
  have a1 : (baseT 10 r.index).length ≤ 11 := base_small (by decide) (by decide) (by have := hni.index; omega)
  have hl1' : l1.length ≤ 300 := by rw [hl1]; simp [linesT, lineT]; have := hsz.path; omega
  refine lines_e (b := 73) (ts := [baseT 10 r.index]) (by simp) (by simp [linesT, lineT]; omega) fun l2 hl2 => ?_
  have q1 : encT r = l1 ++ tl1 r := by rw [hl1, enc_tl]; simp [linesT]
  have q2 : encT r = l2 ++ tl2 r := by rw [q1, hl2]; simp [tl1, linesT]
  clear q1 hl1 hl1' hl2
  simp +decide -dsimp -implicitDefEqProofs [go_sem]
  refine loop_of (S := Nat × List UInt8) (fun s => ⟨tmps 68 [(1, .ptr 0 0), (2, .str []), (3, .int .i64 0), (4, .ptr 1 0), (20, .imm (r.props.map aRow)), (21, .int .i64 r.props.length), (22, .int .i64 s.1)], [.box 34 (rRow r), .box 116 [.ptr 1 0, .own 2 s.2.length], .reg 5 1 (s.2.map bRow)]⟩) (fun s => r.props.length - s.1)
    (fun s => s.1 ≤ r.props.length ∧ s.2 = l2 ++ linesT 69 ((r.props.take s.1).map attrT)) (0, l2) (by simp [linesT]) (cut_of (by simp) ?_) ?_
  · simp +decide -dsimp -implicitDefEqProofs [go_sem, rRow]
  rintro ⟨i, l⟩ ⟨hi, hl⟩
  simp only at hi hl
  have hlen2 := congrArg List.length q2
  by_cases h : i < r.props.length
  · have w : IntKind.i64.wrap ((i : Int) + 1) = i + 1 := w64 (by omega) (by omega)
    have hat := hsz.attr _ (List.getElem_mem h)
    have hnext : l ++ linesT 69 [attrT r.props[i]] = l2 ++ linesT 69 ((r.props.take (i + 1)).map attrT) := by
      rw [hl, List.take_succ_eq_append_getElem h, List.map_append, List.append_assoc]
      congr 1
      simp [linesT]
    have hll : l.length ≤ 40000 := by
      refine hle l ⟨linesT 69 ((r.props.drop i).map attrT) ++ tl3 r, ?_⟩
      rw [q2, hl, tl2]
      simp only [List.append_assoc]
      congr 1
      rw [← List.append_assoc]
      congr 1
      rw [linesT, linesT, linesT, ← List.flatMap_append, ← List.map_append, List.take_append_drop]
    unfold rRow
    simp +decide -dsimp -implicitDefEqProofs [go_sem, h, take_aRow]
    have ea : (aRow r.props[i]) = [.str r.props[i].1, .str r.props[i].2] := rfl
    simp +decide -dsimp -implicitDefEqProofs [go_sem, ea]
    refine ⟨by omega, by omega, ?_⟩
    have eb : attrT r.props[i] = r.props[i].1 ++ 61 :: r.props[i].2 := rfl
    rw [← eb]
    refine lines_e (b := 69) (ts := [attrT r.props[i]]) (by simp) (by simp [linesT, lineT, attrT]; omega) fun l' hl' => ?_
    simp +decide -dsimp -implicitDefEqProofs [go_sem, w]
    refine next_of (i + 1, l') ⟨by show i + 1 ≤ _; omega, by show l' = _; rw [hl', hnext]⟩ (by show _ - (i + 1) < _ - i; omega) (cut_of (by simp) ?_)
    simp +decide -dsimp -implicitDefEqProofs [go_sem]
  have ei : i = r.props.length := by omega
  subst ei
  rw [List.take_length] at hl
  have q3 : encT r = l ++ tl3 r := by rw [q2, hl, tl2]; simp
  clear hl q2 hlen2
  unfold rRow
  simp +decide -dsimp -implicitDefEqProofs [go_sem]
  have hlen := congrArg List.length q3
  simp only [tl3, List.length_append] at hlen
  refine lines_e (b := 71) (ts := r.tags) (by omega) (by omega) fun m0 hln => ?_
  have q4 : encT r = m0 ++ tl4 r := by rw [q3, hln, tl3]; simp
  clear hlen hln q3
  simp +decide -dsimp -implicitDefEqProofs [go_sem]
  have hlen := congrArg List.length q4
  simp only [tl4, List.length_append] at hlen
  refine lines_e (b := 76) (ts := r.links) (by omega) (by omega) fun m1 hln => ?_
  have q5 : encT r = m1 ++ tl5 r := by rw [q4, hln, tl4]; simp
  clear hlen hln q4
  simp +decide -dsimp -implicitDefEqProofs [go_sem]
  have hlen := congrArg List.length q5
  simp only [tl5, List.length_append] at hlen
  refine lines_e (b := 82) (ts := r.run) (by omega) (by omega) fun m2 hln => ?_
  have q6 : encT r = m2 ++ tl6 r := by rw [q5, hln, tl5]; simp
  clear hlen hln q5
  simp +decide -dsimp -implicitDefEqProofs [go_sem]
  have hlen := congrArg List.length q6
  simp only [tl6, List.length_append] at hlen
  refine lines_e (b := 77) (ts := r.load) (by omega) (by omega) fun m3 hln => ?_
  have q7 : encT r = m3 ++ tl7 r := by rw [q6, hln, tl6]; simp
  clear hlen hln q6
  simp +decide -dsimp -implicitDefEqProofs [go_sem]
  have hll := hle _ ⟨_, q7⟩
  have hsx := hsz.name
  refine filled_e (b := 78) (s := r.name) (by omega) fun n0 hln => ?_
  have q8 : encT r = n0 ++ tl8 r := by rw [q7, hln, tl7]; simp
  clear hln q7 hll hsx
  simp +decide -dsimp -implicitDefEqProofs [go_sem]
  have hll := hle _ ⟨_, q8⟩
  have hsx := hsz.owner
  refine filled_e (b := 79) (s := r.owner) (by omega) fun n1 hln => ?_
  have q9 : encT r = n1 ++ tl9 r := by rw [q8, hln, tl8]; simp
  clear hln q8 hll hsx
  simp +decide -dsimp -implicitDefEqProofs [go_sem]
  have hll := hle _ ⟨_, q9⟩
  have hsx := hsz.group
  refine filled_e (b := 81) (s := r.group) (by omega) fun n2 hln => ?_
  have q10 : encT r = n2 ++ tl10 r := by rw [q9, hln, tl9]; simp
  clear hln q9 hll hsx
  simp +decide -dsimp -implicitDefEqProofs [go_sem]
  refine callE_pure (number_c (b := 10) (fmt10_c r.prio (by have := hni.prio; omega) (by have := hni.prio; omega))) rfl rfl ?_
  simp +decide -dsimp -implicitDefEqProofs [go_sem]
  have hll := hle _ ⟨_, q10⟩
  have hsx : (numT 10 r.prio).length ≤ 11 := num_small (by decide) (by decide) (by have := hni.prio; omega)
  refine filled_e (b := 89) (s := numT 10 r.prio) (by omega) fun n3 hln => ?_
  have q11 : encT r = n3 ++ tl11 r := by rw [q10, hln, tl10]; simp
  clear hln q10 hll hsx
  simp +decide -dsimp -implicitDefEqProofs [go_sem]
  refine callE_pure (number_c (b := 8) (fmt8_c r.mode (by have := hni.mode; omega) (by have := hni.mode; omega))) rfl rfl ?_
  simp +decide -dsimp -implicitDefEqProofs [go_sem]
  have hll := hle _ ⟨_, q11⟩
  have hsx : (numT 8 r.mode).length ≤ 11 := num_small (by decide) (by decide) (by have := hni.mode; omega)
  refine filled_e (b := 88) (s := numT 8 r.mode) (by omega) fun n4 hln => ?_
  have q12 : encT r = n4 ++ tl12 := by rw [q11, hln, tl11]; simp
  clear hln q11 hll hsx
  simp +decide -dsimp -implicitDefEqProofs [go_sem]
  have hll := hle _ ⟨_, q12⟩
  refine write_e (s := [46, 10]) (by simp; omega) fun l' hl' => ?_
  have q13 : l' = encT r := by rw [q12, hl']; rfl
  simp +decide -dsimp -implicitDefEqProofs [go_sem]
  refine string_e (by rw [hl']; simp) ?_
  rw [q13]
  simp +decide -dsimp -implicitDefEqProofs [go_sem]
end Go.Ab
namespace Go.Ab
open Go Go.Proofs
def pr2 (r : Rcd) : List UInt8 := lineT 80 r.path ++ lineT 73 (baseT 10 r.index)
def pr3 (r : Rcd) : List UInt8 := pr2 r ++ linesT 69 (r.props.map attrT)
def pr4 (r : Rcd) : List UInt8 := pr3 r ++ linesT 71 r.tags
def pr5 (r : Rcd) : List UInt8 := pr4 r ++ linesT 76 r.links
def pr6 (r : Rcd) : List UInt8 := pr5 r ++ linesT 82 r.run
def pr7 (r : Rcd) : List UInt8 := pr6 r ++ linesT 77 r.load
def pr8 (r : Rcd) : List UInt8 := pr7 r ++ filledT 78 r.name
def pr9 (r : Rcd) : List UInt8 := pr8 r ++ filledT 79 r.owner
def pr10 (r : Rcd) : List UInt8 := pr9 r ++ filledT 81 r.group
def pr11 (r : Rcd) : List UInt8 := pr10 r ++ filledT 89 (numT 10 r.prio)
def pr12 (r : Rcd) : List UInt8 := pr11 r ++ filledT 88 (numT 8 r.mode)
theorem pr2_tl (r : Rcd) : encT r = pr2 r ++ tl2 r := by rw [enc_tl, pr2, tl1]; simp
theorem pr3_tl (r : Rcd) : encT r = pr3 r ++ tl3 r := by rw [pr2_tl, pr3, tl2]; simp
theorem pr4_tl (r : Rcd) : encT r = pr4 r ++ tl4 r := by rw [pr3_tl, pr4, tl3]; simp
theorem pr5_tl (r : Rcd) : encT r = pr5 r ++ tl5 r := by rw [pr4_tl, pr5, tl4]; simp
theorem pr6_tl (r : Rcd) : encT r = pr6 r ++ tl6 r := by rw [pr5_tl, pr6, tl5]; simp
theorem pr7_tl (r : Rcd) : encT r = pr7 r ++ tl7 r := by rw [pr6_tl, pr7, tl6]; simp
theorem pr8_tl (r : Rcd) : encT r = pr8 r ++ tl8 r := by rw [pr7_tl, pr8, tl7]; simp
theorem pr9_tl (r : Rcd) : encT r = pr9 r ++ tl9 r := by rw [pr8_tl, pr9, tl8]; simp
theorem pr10_tl (r : Rcd) : encT r = pr10 r ++ tl10 r := by rw [pr9_tl, pr10, tl9]; simp
theorem pr11_tl (r : Rcd) : encT r = pr11 r ++ tl11 r := by rw [pr10_tl, pr11, tl10]; simp
theorem pr12_tl (r : Rcd) : encT r = pr12 r ++ tl12 := by rw [pr11_tl, pr12, tl11]; simp
theorem pre_le {r : Rcd} (h : soundB r = true) {l t : List UInt8} (e : encT r = l ++ t) : l.length ≤ 40000 := by
  have h1 := enc_small h
  have h2 := congrArg List.length e
  rw [List.length_append] at h2; omega
theorem lines_take_le {b : UInt8} {l : List (List UInt8)} (i : Nat) : (linesT b (l.take i)).length ≤ (linesT b l).length := linesT_le i

set_option maxRecDepth 20000 in
set_option maxHeartbeats 2000000 in
theorem text_c (r : Rcd) (hS : soundB r = true) : ACalls Tryz.prog 115 [.agg (rRow r)] [] (.str (encT r)) [] := by
  refine acalls_A c115_ok rfl ?_
  unfold c115
  have hsz := small_of hS
  have hni := nice_of hS
  have z1 := hsz.props; have z2 := hsz.tags; have z3 := hsz.links; have z4 := hsz.runs; have z5 := hsz.loads
  have a1 : (baseT 10 r.index).length ≤ 11 := base_small (by decide) (by decide) (by have := hni.index; omega)
  have a2 : (numT 10 r.prio).length ≤ 11 := num_small (by decide) (by decide) (by have := hni.prio; omega)
  have a3 : (numT 8 r.mode).length ≤ 11 := num_small (by decide) (by decide) (by have := hni.mode; omega)
  refine awp_cut ⟨tmps 156 [(1, .ptr 0 0)], [.box 34 (rRow r)]⟩ (awp_of ?_) (awp_cut ⟨tmps 156 [(1, .ptr 0 0), (3, .str (pr2 r))], [.box 34 (rRow r)]⟩ (awp_of ?_) ( awp_cut ⟨tmps 156 [(1, .ptr 0 0), (3, .str (pr3 r))], [.box 34 (rRow r)]⟩ (awp_of ?_) ( awp_cut ⟨tmps 156 [(1, .ptr 0 0), (3, .str (pr4 r))], [.box 34 (rRow r)]⟩ (awp_of ?_) ( awp_cut ⟨tmps 156 [(1, .ptr 0 0), (3, .str (pr5 r))], [.box 34 (rRow r)]⟩ (awp_of ?_) ( awp_cut ⟨tmps 156 [(1, .ptr 0 0), (3, .str (pr6 r))], [.box 34 (rRow r)]⟩ (awp_of ?_) ( awp_cut ⟨tmps 156 [(1, .ptr 0 0), (3, .str (pr7 r))], [.box 34 (rRow r)]⟩ (awp_of ?_) ( awp_cut ⟨tmps 156 [(1, .ptr 0 0), (3, .str (pr8 r))], [.box 34 (rRow r)]⟩ (awp_of ?_) ( awp_cut ⟨tmps 156 [(1, .ptr 0 0), (3, .str (pr9 r))], [.box 34 (rRow r)]⟩ (awp_of ?_) ( awp_cut ⟨tmps 156 [(1, .ptr 0 0), (3, .str (pr10 r))], [.box 34 (rRow r)]⟩ (awp_of ?_) ( awp_cut ⟨tmps 156 [(1, .ptr 0 0), (3, .str (pr11 r))], [.box 34 (rRow r)]⟩ (awp_of ?_) ( awp_cut ⟨tmps 156 [(1, .ptr 0 0), (3, .str (pr12 r))], [.box 34 (rRow r)]⟩ (awp_of ?_) (awp_of ?_))))))))))))
  · unfold rRow
    simp +decide -dsimp -implicitDefEqProofs [go_sem]
    refine cutE_of (by simp) ?_
    simp +decide -dsimp -implicitDefEqProofs [go_sem]
  · have hp := hsz.path
    unfold rRow
    simp +decide -dsimp -implicitDefEqProofs [go_sem]
    refine ⟨by omega, by omega, ?_⟩
    refine callDE_pure (Itoa_c r.index (by have := hni.index; omega) (by have := hni.index; omega)) rfl rfl ?_
    simp +decide -dsimp -implicitDefEqProofs [go_sem]
    refine ⟨by omega, by omega, ?_⟩
    refine cutE_of (by simp) ?_
    simp +decide -dsimp -implicitDefEqProofs [go_sem, pr2, lineT]
  · simp +decide -dsimp -implicitDefEqProofs [go_sem]
    refine loop_of (S := Nat × List UInt8) (fun s => ⟨tmps 156 [(1, .ptr 0 0), (3, .str s.2), (4, .int .i64 s.1)], [.box 34 (rRow r)]⟩) (fun s => r.props.length - s.1)
      (fun s => s.1 ≤ r.props.length ∧ s.2 = pr2 r ++ linesT 69 ((r.props.take s.1).map attrT)) (0, pr2 r) (by simp [linesT]) (cut_of (by simp) ?_) ?_
    · unfold rRow; simp +decide -dsimp -implicitDefEqProofs [go_sem]
    rintro ⟨i, l⟩ ⟨hi, hl⟩
    simp only at hi hl
    by_cases h : i < r.props.length
    · have w : IntKind.i64.wrap ((i : Int) + 1) = i + 1 := w64 (by omega) (by omega)
      have hat := hsz.attr _ (List.getElem_mem h)
      have hnext : l ++ linesT 69 [attrT r.props[i]] = pr2 r ++ linesT 69 ((r.props.take (i + 1)).map attrT) := by
        rw [hl, List.take_succ_eq_append_getElem h, List.map_append, List.append_assoc]
        congr 1
        simp [linesT]
      have hll : l.length ≤ 40000 := by
        have h1 := pre_le hS (pr3_tl r)
        have h2 := lines_take_le (b := 69) (l := r.props.map attrT) i
        rw [← List.map_take] at h2
        rw [hl]
        simp only [pr3, List.length_append] at h1 ⊢
        omega
      unfold rRow
      simp +decide -dsimp -implicitDefEqProofs [go_sem, h]
      have el : ∀ x, lineT 69 x = 69 :: 58 :: (x ++ [10]) := fun x => by simp [lineT]
      simp +decide -dsimp -implicitDefEqProofs [go_sem, w]
      refine ⟨by omega, by omega, by omega, by omega, by omega, ?_⟩
      refine next_of (i + 1, l ++ linesT 69 [attrT r.props[i]]) ⟨by show i + 1 ≤ _; omega, hnext⟩ (by show _ - (i + 1) < _ - i; omega) (cut_of (by simp) ?_)
      simp +decide -dsimp -implicitDefEqProofs [go_sem, linesT, lineT, attrT]
    · have ei : i = r.props.length := by omega
      subst ei
      rw [List.take_length] at hl
      subst hl
      unfold rRow
      simp +decide -dsimp -implicitDefEqProofs [go_sem]
      refine cutE_of (by simp) ?_
      simp +decide -dsimp -implicitDefEqProofs [go_sem, pr3]
  · simp +decide -dsimp -implicitDefEqProofs [go_sem]
    refine loop_of (S := Nat × List UInt8) (fun s => ⟨tmps 156 [(1, .ptr 0 0), (3, .str s.2), (5, .int .i64 s.1)], [.box 34 (rRow r)]⟩) (fun s => r.tags.length - s.1)
      (fun s => s.1 ≤ r.tags.length ∧ s.2 = pr3 r ++ linesT 71 (r.tags.take s.1)) (0, pr3 r) (by simp [linesT]) (cut_of (by simp) ?_) ?_
    · unfold rRow; simp +decide -dsimp -implicitDefEqProofs [go_sem]
    rintro ⟨i, l⟩ ⟨hi, hl⟩
    simp only at hi hl
    by_cases h : i < r.tags.length
    · have w : IntKind.i64.wrap ((i : Int) + 1) = i + 1 := w64 (by omega) (by omega)
      have hat := hsz.tag _ (List.getElem_mem h)
      have hnext : l ++ linesT 71 [r.tags[i]] = pr3 r ++ linesT 71 (r.tags.take (i + 1)) := by
        rw [hl, linesT_take h, List.append_assoc]
        congr 1
        simp [linesT]
      have hll : l.length ≤ 40000 := by
        have h1 := pre_le hS (pr4_tl r)
        have h2 := lines_take_le (b := 71) (l := r.tags) i
        rw [hl]
        simp only [pr4, List.length_append] at h1 ⊢
        omega
      unfold rRow
      simp +decide -dsimp -implicitDefEqProofs [go_sem, h, w]
      refine ⟨by omega, by omega, by omega, ?_⟩
      refine next_of (i + 1, l ++ linesT 71 [r.tags[i]]) ⟨by show i + 1 ≤ _; omega, hnext⟩ (by show _ - (i + 1) < _ - i; omega) (cut_of (by simp) ?_)
      simp +decide -dsimp -implicitDefEqProofs [go_sem, linesT, lineT]
    · have ei : i = r.tags.length := by omega
      subst ei
      rw [List.take_length] at hl
      subst hl
      unfold rRow
      simp +decide -dsimp -implicitDefEqProofs [go_sem]
      refine cutE_of (by simp) ?_
      simp +decide -dsimp -implicitDefEqProofs [go_sem, pr4]
  · simp +decide -dsimp -implicitDefEqProofs [go_sem]
    refine loop_of (S := Nat × List UInt8) (fun s => ⟨tmps 156 [(1, .ptr 0 0), (3, .str s.2), (6, .int .i64 s.1)], [.box 34 (rRow r)]⟩) (fun s => r.links.length - s.1)
      (fun s => s.1 ≤ r.links.length ∧ s.2 = pr4 r ++ linesT 76 (r.links.take s.1)) (0, pr4 r) (by simp [linesT]) (cut_of (by simp) ?_) ?_
    · unfold rRow; simp +decide -dsimp -implicitDefEqProofs [go_sem]
    rintro ⟨i, l⟩ ⟨hi, hl⟩
    simp only at hi hl
    by_cases h : i < r.links.length
    · have w : IntKind.i64.wrap ((i : Int) + 1) = i + 1 := w64 (by omega) (by omega)
      have hat := hsz.link _ (List.getElem_mem h)
      have hnext : l ++ linesT 76 [r.links[i]] = pr4 r ++ linesT 76 (r.links.take (i + 1)) := by
        rw [hl, linesT_take h, List.append_assoc]
        congr 1
        simp [linesT]
      have hll : l.length ≤ 40000 := by
        have h1 := pre_le hS (pr5_tl r)
        have h2 := lines_take_le (b := 76) (l := r.links) i
        rw [hl]
        simp only [pr5, List.length_append] at h1 ⊢
        omega
      unfold rRow
      simp +decide -dsimp -implicitDefEqProofs [go_sem, h, w]
      refine ⟨by omega, by omega, by omega, ?_⟩
      refine next_of (i + 1, l ++ linesT 76 [r.links[i]]) ⟨by show i + 1 ≤ _; omega, hnext⟩ (by show _ - (i + 1) < _ - i; omega) (cut_of (by simp) ?_)
      simp +decide -dsimp -implicitDefEqProofs [go_sem, linesT, lineT]
    · have ei : i = r.links.length := by omega
      subst ei
      rw [List.take_length] at hl
      subst hl
      unfold rRow
      simp +decide -dsimp -implicitDefEqProofs [go_sem]
      refine cutE_of (by simp) ?_
      simp +decide -dsimp -implicitDefEqProofs [go_sem, pr5]
  · simp +decide -dsimp -implicitDefEqProofs [go_sem]
    refine loop_of (S := Nat × List UInt8) (fun s => ⟨tmps 156 [(1, .ptr 0 0), (3, .str s.2), (7, .int .i64 s.1)], [.box 34 (rRow r)]⟩) (fun s => r.run.length - s.1)
      (fun s => s.1 ≤ r.run.length ∧ s.2 = pr5 r ++ linesT 82 (r.run.take s.1)) (0, pr5 r) (by simp [linesT]) (cut_of (by simp) ?_) ?_
    · unfold rRow; simp +decide -dsimp -implicitDefEqProofs [go_sem]
    rintro ⟨i, l⟩ ⟨hi, hl⟩
    simp only at hi hl
    by_cases h : i < r.run.length
    · have w : IntKind.i64.wrap ((i : Int) + 1) = i + 1 := w64 (by omega) (by omega)
      have hat := hsz.run _ (List.getElem_mem h)
      have hnext : l ++ linesT 82 [r.run[i]] = pr5 r ++ linesT 82 (r.run.take (i + 1)) := by
        rw [hl, linesT_take h, List.append_assoc]
        congr 1
        simp [linesT]
      have hll : l.length ≤ 40000 := by
        have h1 := pre_le hS (pr6_tl r)
        have h2 := lines_take_le (b := 82) (l := r.run) i
        rw [hl]
        simp only [pr6, List.length_append] at h1 ⊢
        omega
      unfold rRow
      simp +decide -dsimp -implicitDefEqProofs [go_sem, h, w]
      refine ⟨by omega, by omega, by omega, ?_⟩
      refine next_of (i + 1, l ++ linesT 82 [r.run[i]]) ⟨by show i + 1 ≤ _; omega, hnext⟩ (by show _ - (i + 1) < _ - i; omega) (cut_of (by simp) ?_)
      simp +decide -dsimp -implicitDefEqProofs [go_sem, linesT, lineT]
    · have ei : i = r.run.length := by omega
      subst ei
      rw [List.take_length] at hl
      subst hl
      unfold rRow
      simp +decide -dsimp -implicitDefEqProofs [go_sem]
      refine cutE_of (by simp) ?_
      simp +decide -dsimp -implicitDefEqProofs [go_sem, pr6]
  · simp +decide -dsimp -implicitDefEqProofs [go_sem]
    refine loop_of (S := Nat × List UInt8) (fun s => ⟨tmps 156 [(1, .ptr 0 0), (3, .str s.2), (8, .int .i64 s.1)], [.box 34 (rRow r)]⟩) (fun s => r.load.length - s.1)
      (fun s => s.1 ≤ r.load.length ∧ s.2 = pr6 r ++ linesT 77 (r.load.take s.1)) (0, pr6 r) (by simp [linesT]) (cut_of (by simp) ?_) ?_
    · unfold rRow; simp +decide -dsimp -implicitDefEqProofs [go_sem]
    rintro ⟨i, l⟩ ⟨hi, hl⟩
    simp only at hi hl
    by_cases h : i < r.load.length
    · have w : IntKind.i64.wrap ((i : Int) + 1) = i + 1 := w64 (by omega) (by omega)
      have hat := hsz.load _ (List.getElem_mem h)
      have hnext : l ++ linesT 77 [r.load[i]] = pr6 r ++ linesT 77 (r.load.take (i + 1)) := by
        rw [hl, linesT_take h, List.append_assoc]
        congr 1
        simp [linesT]
      have hll : l.length ≤ 40000 := by
        have h1 := pre_le hS (pr7_tl r)
        have h2 := lines_take_le (b := 77) (l := r.load) i
        rw [hl]
        simp only [pr7, List.length_append] at h1 ⊢
        omega
      unfold rRow
      simp +decide -dsimp -implicitDefEqProofs [go_sem, h, w]
      refine ⟨by omega, by omega, by omega, ?_⟩
      refine next_of (i + 1, l ++ linesT 77 [r.load[i]]) ⟨by show i + 1 ≤ _; omega, hnext⟩ (by show _ - (i + 1) < _ - i; omega) (cut_of (by simp) ?_)
      simp +decide -dsimp -implicitDefEqProofs [go_sem, linesT, lineT]
    · have ei : i = r.load.length := by omega
      subst ei
      rw [List.take_length] at hl
      subst hl
      unfold rRow
      simp +decide -dsimp -implicitDefEqProofs [go_sem]
      refine cutE_of (by simp) ?_
      simp +decide -dsimp -implicitDefEqProofs [go_sem, pr7]
  · have hlp := pre_le hS (pr7_tl r)
    have := hsz.name
    unfold rRow
    by_cases h : r.name = []
    · simp +decide -dsimp -implicitDefEqProofs [go_sem, h]
      refine cutE_of (by simp) ?_
      simp +decide -dsimp -implicitDefEqProofs [go_sem, pr8, h, filledT]
    · simp +decide -dsimp -implicitDefEqProofs [go_sem, h]
      refine ⟨by omega, by omega, by omega, ?_⟩
      refine cutE_of (by simp) ?_
      simp +decide -dsimp -implicitDefEqProofs [go_sem, pr8, h, filledT, lineT]
  · have hlp := pre_le hS (pr8_tl r)
    have := hsz.owner
    unfold rRow
    by_cases h : r.owner = []
    · simp +decide -dsimp -implicitDefEqProofs [go_sem, h]
      refine cutE_of (by simp) ?_
      simp +decide -dsimp -implicitDefEqProofs [go_sem, pr9, h, filledT]
    · simp +decide -dsimp -implicitDefEqProofs [go_sem, h]
      refine ⟨by omega, by omega, by omega, ?_⟩
      refine cutE_of (by simp) ?_
      simp +decide -dsimp -implicitDefEqProofs [go_sem, pr9, h, filledT, lineT]
  · have hlp := pre_le hS (pr9_tl r)
    have := hsz.group
    unfold rRow
    by_cases h : r.group = []
    · simp +decide -dsimp -implicitDefEqProofs [go_sem, h]
      refine cutE_of (by simp) ?_
      simp +decide -dsimp -implicitDefEqProofs [go_sem, pr10, h, filledT]
    · simp +decide -dsimp -implicitDefEqProofs [go_sem, h]
      refine ⟨by omega, by omega, by omega, ?_⟩
      refine cutE_of (by simp) ?_
      simp +decide -dsimp -implicitDefEqProofs [go_sem, pr10, h, filledT, lineT]
  · have hlp := pre_le hS (pr10_tl r)
    unfold rRow
    by_cases h : r.prio = 0
    · simp +decide -dsimp -implicitDefEqProofs [go_sem, h]
      refine cutE_of (by simp) ?_
      simp +decide -dsimp -implicitDefEqProofs [go_sem, pr11, h, numT, filledT]
    · simp +decide -dsimp -implicitDefEqProofs [go_sem, h]
      refine callE_pure (Itoa_c r.prio (by have := hni.prio; omega) (by have := hni.prio; omega)) rfl rfl ?_
      have en : numT 10 r.prio = baseT 10 r.prio := by rw [numT, if_neg h]
      have ef : filledT 89 (numT 10 r.prio) = lineT 89 (baseT 10 r.prio) := by rw [filledT, en, if_neg (baseT_ne (by decide) (by decide) _)]
      rw [en] at a2
      simp +decide -dsimp -implicitDefEqProofs [go_sem]
      refine ⟨by omega, by omega, by omega, ?_⟩
      refine cutE_of (by simp) ?_
      simp +decide -dsimp -implicitDefEqProofs [go_sem, pr11, ef, lineT]
  · have hlp := pre_le hS (pr11_tl r)
    unfold rRow
    by_cases h : r.mode = 0
    · simp +decide -dsimp -implicitDefEqProofs [go_sem, h]
      refine cutE_of (by simp) ?_
      simp +decide -dsimp -implicitDefEqProofs [go_sem, pr12, h, numT, filledT]
    · simp +decide -dsimp -implicitDefEqProofs [go_sem, h]
      refine callE_pure (fmt8_c r.mode (by have := hni.mode; omega) (by have := hni.mode; omega)) rfl rfl ?_
      have en : numT 8 r.mode = baseT 8 r.mode := by rw [numT, if_neg h]
      have ef : filledT 88 (numT 8 r.mode) = lineT 88 (baseT 8 r.mode) := by rw [filledT, en, if_neg (baseT_ne (by decide) (by decide) _)]
      rw [en] at a3
      simp +decide -dsimp -implicitDefEqProofs [go_sem]
      refine ⟨by omega, by omega, by omega, ?_⟩
      refine cutE_of (by simp) ?_
      simp +decide -dsimp -implicitDefEqProofs [go_sem, pr12, ef, lineT]
  · have hlp := pre_le hS (pr12_tl r)
    rw [pr12_tl]
    simp +decide -dsimp -implicitDefEqProofs [go_sem]
    omega
theorem rEncode_c (r : Rcd) (hf : Few r) : ACalls Tryz.prog 70 [.agg (rRow r)] [] (.tup [.str (encS r), .int .i64 (chkB r)]) [] := by
  refine acalls_F c70_ok rfl ?_
  unfold c70
  have c0 := rSound_c r hf
  by_cases hS : soundB r = true
  · have c1 := text_c r hS
    have e1 : encS r = encT r := by simp [encS, hS]
    have e2 : chkB r = 0 := by simp [chkB, hS]
    rw [e1, e2]
    unfold rRow at c0 c1 ⊢
    simp +decide -dsimp -implicitDefEqProofs [go_sem]
    refine callE_pure c0 (by simp [go_sem]) rfl ?_
    simp +decide -dsimp -implicitDefEqProofs [go_sem, hS]
    refine callE_pure c1 (by simp [go_sem]) rfl ?_
    simp +decide -dsimp -implicitDefEqProofs [go_sem]
  · have e1 : encS r = [] := by simp [encS, hS]
    have e2 : chkB r = 250 := by simp [chkB, hS]
    rw [e1, e2]
    unfold rRow at c0 ⊢
    simp +decide -dsimp -implicitDefEqProofs [go_sem]
    refine callE_pure c0 (by simp [go_sem]) rfl ?_
    simp +decide -dsimp -implicitDefEqProofs [go_sem, hS]
end Go.Ab
namespace Go.Ab
open Go Go.Proofs
theorem chk_ok {r : Rcd} (h : soundB r = true) : chkB r = 0 ∧ encS r = encT r := by simp [chkB, encS, h]
theorem rRow_ren (is : List Nat) (r : Rcd) : renL is (rRow r) = rRow r := by unfold rRow; simp +decide -dsimp -implicitDefEqProofs [go_sem, renLL_sRows, renLL_aRows]
theorem rRow_cl (k : Nat) (r : Rcd) : closedL k (rRow r) = true := by unfold rRow; simp +decide -dsimp -implicitDefEqProofs [go_sem]
theorem rRow_len (r : Rcd) : (rRow r).length = 12 := rfl
theorem chk_not {r : Rcd} (h : ¬ soundB r = true) : chkB r = 250 ∧ encS r = [] := by simp [chkB, encS, h]
@[go_sem ↓] theorem ldK_rRow (r : Rcd) (K : AV → Prop) : ldK (some 12) (rRow r) K = K (.agg (rRow r)) := by simp [ldK, rRow]
theorem rRow_take (r : Rcd) : (rRow r).take 12 = rRow r := rfl
theorem closedLL_rRows (k : Nat) (l : List Rcd) : closedLL k (l.map rRow) = true := closedLL_map fun x _ => rRow_cl k x
theorem cvT_row (H : List AObj) (k : Nat) (r : Rcd) : cvT H k (rRow r) (rRow r) := by unfold rRow; simp +decide -dsimp -implicitDefEqProofs [go_sem]
theorem ofNat_row {n : Nat} (h : n < 256) : [AV.int .u8 (n : Int)] = bRow (UInt8.ofNat n) := by
  simp only [bRow, UInt8.toNat_ofNat']
  rw [Nat.mod_eq_of_lt h]
theorem unb_one {n : Nat} (h : n < 256) : unb [[AV.int .u8 (n : Int)]] = some [UInt8.ofNat n] := by
  rw [ofNat_row h]; exact unb_map [UInt8.ofNat n]
end Go.Ab
