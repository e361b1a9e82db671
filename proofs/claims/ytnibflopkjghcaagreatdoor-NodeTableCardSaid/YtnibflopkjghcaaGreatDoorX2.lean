/- Made devices: attributes. -/
import Derived.Test.YtnibflopkjghcaaGreatDoorX1
import Derived.Test.YtnibflopkjghcaaGreatDoorRA
import Derived.Test.YtnibflopkjghcaaGreatDoorW1
import Derived.Test.YtnibflopkjghcaaGreatDoorC3
namespace Go.Ab
open Go Go.Proofs Go.Sort
set_option maxRecDepth 20000
def nmA (t : List Int) (k n : Nat) : Txt := oneS anS (tapeV t (k + 2 * n))
def vlA (t : List Int) (k n : Nat) : Txt := oneS avS (tapeV t (k + 2 * n + 1))
def attL (t : List Int) (k : Nat) : Nat → List (Txt × Txt)
  | 0 => []
  | n + 1 => setA (attL t k n) (nmA t k n) (vlA t k n)
def attN (t : List Int) (k : Nat) : Nat := (fold (tapeV t k) 4).toNat
theorem attN_le (t : List Int) (k : Nat) : attN t k ≤ 3 := by
  have := fold_bd (tapeV t k) 4 (by omega)
  unfold attN; omega
theorem attN_eq (t : List Int) (k : Nat) : fold (tapeV t k) 4 = (attN t k : Int) := by
  have := fold_bd (tapeV t k) 4 (by omega)
  unfold attN; omega
theorem attL_len (t : List Int) (k : Nat) : ∀ n, (attL t k n).length ≤ n
  | 0 => Nat.le_refl 0
  | n + 1 => Nat.le_trans (setA_len _ _ _) (Nat.succ_le_succ (attL_len t k n))
theorem attL_asc (t : List Int) (k : Nat) : ∀ n, ascA (attL t k n)
  | 0 => .nil
  | n + 1 => setA_asc (attL_asc t k n)
theorem attL_mem (t : List Int) (k : Nat) : ∀ n, ∀ x ∈ attL t k n, x.1 ∈ anS ∧ x.2 ∈ avS ∧ x.2 ≠ []
  | 0, _, h => by cases h
  | n + 1, x, h => by
    rcases setA_mem h with h2 | ⟨rfl, h2⟩
    · exact attL_mem t k n x h2
    · exact ⟨oneS_mem _ (by decide), oneS_mem _ (by decide), h2⟩
set_option maxHeartbeats 4000000 in
theorem attrs_c (t : List Int) (k : Nat) (hk : k < 900000000) : ACalls Tryz.prog 68 [.ptr 0 0] [tapeO t k] (.imm ((attL t (k + 1) (attN t k)).map aRow)) [tapeO t (k + 1 + 2 * attN t k)] := by
  have hcl := fun k (l : List (Txt × Txt)) => aRows_cl k l
  have o1 := Next_c t k 4 (by omega) (by omega)
  rw [attN_eq] at o1
  have hn := attN_le t k
  have e1 : [[AV.str [115, 105, 122, 101]], [.str [118, 101, 110, 100, 111, 114]], [.str [97, 100, 100, 114, 101, 115, 115]], [.str [105, 110, 100, 101, 120]], [.str [115, 108, 111, 116]]] = anS.map sRow := rfl
  have e2 : [[AV.str [49]], [.str [50]], [.str [97, 99, 109, 101]], [.str [97, 97, 58, 98, 98]]] = avS.map sRow := rfl
  generalize attN t k = n at o1 hn
  refine acalls_F c68_ok rfl ?_
  unfold c68
  simp +decide -dsimp -implicitDefEqProofs [go_sem]
  refine callE_frame [0] o1 rfl rfl (by simp) (by simp +decide -dsimp -implicitDefEqProofs [go_sem]) (by simp +decide -dsimp -implicitDefEqProofs [go_sem, tapeO_ren]) ?_
  simp +decide -dsimp -implicitDefEqProofs [go_sem, tapeO_ren]
  refine loop_of (S := Nat) (fun i => ⟨tmps 20 [(0, .ptr 0 0), (3, .imm ((attL t (k + 1) i).map aRow)), (4, .int .i64 ((n - i : Nat) : Int))], [tapeO t (k + 1 + 2 * i)]⟩) (fun i => n - i) (fun i => i ≤ n) 0 (by simp) ((Wk.nilI 3 rfl).trans (cut_of (by simp) ?_)) ?_
  · simp +decide -dsimp -implicitDefEqProofs [go_sem, tapeO, attL]
  intro i hi
  by_cases h : i < n
  · have h' : 0 < n - i := by omega
    have wi : IntKind.i64.wrap (((n - i : Nat) : Int) - 1) = ((n - (i + 1) : Nat) : Int) := by rw [w64 (by omega) (by omega)]; omega
    have oA := One_c t (k + 1 + 2 * i) anS (by omega) (by decide) (by decide)
    have oB := One_c t (k + 1 + 2 * i + 1) avS (by omega) (by decide) (by decide)
    have cs := set_c (attL t (k + 1) i) (nmA t (k + 1) i) (vlA t (k + 1) i) (by have := attL_len t (k + 1) i; omega)
    unfold strsV at oA oB
    change ACalls Tryz.prog 25 _ _ (.str (nmA t (k + 1) i)) _ at oA
    change ACalls Tryz.prog 25 _ _ (.str (vlA t (k + 1) i)) _ at oB
    simp +decide -dsimp -implicitDefEqProofs [go_sem, h']
    rw [e1]
    refine callE_frame [0] oA rfl rfl (by simp) (by simp +decide -dsimp -implicitDefEqProofs [go_sem]) (by simp +decide -dsimp -implicitDefEqProofs [go_sem, tapeO_ren]) ?_
    simp +decide -dsimp -implicitDefEqProofs [go_sem, tapeO_ren]
    rw [e2]
    refine callE_frame [0] oB rfl rfl (by simp) (by simp +decide -dsimp -implicitDefEqProofs [go_sem]) (by simp +decide -dsimp -implicitDefEqProofs [go_sem, tapeO_ren]) ?_
    simp +decide -dsimp -implicitDefEqProofs [go_sem, tapeO_ren]
    refine callE_pure cs (by simp +decide -dsimp -implicitDefEqProofs [go_sem, hcl]) (by simp +decide -dsimp -implicitDefEqProofs [go_sem, hcl]) ?_
    simp +decide -dsimp -implicitDefEqProofs [go_sem, wi]
    refine next_of (i + 1) (by show i + 1 ≤ n; omega) (by show n - (i + 1) < n - i; omega) (cut_of (by simp) ?_)
    rw [show attL t (k + 1) (i + 1) = setA (attL t (k + 1) i) (nmA t (k + 1) i) (vlA t (k + 1) i) from rfl, show k + 1 + 2 * (i + 1) = k + 1 + 2 * i + 1 + 1 by omega]
    simp +decide -dsimp -implicitDefEqProofs [go_sem, tapeO, hcl]
  · have e : i = n := by omega
    subst e
    simp +decide -dsimp -implicitDefEqProofs [go_sem, tapeO, hcl]
theorem contents_c : ACalls Tryz.prog 70 [] [] (.imm (ctS.map sRow)) [] := by
  refine acalls_F c70_ok rfl ?_
  unfold c70
  simp +decide -dsimp -implicitDefEqProofs [go_sem, sRow, ctS]
def mxI (T : List Dvc) : Int := T.foldl (fun m d => max m (d.idx + 1)) 1
theorem mxI_snoc (T : List Dvc) (d : Dvc) : mxI (T ++ [d]) = max (mxI T) (d.idx + 1) := by rw [mxI, List.foldl_append]; rfl
theorem mxI_bd : ∀ {B : Int} {T : List Dvc}, 1 ≤ B → (∀ d ∈ T, d.idx + 1 ≤ B) → 1 ≤ mxI T ∧ mxI T ≤ B := fun {B} {T} hB => by
  suffices h : ∀ (T : List Dvc) (m : Int), 1 ≤ m → m ≤ B → (∀ d ∈ T, d.idx + 1 ≤ B) → 1 ≤ T.foldl (fun m d => max m (d.idx + 1)) m ∧ T.foldl (fun m d => max m (d.idx + 1)) m ≤ B from fun hT => h T 1 (by omega) hB hT
  intro T
  induction T with
  | nil => intro m h1 h2 _; exact ⟨h1, h2⟩
  | cons d r ih =>
    intro m h1 h2 h3
    exact ih (max m (d.idx + 1)) (by omega) (by have := h3 d (by simp); omega) fun x hx => h3 x (by simp [hx])
theorem mxI_ge {T : List Dvc} : ∀ d ∈ T, d.idx + 1 ≤ mxI T := by
  suffices h : ∀ (T : List Dvc) (m : Int), m ≤ T.foldl (fun m d => max m (d.idx + 1)) m ∧ ∀ d ∈ T, d.idx + 1 ≤ T.foldl (fun m d => max m (d.idx + 1)) m from (h T 1).2
  intro T
  induction T with
  | nil => intro m; exact ⟨Int.le_refl _, by simp⟩
  | cons d r ih =>
    intro m
    obtain ⟨h1, h2⟩ := ih (max m (d.idx + 1))
    refine ⟨?_, fun x hx => ?_⟩
    · show m ≤ r.foldl _ (max m (d.idx + 1)); omega
    · show x.idx + 1 ≤ r.foldl _ (max m (d.idx + 1))
      rcases List.mem_cons.1 hx with rfl | hx
      · omega
      · exact h2 x hx
theorem mxI_ok {S : Dvc → Prop} {T : List Dvc} (hT : TreeOk S T) : mxI T = T.length + 1 := by
  have h1 := mxI_bd (T := T) (B := T.length + 1) (by omega) fun d hd => by have := hT.ix d hd; omega
  by_cases h0 : T.length = 0
  · omega
  · obtain ⟨d, hd, h2⟩ := hT.full T.length (by omega) (by omega)
    have := mxI_ge d hd
    omega
end Go.Ab
namespace Go.Ab
open Go Go.Proofs Go.Sort
set_option maxRecDepth 20000
def dr4 : List Txt := [[], [], [104, 105, 100], [110, 105, 99]]
def n3S : List Txt := [[101, 116, 104, 48], [101, 116, 104, 49], [119, 108, 97, 110, 48]]
structure BodyR where
  name : Txt
  orig : Txt
  sub : Txt
  num : Int
  attrs : List (Txt × Txt)
  k : Nat
def bodyF (t : List Int) (k : Nat) (kd : Int) (sub : Txt) (attrs : List (Txt × Txt)) : BodyR :=
  if kd = 4 then ⟨oneS [oneS n3S (tapeV t k), oneS n3S (tapeV t k), [108, 97, 110, 48], [101, 116, 104, 49]] (tapeV t (k + 1)), oneS n3S (tapeV t k), [110, 101, 116], 0, attrs, k + 2⟩
  else if kd = 2 then ⟨oneS blS (tapeV t k), oneS blS (tapeV t k), [98, 108, 111, 99, 107], 1 + fold (tapeV t (k + 1)) 9, setA attrs cont (oneS ctS (tapeV t (k + 2))), k + 3⟩
  else if kd = 3 then ⟨oneS chS (tapeV t k), oneS chS (tapeV t k), sub, 1 + fold (tapeV t (k + 1)) 9, attrs, k + 2⟩
  else ⟨oneS plS (tapeV t k), oneS plS (tapeV t k), sub, 0, attrs, k + 1⟩
def parF (t : List Int) (k : Nat) (T : List Dvc) : Int × Nat :=
  if T.length = 0 then (0, k) else if 0 < fold (tapeV t k) 4 then (((T[(fold (tapeV t (k + 1)) T.length).toNat]?).map (·.idx)).getD 0, k + 2) else (0, k + 1)
def k5F (t : List Int) (k : Nat) : Nat := k + 4 + 1 + 2 * attN t (k + 4)
def devB (t : List Int) (k : Nat) (T : List Dvc) : BodyR := bodyF t (parF t (k5F t k) T).2 (1 + fold (tapeV t (k + 1)) 4) (oneS sbS (tapeV t k)) (attL t (k + 4 + 1) (attN t (k + 4)))
def devF (t : List Int) (k : Nat) (T : List Dvc) : Dvc :=
  ⟨mxI T, (parF t (k5F t k) T).1, (devB t k T).name, (devB t k T).orig, (devB t k T).sub, oneS dr4 (tapeV t (k + 2)), oneS alS (tapeV t (k + 3)), 1 + fold (tapeV t (k + 1)) 4, (devB t k T).num, (devB t k T).attrs⟩
theorem parF_k (t : List Int) (k : Nat) (T : List Dvc) : (parF t k T).2 ≤ k + 2 := by
  unfold parF
  split
  · simp
  · split <;> simp
theorem parF_ok (t : List Int) (k : Nat) (T : List Dvc) : (parF t k T).1 = 0 ∨ ∃ d ∈ T, (parF t k T).1 = d.idx := by
  unfold parF
  split
  · exact .inl rfl
  · split
    · cases h : T[(fold (tapeV t (k + 1)) T.length).toNat]? with
      | none => exact .inl rfl
      | some d => exact .inr ⟨d, List.mem_of_getElem? h, rfl⟩
    · exact .inl rfl
theorem bodyF_k (t : List Int) (k : Nat) (kd : Int) (sub : Txt) (attrs : List (Txt × Txt)) : (bodyF t k kd sub attrs).k ≤ k + 3 := by
  unfold bodyF
  split
  · simp
  · split
    · simp
    · split <;> simp
theorem devB_k (t : List Int) (k : Nat) (T : List Dvc) : (devB t k T).k ≤ k + 20 := by
  have h1 := bodyF_k t (parF t (k5F t k) T).2 (1 + fold (tapeV t (k + 1)) 4) (oneS sbS (tapeV t k)) (attL t (k + 4 + 1) (attN t (k + 4)))
  have h2 := parF_k t (k5F t k) T
  have h3 := attN_le t (k + 4)
  unfold devB
  unfold k5F at h1 h2 ⊢
  omega
theorem n3_if : ∀ x ∈ n3S, x ∈ ifS := by decide
theorem one_lt {t : List Int} {k : Nat} {l : List Txt} (h : l ≠ []) {U : List Txt} (hu : ∀ x ∈ l, x ∈ U) : oneS l (tapeV t k) ∈ U := hu _ (oneS_mem _ h)
theorem devF_fine (t : List Int) (k : Nat) (T : List Dvc) : Fine (devF t k T) := by
  have hb := fold_bd (tapeV t (k + 1)) 4 (by omega)
  have hkb : 1 ≤ 1 + fold (tapeV t (k + 1)) 4 ∧ 1 + fold (tapeV t (k + 1)) 4 ≤ 4 := by omega
  have hdr : oneS dr4 (tapeV t (k + 2)) ∈ drS := one_lt (by decide) (by decide)
  have hal : oneS alS (tapeV t (k + 3)) ∈ alS := oneS_mem _ (by decide)
  have hsb : oneS sbS (tapeV t k) ∈ sbS := oneS_mem _ (by decide)
  have haa := attL_asc t (k + 4 + 1) (attN t (k + 4))
  have ham := attL_mem t (k + 4 + 1) (attN t (k + 4))
  unfold devF devB
  generalize (parF t (k5F t k) T).2 = k6
  generalize (parF t (k5F t k) T).1 = pr
  generalize 1 + fold (tapeV t (k + 1)) 4 = kd at *
  generalize oneS dr4 (tapeV t (k + 2)) = drv at *
  generalize oneS alS (tapeV t (k + 3)) = ali at *
  generalize oneS sbS (tapeV t k) = sub at *
  generalize attL t (k + 4 + 1) (attN t (k + 4)) = A at *
  have ham' : ∀ x ∈ A, x.1 ∈ cont :: anS ∧ x.2 ∈ avS ++ ctS ∧ x.2 ≠ [] := fun x hx => by
    obtain ⟨h1, h2, h3⟩ := ham x hx
    exact ⟨List.mem_cons_of_mem _ h1, List.mem_append_left _ h2, h3⟩
  have hf9 := fold_bd (tapeV t (k6 + 1)) 9 (by omega)
  have i1 : oneS n3S (tapeV t k6) ∈ ifS := one_lt (by decide) n3_if
  have i2 : oneS blS (tapeV t k6) ∈ blS := oneS_mem _ (by decide)
  have i3 : oneS chS (tapeV t k6) ∈ chS := oneS_mem _ (by decide)
  have i4 : oneS plS (tapeV t k6) ∈ plS := oneS_mem _ (by decide)
  have sn : ([110, 101, 116] : Txt) ∈ sbS := by decide
  have sb : ([98, 108, 111, 99, 107] : Txt) ∈ sbS := by decide
  unfold bodyF
  by_cases h4 : kd = 4
  · rw [if_pos h4]
    have i5 : oneS [oneS n3S (tapeV t k6), oneS n3S (tapeV t k6), [108, 97, 110, 48], [101, 116, 104, 49]] (tapeV t (k6 + 1)) ∈ ifS := by
      have := oneS_mem (ss := [oneS n3S (tapeV t k6), oneS n3S (tapeV t k6), [108, 97, 110, 48], [101, 116, 104, 49]]) (tapeV t (k6 + 1)) (by simp)
      simp only [List.mem_cons, List.not_mem_nil, or_false] at this
      rcases this with h | h | h | h
      · rw [h]; exact i1
      · rw [h]; exact i1
      · rw [h]; decide
      · rw [h]; decide
    exact ⟨List.mem_append_left _ (List.mem_append_left _ (List.mem_append_left _ i1)), hkb, fun _ => ⟨i5, i1⟩, fun h => absurd h4 h, fun h => absurd (h : kd = 2 ∨ kd = 3) (fun h => by rcases h with h | h <;> rw [h4] at h <;> cases h), fun _ => rfl, sn, hdr, hal, haa, ham'⟩
  · rw [if_neg h4]
    by_cases h2 : kd = 2
    · rw [if_pos h2]
      refine ⟨List.mem_append_left _ (List.mem_append_left _ (List.mem_append_right _ i2)), hkb, fun h => absurd h h4, fun _ => rfl, fun _ => ⟨List.mem_append_left _ i2, by show 1 ≤ 1 + _; omega, by show 1 + _ ≤ 9; omega⟩, fun h => absurd (.inl h2) h, sb, hdr, hal, setA_asc haa, fun x hx => ?_⟩
      rcases setA_mem hx with hx2 | ⟨rfl, hx2⟩
      · exact ham' x hx2
      · exact ⟨by simp, List.mem_append_right _ (oneS_mem _ (by decide)), hx2⟩
    · rw [if_neg h2]
      by_cases h3 : kd = 3
      · rw [if_pos h3]
        exact ⟨List.mem_append_left _ (List.mem_append_right _ i3), hkb, fun h => absurd h h4, fun _ => rfl, fun _ => ⟨List.mem_append_right _ i3, by show 1 ≤ 1 + _; omega, by show 1 + _ ≤ 9; omega⟩, fun h => absurd (.inr h3) h, hsb, hdr, hal, haa, ham'⟩
      · rw [if_neg h3]
        exact ⟨List.mem_append_right _ i4, hkb, fun h => absurd h h4, fun _ => rfl, fun h => absurd (h : kd = 2 ∨ kd = 3) (fun h => h.elim h2 h3), fun _ => rfl, hsb, hdr, hal, haa, ham'⟩
end Go.Ab
namespace Go.Ab
open Go Go.Proofs Go.Sort
set_option maxRecDepth 20000
set_option maxHeartbeats 8000000 in
theorem device_c (t : List Int) (k : Nat) (T : List Dvc) (hk : k < 800000000) (hl : T.length ≤ 100) (hi : ∀ d ∈ T, 1 ≤ d.idx ∧ d.idx ≤ 1000) :
    ACalls Tryz.prog 38 [.ptr 0 0, .agg [.imm (T.map dcRow)]] [tapeO t k] (.agg (dcRow (devF t k T))) [tapeO t (devB t k T).k] := by
  have hcl := fun k (T : List Dvc) => dcRows_cl k T
  have hal := fun k (l : List (Txt × Txt)) => aRows_cl k l
  have o1 := One_c t k sbS (by omega) (by decide) (by decide)
  have o2 := Next_c t (k + 1) 4 (by omega) (by omega)
  have b2 := fold_bd (tapeV t (k + 1)) 4 (by omega)
  have o3 := One_c t (k + 1 + 1) dr4 (by omega) (by decide) (by decide)
  have o4 := One_c t (k + 1 + 1 + 1) alS (by omega) (by decide) (by decide)
  have o5 := attrs_c t (k + 1 + 1 + 1 + 1) (by omega)
  have hat := attN_le t (k + 4)
  have e1 : [[AV.str [98, 108, 111, 99, 107]], [.str [117, 115, 98]], [.str [110, 101, 116]], [.str [112, 99, 105]]] = sbS.map sRow := rfl
  have e3 : [[AV.str []], [.str []], [.str [104, 105, 100]], [.str [110, 105, 99]]] = dr4.map sRow := rfl
  have e4 : [[AV.str []], [.str [117, 115, 98, 58, 118, 49]], [.str [112, 99, 105, 58, 100, 50]], [.str [117, 115, 98, 58, 118, 50]]] = alS.map sRow := rfl
  unfold strsV at o1 o3 o4
  unfold devF devB
  have hk5 : k5F t k = k + 4 + 1 + 2 * attN t (k + 4) := rfl
  have hmx := fun i => mxI_bd (T := T.take i) (B := 1001) (by omega) fun d hd => by have := hi d (List.mem_of_mem_take hd); omega
  rw [show k + 1 + 1 = k + 2 by omega] at o3 o4 o5
  rw [show k + 2 + 1 = k + 3 by omega] at o4 o5
  rw [show k + 3 + 1 = k + 4 by omega] at o5
  rw [← hk5] at o5
  have hk5l : k5F t k ≤ k + 11 := by rw [hk5]; omega
  generalize k5F t k = k5 at o5 hk5l
  clear hk5
  have hAl := attL_len t (k + 4 + 1) (attN t (k + 4))
  have hAn := attN_le t (k + 4)
  generalize attL t (k + 4 + 1) (attN t (k + 4)) = A at o5 hAl
  generalize oneS sbS (tapeV t k) = sub at o1
  generalize oneS dr4 (tapeV t (k + 2)) = drv at o3
  generalize oneS alS (tapeV t (k + 3)) = ali at o4
  have wk : IntKind.i64.wrap (1 + fold (tapeV t (k + 1)) 4) = 1 + fold (tapeV t (k + 1)) 4 := w64 (by omega) (by omega)
  obtain ⟨kd, hkd⟩ : ∃ kd, kd = 1 + fold (tapeV t (k + 1)) 4 := ⟨_, rfl⟩
  rw [← hkd] at wk ⊢
  refine acalls_A c38_ok rfl ?_
  unfold c38
  refine awp_cut ⟨tmps 114 [(0, .ptr 0 0), (3, .ptr 1 0), (4, .ptr 2 0)], [tapeO t k, .box 28 [.imm (T.map dcRow)], .box 55 zD]⟩ (awp_of ?_) ?_
  · simp +decide -dsimp -implicitDefEqProofs [go_sem]
    refine cut_of (by simp) ?_
    simp +decide -dsimp -implicitDefEqProofs [go_sem, tapeO, hcl, zD]
  refine awp_cut ⟨tmps 114 [(0, .ptr 0 0), (3, .ptr 1 0), (4, .ptr 2 0), (5, .ptr 3 0)], [tapeO t k5, .box 28 [.imm (T.map dcRow)], .box 55 zD, .box 55 [.int .i64 1, .int .i64 0, .str [], .str [], .str sub, .str drv, .str ali, .int .i64 kd, .int .i64 0, .imm (A.map aRow)]]⟩ (awp_of ?_) ?_
  · simp +decide -dsimp -implicitDefEqProofs [go_sem]
    rw [e1]
    refine callE_frame [0] o1 rfl rfl (by simp) (by simp +decide -dsimp -implicitDefEqProofs [go_sem]) (by simp +decide -dsimp -implicitDefEqProofs [go_sem, tapeO_ren]) ?_
    simp +decide -dsimp -implicitDefEqProofs [go_sem, tapeO_ren]
    refine callE_frame [0] o2 rfl rfl (by simp) (by simp +decide -dsimp -implicitDefEqProofs [go_sem]) (by simp +decide -dsimp -implicitDefEqProofs [go_sem, tapeO_ren]) ?_
    simp +decide -dsimp -implicitDefEqProofs [go_sem, tapeO_ren]
    rw [← hkd, wk, e3]
    refine callE_frame [0] o3 rfl rfl (by simp) (by simp +decide -dsimp -implicitDefEqProofs [go_sem]) (by simp +decide -dsimp -implicitDefEqProofs [go_sem, tapeO_ren]) ?_
    simp +decide -dsimp -implicitDefEqProofs [go_sem, tapeO_ren]
    rw [e4]
    refine callE_frame [0] o4 rfl rfl (by simp) (by simp +decide -dsimp -implicitDefEqProofs [go_sem]) (by simp +decide -dsimp -implicitDefEqProofs [go_sem, tapeO_ren]) ?_
    simp +decide -dsimp -implicitDefEqProofs [go_sem, tapeO_ren]
    refine callE_frame [0] o5 rfl rfl (by simp) (by simp +decide -dsimp -implicitDefEqProofs [go_sem]) (by simp +decide -dsimp -implicitDefEqProofs [go_sem, tapeO_ren]) ?_
    simp +decide -dsimp -implicitDefEqProofs [go_sem, tapeO_ren, renLL_aRows]
    refine cut_of (by simp) ?_
    simp +decide -dsimp -implicitDefEqProofs [go_sem, tapeO, hcl, hal, zD]
  clear o1 o2 o3 o4 o5
  refine awp_cut ⟨tmps 114 [(0, .ptr 0 0), (3, .ptr 1 0), (4, .ptr 2 0), (5, .ptr 3 0)], [tapeO t k5, .box 28 [.imm (T.map dcRow)], .box 55 zD, .box 55 [.int .i64 (mxI T), .int .i64 0, .str [], .str [], .str sub, .str drv, .str ali, .int .i64 kd, .int .i64 0, .imm (A.map aRow)]]⟩ (awp_of ?_) ?_
  · simp +decide -dsimp -implicitDefEqProofs [go_sem]
    refine loop_of (S := Nat) (fun i => ⟨tmps 114 [(0, .ptr 0 0), (3, .ptr 1 0), (4, .ptr 2 0), (5, .ptr 3 0), (6, .int .i64 i)], [tapeO t k5, .box 28 [.imm (T.map dcRow)], .box 55 zD, .box 55 [.int .i64 (mxI (T.take i)), .int .i64 0, .str [], .str [], .str sub, .str drv, .str ali, .int .i64 kd, .int .i64 0, .imm (A.map aRow)]]⟩) (fun i => T.length - i) (fun i => i ≤ T.length) 0 (by simp) (cut_of (by simp) ?_) ?_
    · simp +decide -dsimp -implicitDefEqProofs [go_sem, tapeO, hcl, hal, zD, show mxI [] = 1 from rfl]
    intro i hil
    by_cases h : i < T.length
    · have wi : IntKind.i64.wrap ((i : Int) + 1) = i + 1 := w64 (by omega) (by omega)
      have hTi := hi _ (List.getElem_mem h)
      have wj : IntKind.i64.wrap (T[i].idx + 1) = T[i].idx + 1 := w64 (by omega) (by omega)
      have hsn : mxI (T.take (i + 1)) = if mxI (T.take i) < T[i].idx + 1 then T[i].idx + 1 else mxI (T.take i) := by
        rw [List.take_succ_eq_append_getElem h, mxI_snoc]; omega
      simp +decide -dsimp -implicitDefEqProofs [go_sem, h, dcRow_eq, wi, wj]
      refine next_of (i + 1) (by show i + 1 ≤ T.length; omega) (by show T.length - (i + 1) < T.length - i; omega) (cut_of (by simp) ?_)
      rw [hsn]
      simp +decide -dsimp -implicitDefEqProofs [go_sem, tapeO, hcl, hal, zD]
    · have e : i = T.length := by omega
      subst e
      rw [List.take_length]
      simp +decide -dsimp -implicitDefEqProofs [go_sem]
      refine cut_of (by simp) ?_
      simp +decide -dsimp -implicitDefEqProofs [go_sem, tapeO, hcl, hal, zD]
  have hpk := parF_k t k5 T
  obtain ⟨k6, hk6⟩ : ∃ k6, k6 = (parF t k5 T).2 := ⟨_, rfl⟩
  obtain ⟨pr, hpr⟩ : ∃ pr, pr = (parF t k5 T).1 := ⟨_, rfl⟩
  rw [← hk6] at hpk ⊢
  rw [← hpr]
  refine awp_cut ⟨tmps 114 [(0, .ptr 0 0), (3, .ptr 1 0), (4, .ptr 2 0), (5, .ptr 3 0)], [tapeO t k6, .box 28 [.imm (T.map dcRow)], .box 55 zD, .box 55 [.int .i64 (mxI T), .int .i64 pr, .str [], .str [], .str sub, .str drv, .str ali, .int .i64 kd, .int .i64 0, .imm (A.map aRow)]]⟩ (awp_of ?_) ?_
  · have o6 := Next_c t k5 4 (by omega) (by omega)
    by_cases h0 : T.length = 0
    · have hT0 : T = [] := List.eq_nil_of_length_eq_zero h0
      have e6 : k6 = k5 := by rw [hk6, parF, if_pos h0]
      have ep : pr = 0 := by rw [hpr, parF, if_pos h0]
      subst e6 ep hT0
      simp +decide -dsimp -implicitDefEqProofs [go_sem]
      refine cut_of (by simp) ?_
      simp +decide -dsimp -implicitDefEqProofs [go_sem, tapeO, hal, zD]
    have hp0 : 0 < T.length := by omega
    simp +decide -dsimp -implicitDefEqProofs [go_sem, hp0]
    refine callE_frame [0] o6 rfl rfl (by simp) (by simp +decide -dsimp -implicitDefEqProofs [go_sem]) (by simp +decide -dsimp -implicitDefEqProofs [go_sem, tapeO_ren]) ?_
    by_cases h4 : 0 < fold (tapeV t k5) 4
    · have hb := fold_bd (tapeV t (k5 + 1)) T.length (by omega)
      have o7 := Next_c t (k5 + 1) T.length (by omega) (by omega)
      obtain ⟨j, hj⟩ : ∃ j : Nat, fold (tapeV t (k5 + 1)) T.length = j := ⟨_, (Int.toNat_of_nonneg hb.1).symm⟩
      have hjl : j < T.length := by omega
      have e6 : k6 = k5 + 2 := by rw [hk6, parF, if_neg h0, if_pos h4]
      have ep : pr = T[j].idx := by rw [hpr, parF, if_neg h0, if_pos h4, hj, Int.toNat_natCast, List.getElem?_eq_getElem hjl]; rfl
      rw [hj] at o7
      subst e6 ep
      generalize fold (tapeV t k5) 4 = f4 at h4
      simp +decide -dsimp -implicitDefEqProofs [go_sem, tapeO_ren, h4]
      refine callDE_frame [0] o7 rfl rfl (by simp) (by simp +decide -dsimp -implicitDefEqProofs [go_sem]) (by simp +decide -dsimp -implicitDefEqProofs [go_sem, tapeO_ren]) ?_
      simp +decide -dsimp -implicitDefEqProofs [go_sem, tapeO_ren, hjl, dcRow_eq]
      refine cut_of (by simp) ?_
      simp +decide -dsimp -implicitDefEqProofs [go_sem, tapeO, hcl, hal, zD]
      omega
    · have e6 : k6 = k5 + 1 := by rw [hk6, parF, if_neg h0, if_neg h4]
      have ep : pr = 0 := by rw [hpr, parF, if_neg h0, if_neg h4]
      subst e6 ep
      generalize fold (tapeV t k5) 4 = f4 at h4
      simp +decide -dsimp -implicitDefEqProofs [go_sem, tapeO_ren, h4]
      refine cut_of (by simp) ?_
      simp +decide -dsimp -implicitDefEqProofs [go_sem, tapeO, hcl, hal, zD]
  clear hk6 hpr
  have hbk := bodyF_k t k6 kd sub A
  obtain ⟨B, hB⟩ : ∃ B, B = bodyF t k6 kd sub A := ⟨_, rfl⟩
  rw [← hB] at hbk ⊢
  have o8 := Next_c t (k6 + 1) 9 (by omega) (by omega)
  have b8 := fold_bd (tapeV t (k6 + 1)) 9 (by omega)
  have w8 : IntKind.i64.wrap (1 + fold (tapeV t (k6 + 1)) 9) = 1 + fold (tapeV t (k6 + 1)) 9 := w64 (by omega) (by omega)
  generalize hf9 : fold (tapeV t (k6 + 1)) 9 = f9 at o8 w8
  by_cases h4 : kd = 4
  · have q1 : (kd = 4) = True := eq_true h4
    have q2 : (kd == 4) = true := by simp [h4]
    rw [bodyF, if_pos h4] at hB
    have oA := One_c t k6 n3S (by omega) (by decide) (by decide)
    have eA : [[AV.str [101, 116, 104, 48]], [.str [101, 116, 104, 49]], [.str [119, 108, 97, 110, 48]]] = n3S.map sRow := rfl
    unfold strsV at oA
    generalize oneS n3S (tapeV t k6) = og at oA hB
    have oB := One_c t (k6 + 1) [og, og, [108, 97, 110, 48], [101, 116, 104, 49]] (by omega) (by simp) (by simp)
    unfold strsV at oB
    generalize oneS [og, og, [108, 97, 110, 48], [101, 116, 104, 49]] (tapeV t (k6 + 1)) = nm at oB hB
    subst hB
    refine awp_of ?_
    rw [dcRow_eq]
    simp +decide -dsimp -implicitDefEqProofs [go_sem, h4]
    rw [eA]
    refine callE_frame [0] oA rfl rfl (by simp) (by simp +decide -dsimp -implicitDefEqProofs [go_sem]) (by simp +decide -dsimp -implicitDefEqProofs [go_sem, tapeO_ren]) ?_
    simp +decide -dsimp -implicitDefEqProofs [go_sem, tapeO_ren]
    refine callE_frame [0] oB rfl rfl (by simp) (by simp [sRow, renLL, renL, ren]) (by simp +decide -dsimp -implicitDefEqProofs [go_sem, tapeO_ren]) ?_
    simp +decide -dsimp -implicitDefEqProofs [go_sem, hal, tapeO, tape_ren]
    exact ⟨h4.symm, by omega⟩
  refine awp_cut ⟨tmps 114 [(0, .ptr 0 0), (3, .ptr 1 0), (4, .ptr 2 0), (5, .ptr 3 0)], [tapeO t B.k, .box 28 [.imm (T.map dcRow)], .box 55 zD, .box 55 [.int .i64 (mxI T), .int .i64 pr, .str [], .str B.orig, .str B.sub, .str drv, .str ali, .int .i64 kd, .int .i64 B.num, .imm (B.attrs.map aRow)]]⟩ (awp_of ?_) ?_
  · by_cases h2 : kd = 2
    · rw [bodyF, if_neg h4, if_pos h2, hf9] at hB
      have oA := One_c t k6 blS (by omega) (by decide) (by decide)
      have eA : [[AV.str [115, 100, 97]], [.str [115, 100, 98]], [.str [115, 100, 97, 49]], [.str [115, 100, 97, 50]], [.str [99, 33, 100, 48]]] = blS.map sRow := rfl
      have oC := One_c t (k6 + 1 + 1) ctS (by omega) (by decide) (by decide)
      unfold strsV at oA oC
      generalize oneS blS (tapeV t k6) = og at oA hB
      rw [show k6 + 1 + 1 = k6 + 2 by omega] at o8 oC
      generalize oneS ctS (tapeV t (k6 + 2)) = cv at oC hB
      have cs := set_c A cont cv (by have := hAl; omega)
      subst hB
      simp +decide -dsimp -implicitDefEqProofs [go_sem, h2]
      rw [eA]
      refine callE_frame [0] oA rfl rfl (by simp) (by simp +decide -dsimp -implicitDefEqProofs [go_sem]) (by simp +decide -dsimp -implicitDefEqProofs [go_sem, tapeO_ren]) ?_
      simp +decide -dsimp -implicitDefEqProofs [go_sem, tapeO_ren]
      refine callE_frame [0] o8 rfl rfl (by simp) (by simp +decide -dsimp -implicitDefEqProofs [go_sem]) (by simp +decide -dsimp -implicitDefEqProofs [go_sem, tapeO_ren]) ?_
      simp +decide -dsimp -implicitDefEqProofs [go_sem, tapeO_ren, w8]
      refine callDE_pure contents_c rfl (by simp +decide -dsimp -implicitDefEqProofs [go_sem]) ?_
      simp +decide -dsimp -implicitDefEqProofs [go_sem]
      refine callDE_frame [0] oC rfl rfl (by simp) (by simp +decide -dsimp -implicitDefEqProofs [go_sem]) (by simp +decide -dsimp -implicitDefEqProofs [go_sem, tapeO_ren]) ?_
      simp +decide -dsimp -implicitDefEqProofs [go_sem, tapeO_ren]
      refine callDE_pure cs (by simp +decide -dsimp -implicitDefEqProofs [go_sem, hal]) (by simp +decide -dsimp -implicitDefEqProofs [go_sem, hal]) ?_
      simp +decide -dsimp -implicitDefEqProofs [go_sem]
      refine cut_of (by simp) ?_
      simp +decide -dsimp -implicitDefEqProofs [go_sem, tapeO, hcl, hal, zD]
      try omega
    by_cases h3 : kd = 3
    · rw [bodyF, if_neg h4, if_neg h2, if_pos h3, hf9] at hB
      have oA := One_c t k6 chS (by omega) (by decide) (by decide)
      have eA : [[AV.str [116, 116, 121, 48]], [.str [116, 116, 121, 49]], [.str [105, 110, 112, 117, 116, 33, 101, 118, 48]]] = chS.map sRow := rfl
      unfold strsV at oA
      generalize oneS chS (tapeV t k6) = og at oA hB
      subst hB
      simp +decide -dsimp -implicitDefEqProofs [go_sem, h3]
      rw [eA]
      refine callE_frame [0] oA rfl rfl (by simp) (by simp +decide -dsimp -implicitDefEqProofs [go_sem]) (by simp +decide -dsimp -implicitDefEqProofs [go_sem, tapeO_ren]) ?_
      simp +decide -dsimp -implicitDefEqProofs [go_sem, tapeO_ren]
      refine callE_frame [0] o8 rfl rfl (by simp) (by simp +decide -dsimp -implicitDefEqProofs [go_sem]) (by simp +decide -dsimp -implicitDefEqProofs [go_sem, tapeO_ren]) ?_
      simp +decide -dsimp -implicitDefEqProofs [go_sem, tapeO_ren, w8]
      refine cut_of (by simp) ?_
      simp +decide -dsimp -implicitDefEqProofs [go_sem, tapeO, hcl, hal, zD]
      try omega
    · rw [bodyF, if_neg h4, if_neg h2, if_neg h3] at hB
      have oA := One_c t k6 plS (by omega) (by decide) (by decide)
      have eA : [[AV.str [112, 99, 105, 48]], [.str [117, 115, 98, 49]], [.str [49, 45, 49]], [.str [112, 111, 114, 116]]] = plS.map sRow := rfl
      unfold strsV at oA
      generalize oneS plS (tapeV t k6) = og at oA hB
      subst hB
      have p4 : (kd = 4) = False := eq_false h4
      have p2 : (kd = 2) = False := eq_false h2
      have p3 : (kd = 3) = False := eq_false h3
      simp +decide -dsimp -implicitDefEqProofs [go_sem, p4, p2, p3]
      rw [eA]
      refine callE_frame [0] oA rfl rfl (by simp) (by simp +decide -dsimp -implicitDefEqProofs [go_sem]) (by simp +decide -dsimp -implicitDefEqProofs [go_sem, tapeO_ren]) ?_
      simp +decide -dsimp -implicitDefEqProofs [go_sem, tapeO_ren]
      refine cut_of (by simp) ?_
      simp +decide -dsimp -implicitDefEqProofs [go_sem, tapeO, hcl, hal, zD]
      try omega
  have hnm : B.name = B.orig := by
    rw [hB, bodyF, if_neg h4]
    split
    · rfl
    · split <;> rfl
  rw [dcRow_eq]
  clear hB
  obtain ⟨bn, bo, bs, bm, ba, bk⟩ := B
  simp only at hnm hbk ⊢
  subst hnm
  refine awp_of ?_
  simp +decide -dsimp -implicitDefEqProofs [go_sem, hal, tapeO]
end Go.Ab
namespace Go.Ab
open Go Go.Proofs Go.Sort
set_option maxRecDepth 20000
theorem Wk.nilBI {k : Nat} {T : List AV} {H : List AObj} {eb : Nat} {cs : List AV} (o i : Nat) (ho : H[o]? = some (.box eb cs)) (hi : cs[i]? = some .nils) :
    Wk k ⟨T, H⟩ ⟨T, H.set o (.box eb (cs.set i (.imm [])))⟩ := fun c a hr hH hF => by
  have hH' : c.H = H := hH
  subst hH'
  obtain ⟨b, arr, g1, g2, g3, g4⟩ := hr.obj o _ ho
  have hN2 := rel_upd hr (o := o) (x' := .box eb (cs.set i (.imm []))) (v' := .pointer (some ⟨b, 0, none⟩)) (F' := c.F) (w' := c.w) ho (by simp only [OStep]; exact ⟨trivial, g1.symm⟩) (fun _ h => h) (fun _ h => .inl h) (fun _ _ _ => rfl) (Nat.le_refl _) rfl rfl rfl
    (fun b' _ hb => .inr ⟨_, _, ho, rfl, g1, hb⟩) (fun hE => by
      refine ⟨b, arr, ?_, g2, by simpa using g3, ?_⟩
      · exact set_getElem?_self g1
      · have g5 := Cells_ext (hE.vext hr) _ _ _ rfl g4
        rw [Cells_iff] at g5 ⊢
        intro j x hj
        by_cases hji : i = j
        · subst hji
          have hlt := (List.getElem?_eq_some_iff.1 hi).1
          rw [List.getElem?_set_self hlt] at hj
          cases hj
          obtain ⟨v, k1, k2, k3⟩ := g5 i _ hi
          refine ⟨v, k1, k2, ?_⟩
          simp only [Val] at k3
          subst k3
          simp only [Val]
          exact .inr ⟨trivial, _, _, rfl⟩
        · rw [List.getElem?_set_ne hji] at hj
          exact g5 j x hj)
  exact ⟨⟨c.F, c.μ.set o (.pointer (some ⟨b, 0, none⟩)), c.H.set o (.box eb (cs.set i (.imm []))), c.w⟩, rfl, hN2.1, hN2.2.toN k, rfl, Fr_ext hN2.2 hr hF⟩
structure TSt where
  i : Nat
  k : Nat
  T : List Dvc
structure TSt.ok (n k0 : Nat) (s : TSt) : Prop where
  hi : s.i ≤ n
  hk : s.k ≤ k0 + 20 * s.i
  l : s.T.length ≤ s.i
  t : TreeOk Fine s.T
theorem par_ok {t : List Int} {k : Nat} {T : List Dvc} (hT : TreeOk Fine T) : 0 ≤ (devF t k T).par ∧ (devF t k T).par < (devF t k T).idx ∧ ((devF t k T).par ≠ 0 → (findD T (devF t k T).par).isSome = true) := by
  have h1 : (devF t k T).idx = T.length + 1 := mxI_ok hT
  rcases parF_ok t (k5F t k) T with h | ⟨d, hd, h⟩
  · have h2 : (devF t k T).par = 0 := h
    exact ⟨by omega, by omega, fun h3 => absurd h2 h3⟩
  · have h2 : (devF t k T).par = d.idx := h
    have h3 := hT.ix d hd
    refine ⟨by omega, by omega, fun _ => ?_⟩
    rw [h2, findD_mem hT.nd hd]; rfl
def treeR (t : List Int) (k0 n : Nat) (v : AV) (G : List AObj) : Prop := ∃ T k', v = .agg [.imm (T.map dcRow)] ∧ G = [tapeO t k'] ∧ TreeOk Fine T ∧ T.length ≤ n ∧ k' ≤ k0 + 1 + 20 * n
set_option maxHeartbeats 8000000 in
theorem tree_c (t : List Int) (k n : Nat) (hk : k < 100000000) (hn : n ≤ 99) : ACallsR Tryz.prog 10 [.ptr 0 0, .int .i64 n] [tapeO t k] (treeR t k n) := by
  have hcl := fun k (T : List Dvc) => dcRows_cl k T
  have hrd := renLL_dcRows
  have wn : IntKind.i64.wrap ((n : Int) + 1) = n + 1 := w64 (by omega) (by omega)
  have o1 := Next_c t k (n + 1) (by omega) (by omega)
  have b1 := fold_bd (tapeV t k) (n + 1) (by omega)
  obtain ⟨m, hm⟩ : ∃ m : Nat, fold (tapeV t k) (n + 1) = m := ⟨_, (Int.toNat_of_nonneg b1.1).symm⟩
  rw [hm] at o1 b1
  refine acalls_E (treeR t k n) 0 c10_ok ?_
  unfold c10
  simp +decide -dsimp -implicitDefEqProofs [go_sem, wn]
  refine callE_frame [0] o1 rfl rfl (by simp) (by simp +decide -dsimp -implicitDefEqProofs [go_sem]) (by simp +decide -dsimp -implicitDefEqProofs [go_sem, tapeO_ren]) ?_
  simp +decide -dsimp -implicitDefEqProofs [go_sem, tapeO_ren]
  refine loop_of (S := TSt) (fun s => ⟨tmps 29 [(0, .ptr 0 0), (4, .ptr 1 0), (5, .ptr 2 0), (6, .int .i64 ((m - s.i : Nat) : Int))], [tapeO t s.k, .box 28 [.nils], .box 28 [.imm (s.T.map dcRow)]]⟩) (fun s => m - s.i) (TSt.ok m (k + 1)) ⟨0, k + 1, []⟩ ⟨by simp, by simp, by simp, .nil⟩ ((Wk.nilBI 2 0 rfl rfl).trans (cut_of (by simp) ?_)) ?_
  · simp +decide -dsimp -implicitDefEqProofs [go_sem, tapeO]
  rintro ⟨i, k2, T⟩ ⟨hi, hk2, hl, hT⟩
  simp only at hi hk2 hl hT
  by_cases h : i < m
  · have h' : 0 < m - i := by omega
    have wi : IntKind.i64.wrap (((m - i : Nat) : Int) - 1) = ((m - (i + 1) : Nat) : Int) := by rw [w64 (by omega) (by omega)]; omega
    have hix : ∀ d ∈ T, 1 ≤ d.idx ∧ d.idx ≤ 1000 := fun d hd => by have := hT.ix d hd; omega
    have cd := device_c t k2 T (by omega) (by omega) hix
    have hbk := devB_k t k2 T
    have hfi := devF_fine t k2 T
    have hdi : (devF t k2 T).idx = T.length + 1 := mxI_ok hT
    obtain ⟨p1, p2, p3⟩ := par_ok (t := t) (k := k2) hT
    generalize devF t k2 T = d at cd hfi hdi p1 p2 p3
    generalize (devB t k2 T).k = k3 at cd hbk
    have ci := insert_c T d (by omega) (fun x hx => (hT.dv x hx).o) hfi (by omega) ⟨p1, p2⟩ (findD_none hT (.inr (by omega))) p3
    have hdr := fun is => dcRow_ren is d
    have hdc := fun k => dcRow_cl k d
    simp +decide -dsimp -implicitDefEqProofs [go_sem, h']
    refine callDE_frame [0] cd rfl rfl (by simp) (by simp +decide -dsimp -implicitDefEqProofs [go_sem, hrd]) (by simp +decide -dsimp -implicitDefEqProofs [go_sem, tapeO_ren]) ?_
    simp +decide -dsimp -implicitDefEqProofs [go_sem, tapeO_ren, hdr]
    by_cases ho : insOk T d = true
    · have hv : insV T d = .tup [.agg [.imm ((insT T d).map dcRow)], .int .i64 0] := by
        simp only [insOk, Bool.and_eq_true, decide_eq_true_eq, Bool.not_eq_true'] at ho
        rw [insV, if_pos ho.1, ho.2]; rfl
      have hT' := hT.ins hfi (by omega) ⟨p1, p2⟩ ho
      have hl' : (insT T d).length = T.length + 1 := ins_len
      generalize insT T d = T' at hv hT' hl'
      rw [hv] at ci
      generalize htv : AV.tup [.agg [.imm (T'.map dcRow)], .int .i64 0] = tv at ci
      refine callDE_pure ci (by simp +decide -dsimp -implicitDefEqProofs [go_sem, hcl, hdc]) (by rw [← htv]; simp +decide -dsimp -implicitDefEqProofs [go_sem, hcl]) ?_
      subst htv
      simp +decide -dsimp -implicitDefEqProofs [go_sem, wi]
      refine next_of ⟨i + 1, k3, T'⟩ ⟨by show i + 1 ≤ m; omega, by show k3 ≤ k + 1 + 20 * (i + 1); omega, by show T'.length ≤ i + 1; omega, hT'⟩ (by show m - (i + 1) < m - i; omega) (cut_of (by simp) ?_)
      simp +decide -dsimp -implicitDefEqProofs [go_sem, tapeO, hcl]
    · obtain ⟨e, he, hv⟩ : ∃ e : Int, e ≠ 0 ∧ insV T d = .tup [.agg [.nils], .int .i64 e] := by
        unfold insV
        by_cases h7 : (ownO T d).length ≤ 7
        · rw [if_pos h7]
          have hb : T.any (badO T d) = true := by
            cases hb : T.any (badO T d) with
            | true => rfl
            | false => exact absurd (by simp [insOk, h7, hb]) ho
          rw [if_pos hb]
          exact ⟨44, by decide, rfl⟩
        · rw [if_neg h7]
          exact ⟨46, by decide, rfl⟩
      rw [hv] at ci
      generalize htv : AV.tup [.agg [.nils], .int .i64 e] = tv at ci
      refine callDE_pure ci (by simp +decide -dsimp -implicitDefEqProofs [go_sem, hcl, hdc]) (by rw [← htv]; rfl) ?_
      subst htv
      simp +decide -dsimp -implicitDefEqProofs [go_sem, wi, he]
      refine next_of ⟨i + 1, k3, T⟩ ⟨by show i + 1 ≤ m; omega, by show k3 ≤ k + 1 + 20 * (i + 1); omega, by show T.length ≤ i + 1; omega, hT⟩ (by show m - (i + 1) < m - i; omega) (cut_of (by simp) ?_)
      simp +decide -dsimp -implicitDefEqProofs [go_sem, tapeO, hcl]
  · have e : i = m := by omega
    subst e
    simp +decide -dsimp -implicitDefEqProofs [go_sem]
    refine end_of (.agg [.imm (T.map dcRow)]) [tapeO t k2] ⟨T, k2, rfl, rfl, hT, by omega, by omega⟩ rfl ?_
    simp +decide -dsimp -implicitDefEqProofs [go_sem, tapeO, hcl]
end Go.Ab
namespace Go.Ab
open Go Go.Proofs Go.Sort
set_option maxRecDepth 20000
def kDP : Txt := [68, 69, 86, 80, 65, 84, 72]
def kSS : Txt := [83, 85, 66, 83, 89, 83, 84, 69, 77]
def kDR : Txt := [68, 82, 73, 86, 69, 82]
def kMA : Txt := [77, 79, 68, 65, 76, 73, 65, 83]
def kDN : Txt := [68, 69, 86, 78, 65, 77, 69]
def kNU : Txt := [78, 85, 77, 66, 69, 82]
def kIF : Txt := [73, 78, 84, 69, 82, 70, 65, 67, 69]
def kIA : Txt := [73, 68, 95, 65]
def kSL : Txt := [73, 68, 95, 78, 69, 84, 95, 78, 65, 77, 69, 95, 83, 76, 79, 84]
def kMC : Txt := [73, 68, 95, 78, 69, 84, 95, 78, 65, 77, 69, 95, 77, 65, 67]
def base4 (T : List Dvc) (d : Dvc) : List (Txt × Txt) := setA (setA (setA (setA [] kDP (placeT T d.idx)) kSS d.sub) kDR d.drv) kMA d.ali
def base5 (T : List Dvc) (d : Dvc) : List (Txt × Txt) := match nodeD d with
  | some s => setA (setA (base4 T d) kDN s) kNU (Lib.decDigits d.num.toNat)
  | none => base4 T d
def baseF (T : List Dvc) (d : Dvc) : List (Txt × Txt) := if d.kind = 4 then setA (base5 T d) kIF d.orig else base5 T d
theorem base4_len (T : List Dvc) (d : Dvc) : (base4 T d).length ≤ 4 := by
  have h1 := setA_len [] kDP (placeT T d.idx)
  have h2 := setA_len (setA [] kDP (placeT T d.idx)) kSS d.sub
  have h3 := setA_len (setA (setA [] kDP (placeT T d.idx)) kSS d.sub) kDR d.drv
  have h4 := setA_len (setA (setA (setA [] kDP (placeT T d.idx)) kSS d.sub) kDR d.drv) kMA d.ali
  simp only [List.length_nil] at h1
  unfold base4
  omega
theorem base5_len (T : List Dvc) (d : Dvc) : (base5 T d).length ≤ 6 := by
  have h := base4_len T d
  unfold base5
  split
  · rename_i s _
    have h1 := setA_len (base4 T d) kDN s
    have h2 := setA_len (setA (base4 T d) kDN s) kNU (Lib.decDigits d.num.toNat)
    omega
  · omega
theorem baseF_len (T : List Dvc) (d : Dvc) : (baseF T d).length ≤ 7 := by
  have h := base5_len T d
  unfold baseF
  split
  · have h1 := setA_len (base5 T d) kIF d.orig
    omega
  · omega
set_option maxHeartbeats 8000000 in
theorem base_c (T : List Dvc) (hT : TreeOk Fine T) (hl : T.length ≤ 100) (d : Dvc) (hd : d ∈ T) : ACalls Tryz.prog 72 [.agg [.imm (T.map dcRow)], .int .i64 d.idx] [] (.imm ((baseF T d).map aRow)) [] := by
  have hcl := fun k (T : List Dvc) => dcRows_cl k T
  have hal := fun k (l : List (Txt × Txt)) => aRows_cl k l
  have hF := hT.dv d hd
  have cf := find_c T d.idx (by omega)
  rw [findD_mem hT.nd hd] at cf
  change ACalls Tryz.prog 109 _ [] (.tup [.agg (dcRow d), .bool true]) [] at cf
  have cp := place_c T d.idx (by omega) (fun x hx => by have := (oS_v _ (hT.dv x hx).o).2.2; omega)
  have cn := node_c d hF.o
  rw [dcRow_eq] at cf cn
  have ho := (oS_v _ hF.o).2.2
  refine acalls_A c72_ok rfl ?_
  unfold c72
  refine awp_cut ⟨tmps 57 [(1, .int .i64 d.idx), (2, .ptr 0 0)], [.box 28 [.imm (T.map dcRow)]]⟩ (awp_of ?_) ?_
  · simp +decide -dsimp -implicitDefEqProofs [go_sem]
    refine cut_of (by simp) ?_
    simp +decide -dsimp -implicitDefEqProofs [go_sem, hcl]
  refine awp_cut ⟨tmps 57 [(1, .int .i64 d.idx), (2, .ptr 0 0), (5, .ptr 1 0), (6, .bool true)], [.box 28 [.imm (T.map dcRow)], .box 55 (dcRow d)]⟩ (awp_of ?_) ?_
  · simp +decide -dsimp -implicitDefEqProofs [go_sem]
    generalize htv : AV.tup [.agg [.int .i64 d.idx, .int .i64 d.par, .str d.name, .str d.orig, .str d.sub, .str d.drv, .str d.ali, .int .i64 d.kind, .int .i64 d.num, .imm (d.attrs.map aRow)], .bool true] = tv at cf
    refine callE_pure cf (by simp +decide -dsimp -implicitDefEqProofs [go_sem, hcl]) (by rw [← htv]; simp +decide -dsimp -implicitDefEqProofs [go_sem, hal]) ?_
    subst htv
    simp +decide -dsimp -implicitDefEqProofs [go_sem]
    refine cut_of (by simp) ?_
    simp +decide -dsimp -implicitDefEqProofs [go_sem, hcl, hal, dcRow_eq]
  refine awp_cut ⟨tmps 57 [(1, .int .i64 d.idx), (2, .ptr 0 0), (5, .ptr 1 0)], [.box 28 [.imm (T.map dcRow)], .box 55 (dcRow d)]⟩ (awp_of ?_) ?_
  · simp +decide -dsimp -implicitDefEqProofs [go_sem]
    refine cut_of (by simp) ?_
    simp +decide -dsimp -implicitDefEqProofs [go_sem, hcl, hal, dcRow_eq]
  refine awp_cut ⟨tmps 57 [(1, .int .i64 d.idx), (2, .ptr 0 0), (5, .ptr 1 0), (7, .imm (([] : List (Txt × Txt)).map aRow))], [.box 28 [.imm (T.map dcRow)], .box 55 (dcRow d)]⟩ (awp_of ?_) ?_
  · simp +decide -dsimp -implicitDefEqProofs [go_sem]
    refine (Wk.nilI 7 rfl).trans (cut_of (by simp) ?_)
    simp +decide -dsimp -implicitDefEqProofs [go_sem, hcl, hal, dcRow_eq]
  obtain ⟨B1, hB1⟩ : ∃ B, B = setA ([] : List (Txt × Txt)) kDP (placeT T d.idx) := ⟨_, rfl⟩
  have l1 : B1.length ≤ 1 := by have := setA_len ([] : List (Txt × Txt)) kDP (placeT T d.idx); rw [← hB1] at this; simpa using this
  have s1 := set_c ([] : List (Txt × Txt)) kDP (placeT T d.idx) (by simp)
  rw [← hB1] at s1
  unfold kDP at s1
  refine awp_cut ⟨tmps 57 [(1, .int .i64 d.idx), (2, .ptr 0 0), (5, .ptr 1 0), (7, .imm (B1.map aRow))], [.box 28 [.imm (T.map dcRow)], .box 55 (dcRow d)]⟩ (awp_of ?_) ?_
  · simp +decide -dsimp -implicitDefEqProofs [go_sem, dcRow_eq]
    refine callE_pure cp (by simp +decide -dsimp -implicitDefEqProofs [go_sem, hcl]) rfl ?_
    simp +decide -dsimp -implicitDefEqProofs [go_sem]
    refine callE_pure s1 (by simp +decide -dsimp -implicitDefEqProofs [go_sem]) (by simp +decide -dsimp -implicitDefEqProofs [go_sem, hal]) ?_
    simp +decide -dsimp -implicitDefEqProofs [go_sem]
    refine cut_of (by simp) ?_
    simp +decide -dsimp -implicitDefEqProofs [go_sem, hcl, hal, dcRow_eq]
  obtain ⟨B2, hB2⟩ : ∃ B, B = setA B1 kSS d.sub := ⟨_, rfl⟩
  have l2 : B2.length ≤ 2 := by have := setA_len B1 kSS d.sub; rw [← hB2] at this; omega
  have s2 := set_c B1 kSS d.sub (by omega)
  rw [← hB2] at s2
  unfold kSS at s2
  refine awp_cut ⟨tmps 57 [(1, .int .i64 d.idx), (2, .ptr 0 0), (5, .ptr 1 0), (7, .imm (B2.map aRow))], [.box 28 [.imm (T.map dcRow)], .box 55 (dcRow d)]⟩ (awp_of ?_) ?_
  · simp +decide -dsimp -implicitDefEqProofs [go_sem, dcRow_eq]
    refine callE_pure s2 (by simp +decide -dsimp -implicitDefEqProofs [go_sem, hal]) (by simp +decide -dsimp -implicitDefEqProofs [go_sem, hal]) ?_
    simp +decide -dsimp -implicitDefEqProofs [go_sem]
    refine cut_of (by simp) ?_
    simp +decide -dsimp -implicitDefEqProofs [go_sem, hcl, hal, dcRow_eq]
  obtain ⟨B3, hB3⟩ : ∃ B, B = setA B2 kDR d.drv := ⟨_, rfl⟩
  have l3 : B3.length ≤ 3 := by have := setA_len B2 kDR d.drv; rw [← hB3] at this; omega
  have s3 := set_c B2 kDR d.drv (by omega)
  rw [← hB3] at s3
  unfold kDR at s3
  refine awp_cut ⟨tmps 57 [(1, .int .i64 d.idx), (2, .ptr 0 0), (5, .ptr 1 0), (7, .imm (B3.map aRow))], [.box 28 [.imm (T.map dcRow)], .box 55 (dcRow d)]⟩ (awp_of ?_) ?_
  · simp +decide -dsimp -implicitDefEqProofs [go_sem, dcRow_eq]
    refine callE_pure s3 (by simp +decide -dsimp -implicitDefEqProofs [go_sem, hal]) (by simp +decide -dsimp -implicitDefEqProofs [go_sem, hal]) ?_
    simp +decide -dsimp -implicitDefEqProofs [go_sem]
    refine cut_of (by simp) ?_
    simp +decide -dsimp -implicitDefEqProofs [go_sem, hcl, hal, dcRow_eq]
  obtain ⟨B4, hB4⟩ : ∃ B, B = setA B3 kMA d.ali := ⟨_, rfl⟩
  have l4 : B4.length ≤ 4 := by have := setA_len B3 kMA d.ali; rw [← hB4] at this; omega
  have s4 := set_c B3 kMA d.ali (by omega)
  rw [← hB4] at s4
  unfold kMA at s4
  refine awp_cut ⟨tmps 57 [(1, .int .i64 d.idx), (2, .ptr 0 0), (5, .ptr 1 0), (7, .imm (B4.map aRow))], [.box 28 [.imm (T.map dcRow)], .box 55 (dcRow d)]⟩ (awp_of ?_) ?_
  · simp +decide -dsimp -implicitDefEqProofs [go_sem, dcRow_eq]
    refine callE_pure s4 (by simp +decide -dsimp -implicitDefEqProofs [go_sem, hal]) (by simp +decide -dsimp -implicitDefEqProofs [go_sem, hal]) ?_
    simp +decide -dsimp -implicitDefEqProofs [go_sem]
    refine cut_of (by simp) ?_
    simp +decide -dsimp -implicitDefEqProofs [go_sem, hcl, hal, dcRow_eq]
  have h4 : base4 T d = B4 := by rw [hB4, hB3, hB2, hB1]; rfl
  obtain ⟨B5, hB5⟩ : ∃ B, B = base5 T d := ⟨_, rfl⟩
  have l5 := base5_len T d
  have hbF : baseF T d = if d.kind = 4 then setA B5 kIF d.orig else B5 := by rw [baseF, ← hB5]
  rw [hbF]
  rw [← hB5] at l5
  refine awp_cut ⟨tmps 57 [(5, .ptr 1 0), (7, .imm (B5.map aRow))], [.box 28 [.imm (T.map dcRow)], .box 55 (dcRow d)]⟩ (awp_of ?_) ?_
  · simp +decide -dsimp -implicitDefEqProofs [go_sem, dcRow_eq]
    by_cases hk : d.kind = 2 ∨ d.kind = 3
    · have hnd : nodeD d = some (d.orig.map slashB) := if_pos hk
      rw [base5, hnd] at hB5
      simp only [h4] at hB5
      have hbn := hF.bc hk
      obtain ⟨nn, hnn⟩ : ∃ nn : Nat, d.num = nn := ⟨d.num.toNat, by omega⟩
      have ci := Itoa_c nn (by omega)
      rw [hnn, Int.toNat_natCast] at hB5
      have s5 := set_c B4 kDN (d.orig.map slashB) (by omega)
      have l6 := setA_len B4 kDN (d.orig.map slashB)
      have s6 := set_c (setA B4 kDN (d.orig.map slashB)) kNU (Lib.decDigits nn) (by omega)
      rw [← hB5] at s6
      rw [hnd] at cn
      unfold kDN at s5 s6
      unfold kNU at s6
      generalize htv : ndV (some (d.orig.map slashB)) = tv at cn
      refine callE_pure cn (by simp +decide -dsimp -implicitDefEqProofs [go_sem, hal]) (by rw [← htv]; rfl) ?_
      subst htv
      unfold ndV
      simp +decide -dsimp -implicitDefEqProofs [go_sem]
      refine callE_pure s5 (by simp +decide -dsimp -implicitDefEqProofs [go_sem, hal]) (by simp +decide -dsimp -implicitDefEqProofs [go_sem, hal]) ?_
      simp +decide -dsimp -implicitDefEqProofs [go_sem, hnn]
      refine callE_pure ci rfl rfl ?_
      simp +decide -dsimp -implicitDefEqProofs [go_sem]
      refine callE_pure s6 (by simp +decide -dsimp -implicitDefEqProofs [go_sem, hal]) (by simp +decide -dsimp -implicitDefEqProofs [go_sem, hal]) ?_
      simp +decide -dsimp -implicitDefEqProofs [go_sem]
      refine cut_of (by simp) ?_
      simp +decide -dsimp -implicitDefEqProofs [go_sem, hcl, hal, dcRow_eq, hnn]
    · have hnd : nodeD d = none := if_neg hk
      rw [base5, hnd] at hB5
      simp only [h4] at hB5
      rw [hnd] at cn
      generalize htv : ndV none = tv at cn
      refine callE_pure cn (by simp +decide -dsimp -implicitDefEqProofs [go_sem, hal]) (by rw [← htv]; rfl) ?_
      subst htv hB5
      unfold ndV
      simp +decide -dsimp -implicitDefEqProofs [go_sem]
      refine cut_of (by simp) ?_
      simp +decide -dsimp -implicitDefEqProofs [go_sem, hcl, hal, dcRow_eq]
  rw [dcRow_eq]
  refine awp_of ?_
  by_cases h4 : d.kind = 4
  · rw [if_pos h4]
    have s7 := set_c B5 kIF d.orig (by omega)
    unfold kIF at s7
    have q1 : (d.kind = 4) = True := eq_true h4
    simp +decide -dsimp -implicitDefEqProofs [go_sem, q1]
    refine callE_pure s7 (by simp +decide -dsimp -implicitDefEqProofs [go_sem, hal]) (by simp +decide -dsimp -implicitDefEqProofs [go_sem, hal]) ?_
    simp +decide -dsimp -implicitDefEqProofs [go_sem, hal, kIF]
  · rw [if_neg h4]
    simp +decide -dsimp -implicitDefEqProofs [go_sem, h4, hal]
end Go.Ab
namespace Go.Ab
open Go Go.Proofs Go.Sort
set_option maxRecDepth 20000
set_option maxHeartbeats 4000000 in
theorem put16_c (l : List Txt) (s : Txt) (hl : l.length ≤ 15) : ACalls Tryz.prog 73 [.imm (l.map sRow), .str s, .int .i64 16] [] (.imm ((putS l s).map sRow)) [] := by
  have hls : ∀ a b : List UInt8, Op.bytesLess a b = decide (a < b) := fun a b => bytesLess_eq a b
  have hrow : ∀ r ∈ l.map sRow, r.length = 1 := fun r hr => by
    obtain ⟨x, _, rfl⟩ := List.mem_map.1 hr; rfl
  have h16 : ¬ (16 : Int) ≤ l.length := by omega
  have ht : List.take l.length (l.map sRow) = l.map sRow := List.take_of_length_le (by simp)
  refine acalls_F c73_ok rfl ?_
  unfold c73
  simp +decide -dsimp -implicitDefEqProofs [go_sem]
  refine loop_of (S := Nat) (fun i => ⟨tmps 52 [(0, .imm (l.map sRow)), (1, .str s), (2, .int .i64 16), (7, .int .i64 i)], []⟩) (fun i => l.length - i) (fun i => i ≤ l.length ∧ ∀ x ∈ l.take i, x < s) 0 (by simp) (cut_of (by simp) ?_) ?_
  · simp +decide -dsimp -implicitDefEqProofs [go_sem]
  intro i hi
  by_cases h : i < l.length
  · by_cases h1 : l[i] < s
    · have wi : IntKind.i64.wrap ((i : Int) + 1) = i + 1 := w64 (by omega) (by omega)
      simp +decide -dsimp -implicitDefEqProofs [go_sem, h, hls, h1, wi]
      refine next_of (i + 1) ⟨by omega, fun x hx => ?_⟩ (by omega) (cut_of (by simp) ?_)
      · rw [List.take_succ_eq_append_getElem h] at hx
        rcases List.mem_append.1 hx with hx | hx
        · exact hi.2 x hx
        · simp at hx; subst hx; exact h1
      simp +decide -dsimp -implicitDefEqProofs [go_sem]
    · have hp := putS_at (s := s) hi.1 hi.2 (fun _ => h1)
      by_cases e : l[i] = s
      · rw [if_pos (by rw [List.getElem?_eq_getElem h, e])] at hp
        have hss : ¬ s < s := List.lt_irrefl s
        simp +decide -dsimp -implicitDefEqProofs [go_sem, h, hls, e, hss, hp]
      · rw [if_neg (by rw [List.getElem?_eq_getElem h]; simpa using e)] at hp
        simp +decide -dsimp -implicitDefEqProofs [go_sem, h, hls, h1, e, h16, maxLen]
        refine ⟨hi.1, fun r hr => hrow r (List.mem_of_mem_take hr), ⟨by omega, by omega⟩, ⟨by omega, by omega⟩, hi.1, fun r hr => hrow r (List.mem_of_mem_take (List.mem_of_mem_drop hr)), ⟨by omega, by omega⟩, ?_, ?_⟩
        · rw [hp]; simp; omega
        · rw [hp, ht]; simp [sRow, List.map_take, List.map_drop]
  · have e : i = l.length := by omega
    subst e
    have hp := putS_at (s := s) (Nat.le_refl _) hi.2 (fun h => absurd h (by omega))
    rw [if_neg (by simp)] at hp
    simp +decide -dsimp -implicitDefEqProofs [go_sem, h16, maxLen]
    rw [ht]
    refine ⟨hrow, ⟨by omega, by omega⟩, ⟨by omega, by omega⟩, ?_, ?_⟩
    · rw [hp]; simp
    · rw [hp]; simp [sRow]
end Go.Ab
namespace Go.Ab
open Go Go.Proofs Go.Sort
set_option maxRecDepth 20000
def ia3 : List Txt := [[], [49], [50]]
def tg3 : List Txt := [[115, 101, 97, 116], [117, 97, 99, 99, 101, 115, 115], [120, 49]]
def gr2 : List Txt := [[114, 111, 111, 116], [100, 105, 115, 107]]
def ln5 : List Txt := [[], [108, 97, 110, 48], [108, 97, 110, 49], [101, 116, 104, 48], [119, 97, 110]]
def sl4 : List Txt := [[], [101, 110, 115, 49], [101, 110, 115, 50], [97, 58, 98]]
def mc3 : List Txt := [[], [101, 110, 120, 97, 97], [108, 97, 110, 48]]
def rootS : Txt := [114, 111, 111, 116]
def ascF (U : List Txt) (t : List Int) (k : Nat) : Nat → List Txt
  | 0 => []
  | n + 1 => putS (ascF U t k n) (oneS U (tapeV t (k + n)))
theorem ascF_ok (U : List Txt) (hU : U ≠ []) (t : List Int) (k : Nat) : ∀ n, ascT (ascF U t k n) ∧ (∀ x ∈ ascF U t k n, x ∈ U)
  | 0 => ⟨.nil, by simp [ascF]⟩
  | n + 1 => by
    obtain ⟨h1, h2⟩ := ascF_ok U hU t k n
    refine ⟨putS_asc h1, fun x hx => ?_⟩
    rcases putS_mem.1 hx with rfl | hx
    · exact oneS_mem _ hU
    · exact h2 x hx
theorem ascF_len (U : List Txt) (hU : U ≠ []) (t : List Int) (k n : Nat) : (ascF U t k n).length ≤ U.length := nodup_sub (asc_nd (ascF_ok U hU t k n).1) (ascF_ok U hU t k n).2
def zR : List AV := [.str [], .int .i64 0, .nils, .nils, .nils, .nils, .nils, .str [], .int .i64 0, .str [], .str [], .int .i64 0]
set_option maxHeartbeats 16000000 in
theorem record_c (t : List Int) (k : Nat) (T : List Dvc) (hk : k < 400000000) (hT : TreeOk Fine T) (hl : T.length ≤ 100) (d : Dvc) (hd : d ∈ T) :
    ∃ r k', RecOk T r ∧ r.idx = d.idx ∧ k' ≤ k + 20 ∧ ACalls Tryz.prog 39 [.ptr 0 0, .agg [.imm (T.map dcRow)], .agg (dcRow d)] [tapeO t k] (.agg (rcRow r)) [tapeO t k'] := by
  have hcl := fun k (T : List Dvc) => dcRows_cl k T
  have hal := fun k (l : List (Txt × Txt)) => aRows_cl k l
  have hF := hT.dv d hd
  have cp := place_c T d.idx (by omega) (fun x hx => by have := (oS_v _ (hT.dv x hx).o).2.2; omega)
  have cb := base_c T hT hl d hd
  have lb := baseF_len T d
  have cn := node_c d hF.o
  rw [dcRow_eq] at cn
  generalize baseF T d = B0 at cb lb
  have o1 := Next_c t k 4 (by omega) (by omega)
  have b1 := fold_bd (tapeV t k) 4 (by omega)
  obtain ⟨pri, hpri⟩ : ∃ pri, pri = fold (tapeV t k) 4 * 5 - 5 := ⟨_, rfl⟩
  have w1 : IntKind.i64.wrap (fold (tapeV t k) 4 * 5) = fold (tapeV t k) 4 * 5 := w64 (by omega) (by omega)
  have w2 : IntKind.i64.wrap (fold (tapeV t k) 4 * 5 - 5) = pri := by rw [hpri]; exact w64 (by omega) (by omega)
  have o2 := One_c t (k + 1) ia3 (by omega) (by decide) (by decide)
  unfold strsV at o2
  have e2 : [[AV.str []], [.str [49]], [.str [50]]] = ia3.map sRow := rfl
  generalize oneS ia3 (tapeV t (k + 1)) = ia at o2
  have s2 := set_c B0 kIA ia (by omega)
  have l2 := setA_len B0 kIA ia
  unfold kIA at s2
  obtain ⟨P0, hP0⟩ : ∃ P0, P0 = setA B0 kIA ia := ⟨_, rfl⟩
  change ACalls Tryz.prog 69 _ _ (.imm ((setA B0 kIA ia).map aRow)) _ at s2
  rw [← hP0] at s2 l2
  have o3 := Next_c t (k + 1 + 1) 3 (by omega) (by omega)
  have b3 := fold_bd (tapeV t (k + 1 + 1)) 3 (by omega)
  obtain ⟨n1, hn1⟩ : ∃ n : Nat, fold (tapeV t (k + 1 + 1)) 3 = n := ⟨_, (Int.toNat_of_nonneg b3.1).symm⟩
  rw [hn1] at o3 b3
  obtain ⟨k3, hk3⟩ : ∃ k3, k3 = k + 3 + n1 := ⟨_, rfl⟩
  obtain ⟨tg, htg⟩ : ∃ tg, tg = ascF tg3 t (k + 3) n1 := ⟨_, rfl⟩
  have b5 := fold_bd (tapeV t (k3 + 2)) 4 (by omega)
  obtain ⟨n2, hn2⟩ : ∃ n : Nat, fold (tapeV t (k3 + 2)) 4 = n := ⟨_, (Int.toNat_of_nonneg b5.1).symm⟩
  rw [hn2] at b5
  obtain ⟨ow, gr, md, ln, k4, hA⟩ : ∃ (ow gr : Txt) (md : Int) (ln : List Txt) (k4 : Nat), ((d.kind = 2 ∨ d.kind = 3) ∧ ow = rootS ∧ gr = oneS gr2 (tapeV t k3) ∧ md = fold (tapeV t (k3 + 1)) 512 ∧ ln = ascF lkS t (k3 + 3) n2 ∧ k4 = k3 + 3 + n2) ∨ (¬ (d.kind = 2 ∨ d.kind = 3) ∧ ow = [] ∧ gr = [] ∧ md = 0 ∧ ln = [] ∧ k4 = k3) := by
    by_cases h : d.kind = 2 ∨ d.kind = 3
    · exact ⟨_, _, _, _, _, .inl ⟨h, rfl, rfl, rfl, rfl, rfl⟩⟩
    · exact ⟨_, _, _, _, _, .inr ⟨h, rfl, rfl, rfl, rfl, rfl⟩⟩
  have hk4 : k4 ≤ k3 + 6 := by rcases hA with ⟨_, _, _, _, _, h⟩ | ⟨_, _, _, _, _, h⟩ <;> omega
  have hln : ascT ln ∧ ∀ s ∈ ln, s ∈ lkS := by
    rcases hA with ⟨_, _, _, _, h, _⟩ | ⟨_, _, _, _, h, _⟩
    · rw [h]; exact ascF_ok lkS (by decide) t _ _
    · rw [h]; exact ⟨.nil, by simp⟩
  obtain ⟨nm, pp, k5, hC⟩ : ∃ (nm : Txt) (pp : List (Txt × Txt)) (k5 : Nat), (d.kind = 4 ∧ nm = oneS ln5 (tapeV t k4) ∧ pp = setA (setA P0 kSL (oneS sl4 (tapeV t (k4 + 1)))) kMC (oneS mc3 (tapeV t (k4 + 2))) ∧ k5 = k4 + 3) ∨ (¬ d.kind = 4 ∧ nm = [] ∧ pp = P0 ∧ k5 = k4) := by
    by_cases h : d.kind = 4
    · exact ⟨_, _, _, .inl ⟨h, rfl, rfl, rfl⟩⟩
    · exact ⟨_, _, _, .inr ⟨h, rfl, rfl, rfl⟩⟩
  have hk5 : k5 ≤ k4 + 3 := by rcases hC with ⟨_, _, _, h⟩ | ⟨_, _, _, h⟩ <;> omega
  refine ⟨⟨placeT T d.idx, d.idx, pp, tg, ln, [], [], nm, pri, ow, gr, md⟩, k5, ⟨⟨d, hd, rfl⟩, rfl, hln.1, hln.2, by show -1000 ≤ pri ∧ pri ≤ 1000; omega⟩, rfl, by omega, ?_⟩
  refine acalls_A c39_ok rfl ?_
  unfold c39
  refine awp_cut ⟨tmps 96 [(0, .ptr 0 0), (4, .ptr 1 0), (5, .ptr 2 0), (6, .ptr 3 0)], [tapeO t k, .box 28 [.imm (T.map dcRow)], .box 55 (dcRow d), .box 65 zR]⟩ (awp_of ?_) ?_
  · simp +decide -dsimp -implicitDefEqProofs [go_sem, dcRow_eq]
    refine cut_of (by simp) ?_
    simp +decide -dsimp -implicitDefEqProofs [go_sem, tapeO, hcl, hal, zR]
  refine awp_cut ⟨tmps 96 [(0, .ptr 0 0), (4, .ptr 1 0), (5, .ptr 2 0), (6, .ptr 3 0), (7, .ptr 4 0)], [tapeO t (k + 1), .box 28 [.imm (T.map dcRow)], .box 55 (dcRow d), .box 65 zR, .box 65 [.str (placeT T d.idx), .int .i64 d.idx, .imm (B0.map aRow), .imm [], .imm [], .imm [], .imm [], .str [], .int .i64 pri, .str [], .str [], .int .i64 0]]⟩ (awp_of ?_) ?_
  · simp +decide -dsimp -implicitDefEqProofs [go_sem, dcRow_eq]
    refine callDE_pure cp (by simp +decide -dsimp -implicitDefEqProofs [go_sem, hcl]) rfl ?_
    simp +decide -dsimp -implicitDefEqProofs [go_sem]
    refine callDE_pure cb (by simp +decide -dsimp -implicitDefEqProofs [go_sem, hcl]) (by simp +decide -dsimp -implicitDefEqProofs [go_sem, hal]) ?_
    simp +decide -dsimp -implicitDefEqProofs [go_sem]
    refine callDE_frame [0] o1 rfl rfl (by simp) (by simp +decide -dsimp -implicitDefEqProofs [go_sem]) (by simp +decide -dsimp -implicitDefEqProofs [go_sem, tapeO_ren]) ?_
    simp +decide -dsimp -implicitDefEqProofs [go_sem, tapeO_ren, w1, w2]
    refine (Wk.nilBI 4 3 rfl rfl).trans ((Wk.nilBI 4 4 rfl rfl).trans ((Wk.nilBI 4 5 rfl rfl).trans ((Wk.nilBI 4 6 rfl rfl).trans (cut_of (by simp) ?_))))
    simp +decide -dsimp -implicitDefEqProofs [go_sem, tapeO, hcl, hal, dcRow_eq, zR]
  refine awp_cut ⟨tmps 96 [(0, .ptr 0 0), (4, .ptr 1 0), (5, .ptr 2 0), (6, .ptr 3 0), (7, .ptr 4 0)], [tapeO t (k + 1 + 1), .box 28 [.imm (T.map dcRow)], .box 55 (dcRow d), .box 65 zR, .box 65 [.str (placeT T d.idx), .int .i64 d.idx, .imm (P0.map aRow), .imm [], .imm [], .imm [], .imm [], .str [], .int .i64 pri, .str [], .str [], .int .i64 0]]⟩ (awp_of ?_) ?_
  · simp +decide -dsimp -implicitDefEqProofs [go_sem]
    rw [e2]
    refine callDE_frame [0] o2 rfl rfl (by simp) (by simp +decide -dsimp -implicitDefEqProofs [go_sem]) (by simp +decide -dsimp -implicitDefEqProofs [go_sem, tapeO_ren]) ?_
    simp +decide -dsimp -implicitDefEqProofs [go_sem, tapeO_ren]
    refine callDE_pure s2 (by simp +decide -dsimp -implicitDefEqProofs [go_sem, hal]) (by simp +decide -dsimp -implicitDefEqProofs [go_sem, hal]) ?_
    simp +decide -dsimp -implicitDefEqProofs [go_sem]
    refine cut_of (by simp) ?_
    simp +decide -dsimp -implicitDefEqProofs [go_sem, tapeO, hcl, hal, dcRow_eq, zR]
  refine awp_cut ⟨tmps 96 [(0, .ptr 0 0), (4, .ptr 1 0), (5, .ptr 2 0), (6, .ptr 3 0), (7, .ptr 4 0)], [tapeO t k3, .box 28 [.imm (T.map dcRow)], .box 55 (dcRow d), .box 65 zR, .box 65 [.str (placeT T d.idx), .int .i64 d.idx, .imm (P0.map aRow), .imm (tg.map sRow), .imm [], .imm [], .imm [], .str [], .int .i64 pri, .str [], .str [], .int .i64 0]]⟩ (awp_of ?_) ?_
  · simp +decide -dsimp -implicitDefEqProofs [go_sem]
    refine callE_frame [0] o3 rfl rfl (by simp) (by simp +decide -dsimp -implicitDefEqProofs [go_sem]) (by simp +decide -dsimp -implicitDefEqProofs [go_sem, tapeO_ren]) ?_
    simp +decide -dsimp -implicitDefEqProofs [go_sem, tapeO_ren]
    refine loop_of (S := Nat) (fun i => ⟨tmps 96 [(0, .ptr 0 0), (4, .ptr 1 0), (5, .ptr 2 0), (6, .ptr 3 0), (7, .ptr 4 0), (8, .int .i64 ((n1 - i : Nat) : Int))], [tapeO t (k + 3 + i), .box 28 [.imm (T.map dcRow)], .box 55 (dcRow d), .box 65 zR, .box 65 [.str (placeT T d.idx), .int .i64 d.idx, .imm (P0.map aRow), .imm ((ascF tg3 t (k + 3) i).map sRow), .imm [], .imm [], .imm [], .str [], .int .i64 pri, .str [], .str [], .int .i64 0]]⟩) (fun i => n1 - i) (fun i => i ≤ n1) 0 (by simp) (cut_of (by simp) ?_) ?_
    · simp +decide -dsimp -implicitDefEqProofs [go_sem, tapeO, hcl, hal, dcRow_eq, zR, ascF]
      try omega
    intro i hi
    by_cases h : i < n1
    · have h' : 0 < n1 - i := by omega
      have wi : IntKind.i64.wrap (((n1 - i : Nat) : Int) - 1) = ((n1 - (i + 1) : Nat) : Int) := by rw [w64 (by omega) (by omega)]; omega
      have oA := One_c t (k + 3 + i) tg3 (by omega) (by decide) (by decide)
      have hsn : ascF tg3 t (k + 3) (i + 1) = putS (ascF tg3 t (k + 3) i) (oneS tg3 (tapeV t (k + 3 + i))) := rfl
      have hal3 := ascF_len tg3 (by decide) t (k + 3) i
      have l3 : tg3.length = 3 := rfl
      unfold strsV at oA
      have eA : [[AV.str [115, 101, 97, 116]], [.str [117, 97, 99, 99, 101, 115, 115]], [.str [120, 49]]] = tg3.map sRow := rfl
      generalize oneS tg3 (tapeV t (k + 3 + i)) = x at oA hsn
      generalize ascF tg3 t (k + 3) i = X at hsn hal3
      have c16 := put16_c X x (by omega)
      simp +decide -dsimp -implicitDefEqProofs [go_sem, h']
      rw [eA]
      refine callDE_frame [0] oA rfl rfl (by simp) (by simp +decide -dsimp -implicitDefEqProofs [go_sem]) (by simp +decide -dsimp -implicitDefEqProofs [go_sem, tapeO_ren]) ?_
      simp +decide -dsimp -implicitDefEqProofs [go_sem, tapeO_ren]
      refine callDE_pure c16 (by simp +decide -dsimp -implicitDefEqProofs [go_sem]) (by simp +decide -dsimp -implicitDefEqProofs [go_sem]) ?_
      simp +decide -dsimp -implicitDefEqProofs [go_sem, wi]
      refine next_of (i + 1) (by show i + 1 ≤ n1; omega) (by show n1 - (i + 1) < n1 - i; omega) (cut_of (by simp) ?_)
      rw [hsn]
      simp +decide -dsimp -implicitDefEqProofs [go_sem, tapeO, hcl, hal, dcRow_eq, zR]
      try omega
    · have e : i = n1 := by omega
      subst e
      rw [← htg, ← hk3]
      simp +decide -dsimp -implicitDefEqProofs [go_sem]
      refine cut_of (by simp) ?_
      simp +decide -dsimp -implicitDefEqProofs [go_sem, tapeO, hcl, hal, dcRow_eq, zR]
  clear o1 o2 o3 s2 cp cb
  refine awp_cut ⟨tmps 96 [(0, .ptr 0 0), (4, .ptr 1 0), (5, .ptr 2 0), (6, .ptr 3 0), (7, .ptr 4 0)], [tapeO t k4, .box 28 [.imm (T.map dcRow)], .box 55 (dcRow d), .box 65 zR, .box 65 [.str (placeT T d.idx), .int .i64 d.idx, .imm (P0.map aRow), .imm (tg.map sRow), .imm (ln.map sRow), .imm [], .imm [], .str [], .int .i64 pri, .str ow, .str gr, .int .i64 md]]⟩ (awp_of ?_) ?_
  · rcases hA with ⟨hk2, rfl, hgr, hmd, hlnn, hk4e⟩ | ⟨hk2, rfl, rfl, rfl, rfl, rfl⟩
    · have hnd : nodeD d = some (d.orig.map slashB) := if_pos hk2
      rw [hnd] at cn
      have oG := One_c t k3 gr2 (by omega) (by decide) (by decide)
      have oM := Next_c t (k3 + 1) 512 (by omega) (by omega)
      have oL := Next_c t (k3 + 1 + 1) 4 (by omega) (by omega)
      rw [show fold (tapeV t (k3 + 1 + 1)) 4 = n2 from hn2] at oL
      unfold strsV at oG
      have eG : [[AV.str [114, 111, 111, 116]], [.str [100, 105, 115, 107]]] = gr2.map sRow := rfl
      rw [← hgr] at oG
      rw [← hmd] at oM
      simp +decide -dsimp -implicitDefEqProofs [go_sem, dcRow_eq]
      generalize htv : ndV (some (d.orig.map slashB)) = tv at cn
      refine callE_pure cn (by simp +decide -dsimp -implicitDefEqProofs [go_sem, hal]) (by rw [← htv]; rfl) ?_
      subst htv
      unfold ndV
      simp +decide -dsimp -implicitDefEqProofs [go_sem]
      rw [eG]
      refine callE_frame [0] oG rfl rfl (by simp) (by simp +decide -dsimp -implicitDefEqProofs [go_sem]) (by simp +decide -dsimp -implicitDefEqProofs [go_sem, tapeO_ren]) ?_
      simp +decide -dsimp -implicitDefEqProofs [go_sem, tapeO_ren]
      refine callE_frame [0] oM rfl rfl (by simp) (by simp +decide -dsimp -implicitDefEqProofs [go_sem]) (by simp +decide -dsimp -implicitDefEqProofs [go_sem, tapeO_ren]) ?_
      simp +decide -dsimp -implicitDefEqProofs [go_sem, tapeO_ren]
      refine callE_frame [0] oL rfl rfl (by simp) (by simp +decide -dsimp -implicitDefEqProofs [go_sem]) (by simp +decide -dsimp -implicitDefEqProofs [go_sem, tapeO_ren]) ?_
      simp +decide -dsimp -implicitDefEqProofs [go_sem, tapeO_ren]
      refine loop_of (S := Nat) (fun i => ⟨tmps 96 [(0, .ptr 0 0), (4, .ptr 1 0), (5, .ptr 2 0), (6, .ptr 3 0), (7, .ptr 4 0), (11, .int .i64 ((n2 - i : Nat) : Int))], [tapeO t (k3 + 3 + i), .box 28 [.imm (T.map dcRow)], .box 55 (dcRow d), .box 65 zR, .box 65 [.str (placeT T d.idx), .int .i64 d.idx, .imm (P0.map aRow), .imm (tg.map sRow), .imm ((ascF lkS t (k3 + 3) i).map sRow), .imm [], .imm [], .str [], .int .i64 pri, .str rootS, .str gr, .int .i64 md]]⟩) (fun i => n2 - i) (fun i => i ≤ n2) 0 (by simp) (cut_of (by simp) ?_) ?_
      · simp +decide -dsimp -implicitDefEqProofs [go_sem, tapeO, hcl, hal, dcRow_eq, zR, ascF, rootS]
        try omega
      intro i hi
      by_cases h : i < n2
      · have h' : 0 < n2 - i := by omega
        have wi : IntKind.i64.wrap (((n2 - i : Nat) : Int) - 1) = ((n2 - (i + 1) : Nat) : Int) := by rw [w64 (by omega) (by omega)]; omega
        have oA := One_c t (k3 + 3 + i) lkS (by omega) (by decide) (by decide)
        have hsn : ascF lkS t (k3 + 3) (i + 1) = putS (ascF lkS t (k3 + 3) i) (oneS lkS (tapeV t (k3 + 3 + i))) := rfl
        have hal3 := ascF_len lkS (by decide) t (k3 + 3) i
        have l3 : lkS.length = 7 := rfl
        unfold strsV at oA
        have eA : [[AV.str [100, 105, 115, 107, 47, 97]], [.str [100, 105, 115, 107, 47, 98]], [.str [100, 105, 115, 107]], [.str [99, 100]], [.str [115, 100, 97]], [.str [116, 116, 121, 48, 47, 120]], [.str [99]]] = lkS.map sRow := rfl
        generalize oneS lkS (tapeV t (k3 + 3 + i)) = x at oA hsn
        generalize ascF lkS t (k3 + 3) i = X at hsn hal3
        have c16 := put16_c X x (by omega)
        simp +decide -dsimp -implicitDefEqProofs [go_sem, h']
        rw [eA]
        refine callDE_frame [0] oA rfl rfl (by simp) (by simp +decide -dsimp -implicitDefEqProofs [go_sem]) (by simp +decide -dsimp -implicitDefEqProofs [go_sem, tapeO_ren]) ?_
        simp +decide -dsimp -implicitDefEqProofs [go_sem, tapeO_ren]
        refine callDE_pure c16 (by simp +decide -dsimp -implicitDefEqProofs [go_sem]) (by simp +decide -dsimp -implicitDefEqProofs [go_sem]) ?_
        simp +decide -dsimp -implicitDefEqProofs [go_sem, wi]
        refine next_of (i + 1) (by show i + 1 ≤ n2; omega) (by show n2 - (i + 1) < n2 - i; omega) (cut_of (by simp) ?_)
        rw [hsn]
        simp +decide -dsimp -implicitDefEqProofs [go_sem, tapeO, hcl, hal, dcRow_eq, zR]
        try omega
      · have e : i = n2 := by omega
        subst e
        rw [← hlnn, ← hk4e]
        simp +decide -dsimp -implicitDefEqProofs [go_sem]
        refine cut_of (by simp) ?_
        simp +decide -dsimp -implicitDefEqProofs [go_sem, tapeO, hcl, hal, dcRow_eq, zR]
    · have hnd : nodeD d = none := if_neg hk2
      rw [hnd] at cn
      simp +decide -dsimp -implicitDefEqProofs [go_sem, dcRow_eq]
      generalize htv : ndV none = tv at cn
      refine callE_pure cn (by simp +decide -dsimp -implicitDefEqProofs [go_sem, hal]) (by rw [← htv]; rfl) ?_
      subst htv
      unfold ndV
      simp +decide -dsimp -implicitDefEqProofs [go_sem]
      refine cut_of (by simp) ?_
      simp +decide -dsimp -implicitDefEqProofs [go_sem, tapeO, hcl, hal, dcRow_eq, zR]
  clear hA cn hn2 htg
  refine awp_cut ⟨tmps 96 [(0, .ptr 0 0), (4, .ptr 1 0), (5, .ptr 2 0), (6, .ptr 3 0), (7, .ptr 4 0)], [tapeO t k5, .box 28 [.imm (T.map dcRow)], .box 55 (dcRow d), .box 65 zR, .box 65 [.str (placeT T d.idx), .int .i64 d.idx, .imm (pp.map aRow), .imm (tg.map sRow), .imm (ln.map sRow), .imm [], .imm [], .str nm, .int .i64 pri, .str ow, .str gr, .int .i64 md]]⟩ (awp_of ?_) ?_
  · rcases hC with ⟨hk2, hnm, hpp, hk5e⟩ | ⟨hk2, rfl, rfl, rfl⟩
    · have q1 : (d.kind = 4) = True := eq_true hk2
      have oN := One_c t k4 ln5 (by omega) (by decide) (by decide)
      have oS := One_c t (k4 + 1) sl4 (by omega) (by decide) (by decide)
      have oM := One_c t (k4 + 1 + 1) mc3 (by omega) (by decide) (by decide)
      unfold strsV at oN oS oM
      have eN : [[AV.str []], [.str [108, 97, 110, 48]], [.str [108, 97, 110, 49]], [.str [101, 116, 104, 48]], [.str [119, 97, 110]]] = ln5.map sRow := rfl
      have eS : [[AV.str []], [.str [101, 110, 115, 49]], [.str [101, 110, 115, 50]], [.str [97, 58, 98]]] = sl4.map sRow := rfl
      have eM : [[AV.str []], [.str [101, 110, 120, 97, 97]], [.str [108, 97, 110, 48]]] = mc3.map sRow := rfl
      rw [← hnm] at oN
      rw [show k4 + 2 = k4 + 1 + 1 from rfl] at hpp
      generalize oneS sl4 (tapeV t (k4 + 1)) = x1 at oS hpp
      generalize oneS mc3 (tapeV t (k4 + 1 + 1)) = x2 at oM hpp
      have sS := set_c P0 kSL x1 (by omega)
      have lS := setA_len P0 kSL x1
      have sM := set_c (setA P0 kSL x1) kMC x2 (by omega)
      rw [← hpp] at sM
      generalize setA P0 kSL x1 = P1 at sS sM
      unfold kSL at sS
      unfold kMC at sM
      subst hk5e
      simp +decide -dsimp -implicitDefEqProofs [go_sem, dcRow_eq, q1]
      rw [eN]
      refine callE_frame [0] oN rfl rfl (by simp) (by simp +decide -dsimp -implicitDefEqProofs [go_sem]) (by simp +decide -dsimp -implicitDefEqProofs [go_sem, tapeO_ren]) ?_
      simp +decide -dsimp -implicitDefEqProofs [go_sem, tapeO_ren]
      rw [eS]
      refine callDE_frame [0] oS rfl rfl (by simp) (by simp +decide -dsimp -implicitDefEqProofs [go_sem]) (by simp +decide -dsimp -implicitDefEqProofs [go_sem, tapeO_ren]) ?_
      simp +decide -dsimp -implicitDefEqProofs [go_sem, tapeO_ren]
      refine callDE_pure sS (by simp +decide -dsimp -implicitDefEqProofs [go_sem, hal]) (by simp +decide -dsimp -implicitDefEqProofs [go_sem, hal]) ?_
      simp +decide -dsimp -implicitDefEqProofs [go_sem]
      rw [eM]
      refine callDE_frame [0] oM rfl rfl (by simp) (by simp +decide -dsimp -implicitDefEqProofs [go_sem]) (by simp +decide -dsimp -implicitDefEqProofs [go_sem, tapeO_ren]) ?_
      simp +decide -dsimp -implicitDefEqProofs [go_sem, tapeO_ren]
      refine callDE_pure sM (by simp +decide -dsimp -implicitDefEqProofs [go_sem, hal]) (by simp +decide -dsimp -implicitDefEqProofs [go_sem, hal]) ?_
      simp +decide -dsimp -implicitDefEqProofs [go_sem]
      refine cut_of (by simp) ?_
      simp +decide -dsimp -implicitDefEqProofs [go_sem, tapeO, hcl, hal, dcRow_eq, zR]
      try omega
    · simp +decide -dsimp -implicitDefEqProofs [go_sem, dcRow_eq, hk2]
      refine cut_of (by simp) ?_
      simp +decide -dsimp -implicitDefEqProofs [go_sem, tapeO, hcl, hal, zR]
  refine awp_of ?_
  simp +decide -dsimp -implicitDefEqProofs [go_sem, hal, tapeO, rcRow, dcRow_eq, zR]
end Go.Ab
namespace Go.Ab
open Go Go.Proofs Go.Sort
set_option maxRecDepth 20000
theorem rcRow_cl (k : Nat) (r : Rcd) : closedL k (rcRow r) = true := by simp [rcRow, closedL, closed, aRows_cl, closedLL_sRows]
theorem rcRow_ren (is : List Nat) (r : Rcd) : renL is (rcRow r) = rcRow r := by simp [rcRow, renL, ren, renLL_aRows, renLL_sRows]
theorem rcRows_cl (k : Nat) (l : List Rcd) : closedLL k (l.map rcRow) = true := closedLL_map fun x _ => rcRow_cl k x
theorem renLL_rcRows (is : List Nat) (l : List Rcd) : renLL is (l.map rcRow) = l.map rcRow := by
  induction l with
  | nil => rfl
  | cons x r ih => simp [renLL, ih, rcRow_ren]
theorem rcRow_eq (r : Rcd) : rcRow r = [.str r.path, .int .i64 r.idx, .imm (r.props.map aRow), .imm (r.tags.map sRow), .imm (r.links.map sRow), .imm (r.run.map sRow), .imm (r.load.map sRow), .str r.name, .int .i64 r.prio, .str r.owner, .str r.group, .int .i64 r.mode] := rfl
theorem pw_put {α : Type} {R : α → α → Prop} {l : List α} {x : α} {j : Nat} (h : l.Pairwise R) (h1 : ∀ y ∈ l, R y x) (h2 : ∀ y ∈ l, R x y) : (l.take j ++ x :: l.drop j).Pairwise R := by
  rw [← List.take_append_drop j l, List.pairwise_append] at h
  rw [List.pairwise_append, List.pairwise_cons]
  refine ⟨h.1, ⟨fun y hy => h2 y (List.mem_of_mem_drop hy), h.2.1⟩, fun a ha b hb => ?_⟩
  rcases List.mem_cons.1 hb with rfl | hb
  · exact h1 a (List.mem_of_mem_take ha)
  · exact h.2.2 a ha b hb
theorem mem_put {α : Type} {l : List α} {x y : α} {j : Nat} (h : y ∈ l.take j ++ x :: l.drop j) : y = x ∨ y ∈ l := by
  rcases List.mem_append.1 h with h | h
  · exact .inr (List.mem_of_mem_take h)
  · rcases List.mem_cons.1 h with h | h
    · exact .inl h
    · exact .inr (List.mem_of_mem_drop h)
structure RSt where
  i : Nat
  k : Nat
  rs : List Rcd
structure RSt.ok (T : List Dvc) (k0 : Nat) (s : RSt) : Prop where
  hi : s.i ≤ T.length
  hk : s.k ≤ k0 + 22 * s.i
  l : s.rs.length ≤ s.i
  r : RecsOk T s.rs
  d : ∀ r ∈ s.rs, ∃ d ∈ T.take s.i, d.idx = r.idx
def recsR (t : List Int) (k : Nat) (T : List Dvc) (v : AV) (G : List AObj) : Prop := ∃ rs k', v = .imm (rs.map rcRow) ∧ G = [tapeO t k'] ∧ RecsOk T rs ∧ rs.length ≤ T.length ∧ k' ≤ k + 22 * T.length
set_option maxHeartbeats 8000000 in
theorem records_c (t : List Int) (k : Nat) (T : List Dvc) (hk : k < 100000000) (hT : TreeOk Fine T) (hl : T.length ≤ 100) :
    ACallsR Tryz.prog 11 [.ptr 0 0, .agg [.imm (T.map dcRow)]] [tapeO t k] (recsR t k T) := by
  have hcl := fun k (T : List Dvc) => dcRows_cl k T
  have hrl := fun k (l : List Rcd) => rcRows_cl k l
  have hrr := renLL_rcRows
  refine acalls_E (recsR t k T) 0 c11_ok ?_
  unfold c11
  simp +decide -dsimp -implicitDefEqProofs [go_sem]
  refine loop_of (S := RSt) (fun s => ⟨tmps 44 [(0, .ptr 0 0), (3, .ptr 1 0), (5, .imm (s.rs.map rcRow)), (6, .int .i64 s.i)], [tapeO t s.k, .box 28 [.imm (T.map dcRow)]]⟩) (fun s => T.length - s.i) (RSt.ok T k) ⟨0, k, []⟩ ⟨by simp, by simp, by simp, ⟨by simp, by simp⟩, by simp⟩ ((Wk.nilI 5 rfl).trans (cut_of (by simp) ?_)) ?_
  · simp +decide -dsimp -implicitDefEqProofs [go_sem, tapeO, hcl]
  rintro ⟨i, k2, rs⟩ ⟨hi, hk2, hll, hR, hd⟩
  simp only at hi hk2 hll hR hd
  by_cases h : i < T.length
  · have wi : IntKind.i64.wrap ((i : Int) + 1) = i + 1 := w64 (by omega) (by omega)
    have o1 := Next_c t k2 6 (by omega) (by omega)
    have htk : ∀ r ∈ rs, ∃ d ∈ T.take (i + 1), d.idx = r.idx := fun r hr => by
      obtain ⟨d, h1, h2⟩ := hd r hr
      exact ⟨d, by rw [List.take_succ_eq_append_getElem h]; exact List.mem_append_left _ h1, h2⟩
    generalize fold (tapeV t k2) 6 = f6 at o1
    simp +decide -dsimp -implicitDefEqProofs [go_sem, h]
    refine callE_frame [0] o1 rfl rfl (by simp) (by simp +decide -dsimp -implicitDefEqProofs [go_sem]) (by simp +decide -dsimp -implicitDefEqProofs [go_sem, tapeO_ren]) ?_
    by_cases h6 : f6 = 0
    · simp +decide -dsimp -implicitDefEqProofs [go_sem, tapeO_ren, h6, wi]
      refine next_of ⟨i + 1, k2 + 1, rs⟩ ⟨by show i + 1 ≤ T.length; omega, by show k2 + 1 ≤ k + 22 * (i + 1); omega, by show rs.length ≤ i + 1; omega, hR, htk⟩ (by show T.length - (i + 1) < T.length - i; omega) (cut_of (by simp) ?_)
      simp +decide -dsimp -implicitDefEqProofs [go_sem, tapeO, hcl, hrl]
    · have hdT : T[i] ∈ T := List.getElem_mem h
      obtain ⟨r, k3, hro, hri, hk3, cr⟩ := record_c t (k2 + 1) T (by omega) hT hl T[i] hdT
      have hrc := fun k => rcRow_cl k r
      have hrn := fun is => rcRow_ren is r
      have hda := fun k => aRows_cl k T[i].attrs
      rw [dcRow_eq, rcRow_eq] at cr
      have b2 := fold_bd (tapeV t k3) (rs.length + 1) (by omega)
      have o2 := Next_c t k3 (rs.length + 1) (by omega) (by omega)
      obtain ⟨j, hj⟩ : ∃ j : Nat, fold (tapeV t k3) (rs.length + 1) = j := ⟨_, (Int.toNat_of_nonneg b2.1).symm⟩
      rw [hj] at o2 b2
      have wl : IntKind.i64.wrap ((rs.length : Int) + 1) = rs.length + 1 := w64 (by omega) (by omega)
      have hjl : j ≤ rs.length := by omega
      simp +decide -dsimp -implicitDefEqProofs [go_sem, tapeO_ren, h6, h, dcRow_eq]
      refine callDE_frame [0] cr rfl rfl (by simp) (by simp +decide -dsimp -implicitDefEqProofs [go_sem, renLL_dcRows, renLL_aRows]) (by simp +decide -dsimp -implicitDefEqProofs [go_sem, tapeO_ren]) ?_
      simp +decide -dsimp -implicitDefEqProofs [go_sem, tapeO_ren, renLL_aRows, wl]
      refine callE_frame [0] o2 rfl rfl (by simp) (by simp +decide -dsimp -implicitDefEqProofs [go_sem]) (by simp +decide -dsimp -implicitDefEqProofs [go_sem, tapeO_ren]) ?_
      have hrow : ∀ r ∈ rs.map rcRow, r.length = 12 := fun r hr => by
        obtain ⟨x, _, rfl⟩ := List.mem_map.1 hr; rfl
      have htR : List.take rs.length (rs.map rcRow) = rs.map rcRow := List.take_of_length_le (by simp)
      simp +decide -dsimp -implicitDefEqProofs [go_sem, tapeO_ren, maxLen, wi]
      refine ⟨hjl, fun _ _ => rfl, fun r hr => hrow r (List.mem_of_mem_take hr), ⟨by omega, by omega⟩, ⟨by omega, by omega⟩, hjl, fun _ _ => rfl, fun r hr => hrow r (List.mem_of_mem_take (List.mem_of_mem_drop hr)), ⟨by omega, by omega⟩, ?_⟩
      rw [htR, ← rcRow_eq]
      have hre : List.take j (rs.map rcRow) ++ rcRow r :: List.drop j (rs.map rcRow) = (rs.take j ++ r :: rs.drop j).map rcRow := by simp [List.map_take, List.map_drop]
      have hle : min j rs.length + 1 + (rs.length - j) = ((rs.take j ++ r :: rs.drop j).map rcRow).length := by simp; omega
      rw [hre, hle]
      have hne : ∀ q ∈ rs, q.idx ≠ r.idx := fun q hq e => by
        obtain ⟨d, h1, h2⟩ := hd q hq
        obtain ⟨x, hx, rfl⟩ := List.mem_iff_getElem.1 h1
        rw [List.length_take] at hx
        rw [List.getElem_take] at h2
        have := List.pairwise_iff_getElem.1 hT.nd x i (by omega) h (by omega)
        exact this (by rw [h2, e, hri])
      refine next_of ⟨i + 1, k3 + 1, rs.take j ++ r :: rs.drop j⟩ ⟨by show i + 1 ≤ T.length; omega, by show k3 + 1 ≤ k + 22 * (i + 1); omega, by show (rs.take j ++ r :: rs.drop j).length ≤ i + 1; simp; omega, ⟨pw_put hR.nd hne fun q hq e => hne q hq e.symm, fun q hq => ?_⟩, fun q hq => ?_⟩ (by show T.length - (i + 1) < T.length - i; omega) ((Wk.frz 5 3 rfl rfl).trans (cut_of (by simp) ?_))
      · rcases mem_put hq with rfl | hq
        · exact hro
        · exact hR.r q hq
      · rcases mem_put hq with rfl | hq
        · exact ⟨T[i], by show T[i] ∈ T.take (i + 1); rw [List.take_succ_eq_append_getElem h]; exact List.mem_append_right _ (List.mem_singleton.2 rfl), hri.symm⟩
        · exact htk q hq
      have hc1 := fun k => rcRows_cl k (rs.take j)
      have hc2 := fun k => rcRows_cl k (rs.drop j)
      simp only [List.map_take, List.map_drop] at hc1 hc2
      simp +decide -dsimp -implicitDefEqProofs [go_sem, tapeO, hcl, hc1, hc2, hrc]
  · have e : i = T.length := by omega
    subst e
    simp +decide -dsimp -implicitDefEqProofs [go_sem]
    refine end_of (.imm (rs.map rcRow)) [tapeO t k2] ⟨rs, k2, rfl, rfl, hR, by omega, by omega⟩ rfl ?_
    simp +decide -dsimp -implicitDefEqProofs [go_sem, tapeO, hrl]
end Go.Ab
