/- Made arguments: some of some texts, paths. -/
import Derived.Test.YtpknaffdaemlbaaGreatDoorW1
import Derived.Test.YtpknaffdaemlbaaGreatDoorW2
import Derived.Test.YtpknaffdaemlbaaGreatDoorA5
namespace Go.Ab
open Go Go.Proofs
def someS (t : List Int) : Nat → List (List UInt8) → List (List UInt8)
  | _, [] => []
  | k, x :: r => if fold (tapeV t k) 3 = 0 then x :: someS t (k + 1) r else someS t (k + 1) r
def subsL : List (List UInt8) → List (List (List UInt8))
  | [] => [[]]
  | x :: r => (subsL r).map (x :: ·) ++ subsL r
theorem someS_mem (t : List Int) : ∀ (ss : List (List UInt8)) (k : Nat), someS t k ss ∈ subsL ss
  | [], _ => by simp [someS, subsL]
  | x :: r, k => by
    unfold someS subsL
    have := someS_mem t r (k + 1)
    split
    · exact List.mem_append_left _ (List.mem_map.2 ⟨_, this, rfl⟩)
    · exact List.mem_append_right _ this
set_option maxRecDepth 20000 in
theorem some_c (t : List Int) (k : Nat) (ss : List (List UInt8)) (hk : k + ss.length < 1000000000) : ACalls Tryz.prog 47 [.ptr 0 0, strsV ss] [tapeO t k] (.imm ((someS t k ss).map sRow)) [tapeO t (k + ss.length)] := by
  refine acalls_F c47_ok rfl ?_
  unfold c47 strsV
  simp +decide -dsimp -implicitDefEqProofs [go_sem]
  refine loop_of (S := Nat × List (List UInt8)) (fun s => ⟨tmps 23 [(0, .ptr 0 0), (5, .own 1 s.2.length), (8, .imm (ss.map sRow)), (9, .int .i64 ss.length), (10, .int .i64 s.1)], [tapeO t (k + s.1), .reg 9 1 (s.2.map sRow)]⟩) (fun s => ss.length - s.1)
    (fun s => s.1 ≤ ss.length ∧ someS t k ss = s.2 ++ someS t (k + s.1) (ss.drop s.1) ∧ s.2.length ≤ s.1) (0, []) ⟨by simp, by simp, by simp⟩ ((Wk.nilT 5 9 1 rfl (by simp)).trans (cut_of (by simp) ?_)) ?_
  · simp +decide -dsimp -implicitDefEqProofs [go_sem, tapeO]
  rintro ⟨i, acc⟩ ⟨hi, ha, hl⟩
  simp only at hi ha hl
  by_cases h : i < ss.length
  · have w : IntKind.i64.wrap ((i : Int) + 1) = i + 1 := w64 (by omega) (by omega)
    have hd : ss.drop i = ss[i] :: ss.drop (i + 1) := by rw [List.drop_eq_getElem_cons h]
    simp +decide -dsimp -implicitDefEqProofs [go_sem, h]
    refine callE_frame [0] (Next_c t (k + i) 3 (by omega) (by omega)) rfl rfl (by simp) (by simp +decide -dsimp -implicitDefEqProofs [go_sem]) (by simp +decide -dsimp -implicitDefEqProofs [go_sem, tapeO_ren]) ?_
    have ek : k + i + 1 = k + (i + 1) := by omega
    by_cases h0 : fold (tapeV t (k + i)) 3 = 0
    · simp +decide -dsimp -implicitDefEqProofs [go_sem, h0, tapeO_ren, maxLen, w]
      refine ⟨⟨by omega, by omega⟩, ?_⟩
      have e3 : acc.map sRow ++ [[AV.str ss[i]]] = (acc ++ [ss[i]]).map sRow := by simp [sRow]
      rw [e3, ek]
      refine next_of (i + 1, acc ++ [ss[i]]) ⟨by show i + 1 ≤ _; omega, ?_, by simp; omega⟩ (by show _ - (i + 1) < _ - i; omega) (cut_of (by simp) ?_)
      · rw [ha, hd, someS, if_pos h0, ek]; simp
      simp +decide -dsimp -implicitDefEqProofs [go_sem, tapeO, sRow, closedL, closed]
    · simp +decide -dsimp -implicitDefEqProofs [go_sem, h0, tapeO_ren, w]
      rw [ek]
      refine next_of (i + 1, acc) ⟨by show i + 1 ≤ _; omega, ?_, by show acc.length ≤ i + 1; omega⟩ (by show _ - (i + 1) < _ - i; omega) (cut_of (by simp) ?_)
      · rw [ha, hd, someS, if_neg h0, ek]
      simp +decide -dsimp -implicitDefEqProofs [go_sem, tapeO]
  · have e : i = ss.length := by omega
    subst e
    have e2 : someS t k ss = acc := by rw [ha, List.drop_length]; simp [someS]
    rw [e2]
    simp +decide -dsimp -implicitDefEqProofs [go_sem, tapeO]

/-! ### Paths -/
def compS : List (List UInt8) := [[97], [98], [115, 100], [112, 49], [97, 95, 98], [120, 33, 121], [65, 45, 49]]
def joinP : List (List UInt8) → List UInt8
  | [] => []
  | x :: r => 47 :: (x ++ joinP r)
theorem comp_all : ∀ x ∈ compS, validB x = true ∧ 47 ∉ x ∧ x.length ≤ 3 := by decide +kernel
theorem splitC_join : ∀ (l : List (List UInt8)), (∀ x ∈ l, 47 ∉ x) → l ≠ [] → ∀ s, joinP l = 47 :: s → splitC 47 s = l
  | [], _, h, _, _ => absurd rfl h
  | [x], hl, _, s, hs => by
    simp [joinP] at hs
    rw [← hs]
    exact splitC_none (hl x (by simp))
  | x :: y :: r, hl, _, s, hs => by
    simp only [joinP, List.cons.injEq, true_and] at hs
    have ih := splitC_join (y :: r) (fun z hz => hl z (by simp [hz])) (by simp) _ rfl
    rw [← hs, splitC_app (hl x (by simp))]
    rw [ih]
theorem join_place {l : List (List UInt8)} (hl : ∀ x ∈ l, x ∈ compS) (h0 : l ≠ []) (h7 : l.length ≤ 7) : placeB (joinP l) = true := by
  obtain ⟨x, r, rfl⟩ := List.exists_cons_of_ne_nil h0
  have hs : joinP (x :: r) = 47 :: (x ++ joinP r) := rfl
  have h1 := splitC_join (x :: r) (fun y hy => (comp_all y (hl y hy)).2.1) (by simp) _ hs
  unfold placeB pathL
  rw [hs]
  have e : splitL (x ++ joinP r) 47 = x :: r := by rw [splitL_eq, h1]
  have e2 : ((x :: r).all validB) = true := List.all_eq_true.2 fun y hy => (comp_all y (hl y hy)).1
  simp only [e, e2, and_self, if_true]
  simpa using h7
theorem joinP_snoc (l : List (List UInt8)) (x : List UInt8) : joinP (l ++ [x]) = joinP l ++ 47 :: x := by
  induction l with
  | nil => simp [joinP]
  | cons y l ih => simp [joinP, ih]
theorem joinP_len {l : List (List UInt8)} (hl : ∀ x ∈ l, x ∈ compS) : (joinP l).length ≤ 4 * l.length := by
  induction l with
  | nil => simp [joinP]
  | cons y l ih =>
    have := ih fun x hx => hl x (by simp [hx])
    have h2 := (comp_all y (hl y (by simp))).2.2
    simp only [joinP, List.length_cons, List.length_append]; omega

def pathR (t : List Int) (k : Nat) (av : AV) (H : List AObj) : Prop := ∃ p k', av = .str p ∧ H = [tapeO t k'] ∧ placeB p = true ∧ k' ≤ k + 10
set_option maxRecDepth 20000 in
theorem mPath_c (t : List Int) (k : Nat) (hk : k < 900000000) : ACallsR Tryz.prog 15 [.ptr 0 0] [tapeO t k] (pathR t k) := by
  refine acalls_E (pathR t k) 0 c15_ok ?_
  unfold c15
  have hb := fold_bd (tapeV t k) 3 (by omega)
  obtain ⟨n, hn⟩ : ∃ n : Nat, fold (tapeV t k) 3 = n := ⟨_, (Int.toNat_of_nonneg hb.1).symm⟩
  have w0 : IntKind.i64.wrap (1 + (n : Int)) = ((n + 1 : Nat) : Int) := by rw [w64 (by omega) (by omega)]; omega
  simp +decide -dsimp -implicitDefEqProofs [go_sem]
  refine callE_frame [0] (Next_c t k 3 (by omega) (by omega)) rfl rfl (by simp) (by simp +decide -dsimp -implicitDefEqProofs [go_sem]) (by simp +decide -dsimp -implicitDefEqProofs [go_sem, tapeO_ren]) ?_
  rw [hn]
  simp +decide -dsimp -implicitDefEqProofs [go_sem, tapeO_ren, w0]
  have hcS : [[AV.str [97]], [.str [98]], [.str [115, 100]], [.str [112, 49]], [.str [97, 95, 98]], [.str [120, 33, 121]], [.str [65, 45, 49]]] = compS.map sRow := rfl
  refine loop_of (S := Nat × List (List UInt8)) (fun s => ⟨tmps 19 [(0, .ptr 0 0), (3, .str (joinP s.2)), (4, .int .i64 ((n + 1 - s.1 : Nat) : Int))], [tapeO t (k + 1 + s.1)]⟩) (fun s => n + 1 - s.1)
    (fun s => s.1 ≤ n + 1 ∧ s.2.length = s.1 ∧ ∀ x ∈ s.2, x ∈ compS) (0, []) (by simp) (cut_of (by simp) ?_) ?_
  · simp +decide -dsimp -implicitDefEqProofs [go_sem, tapeO, joinP]
  rintro ⟨i, l⟩ ⟨hi, hl, hm⟩
  simp only at hi hl hm
  have hjl := joinP_len hm
  by_cases h : i < n + 1
  · have h' : 0 < n + 1 - i := by omega
    have w : IntKind.i64.wrap (((n + 1 - i : Nat) : Int) - 1) = ((n + 1 - (i + 1) : Nat) : Int) := by rw [w64 (by omega) (by omega)]; omega
    have hone := One_c t (k + 1 + i) compS (by omega) (by decide) (by decide)
    have hmem := oneS_mem (ss := compS) (tapeV t (k + 1 + i)) (by decide)
    have hlen := (comp_all _ hmem).2.2
    generalize oneS compS (tapeV t (k + 1 + i)) = x at hone hmem hlen
    unfold strsV at hone
    simp +decide -dsimp -implicitDefEqProofs [go_sem, h']
    rw [hcS]
    refine callE_frame [0] hone rfl rfl (by simp) (by simp +decide -dsimp -implicitDefEqProofs [go_sem]) (by simp +decide -dsimp -implicitDefEqProofs [go_sem, tapeO_ren]) ?_
    simp +decide -dsimp -implicitDefEqProofs [go_sem, tapeO_ren, w]
    refine ⟨by omega, by omega, ?_⟩
    have ek : k + 1 + i + 1 = k + 1 + (i + 1) := by omega
    rw [ek, ← joinP_snoc]
    refine next_of (i + 1, l ++ [x]) ⟨by show i + 1 ≤ _; omega, by simp [hl], fun y hy => ?_⟩ (by show _ - (i + 1) < _ - i; omega) (cut_of (by simp) ?_)
    · rcases List.mem_append.1 hy with hy | hy
      · exact hm y hy
      · rw [List.mem_singleton.1 hy]; exact hmem
    simp +decide -dsimp -implicitDefEqProofs [go_sem, tapeO]
  · have e : i = n + 1 := by omega
    subst e
    have h' : ¬ (0 : Int) < ((n + 1 - (n + 1) : Nat) : Int) := by omega
    have e0 : ((n + 1 - (n + 1) : Nat) : Int) = 0 := by omega
    simp +decide -dsimp -implicitDefEqProofs [go_sem]
    refine end_of (.str (joinP l)) [tapeO t (k + 1 + (n + 1))] ⟨_, _, rfl, rfl, join_place hm (by intro e; rw [e] at hl; simp at hl) (by omega), by omega⟩ rfl ?_
    simp +decide -dsimp -implicitDefEqProofs [go_sem, tapeO]
end Go.Ab
namespace Go.Ab
open Go Go.Proofs
def keysS : List (List UInt8) := [[65], [68, 69, 86, 78, 65, 77, 69], [68, 82, 73, 86, 69, 82], [73, 68, 95, 83, 69, 65, 84], [75, 95, 49], [83, 84, 79, 82, 65, 71, 69, 95, 73, 71, 78, 79, 82, 69]]
def valsS : List (List UInt8) := [[49], [], [115, 101, 97, 116, 49], [120, 61, 121], [97, 32, 98], [46], [115, 101, 97, 116, 48]]
def subsS : List (List UInt8) := [[98, 108, 111, 99, 107], [110, 101, 116], [117, 115, 98], [116, 116, 121]]
def tagsS : List (List UInt8) := [[109, 97, 115, 116, 101, 114, 45, 111, 102, 45, 115, 101, 97, 116], [115, 101, 97, 116], [115, 121, 115, 116, 101, 109, 100], [117, 97, 99, 99, 101, 115, 115]]
def linksS : List (List UInt8) := [[98, 121, 45, 105, 100, 47, 97], [98, 121, 45, 105, 100, 47, 98], [100, 105, 115, 107], [122, 47, 122, 47, 122]]
def runsS : List (List UInt8) := [[114, 117, 110, 32, 98], [114, 117, 110, 32, 97], [114, 117, 110, 32, 97]]
def loadsS : List (List UInt8) := [[112, 99, 105, 58, 49], [117, 115, 98, 58, 42], [120]]
def namesS : List (List UInt8) := [[108, 97, 110, 48], [101, 116, 104, 49]]
def ownS : List (List UInt8) := [[114, 111, 111, 116], [97, 110, 110]]
def grpS : List (List UInt8) := [[114, 111, 111, 116], [100, 105, 115, 107]]
def subN : List UInt8 := [83, 85, 66, 83, 89, 83, 84, 69, 77]
theorem keys_ok : ∀ l ∈ subsL keysS, (∀ x ∈ l, keyNB x = true) ∧ ascB (l ++ [subN]) = true ∧ l.length ≤ 6 := by decide +kernel
theorem subN_ok : keyNB subN = true := by decide +kernel
theorem vals_ok : ∀ x ∈ valsS, textB x = true ∧ x.length ≤ 10 := by decide +kernel
theorem subs_ok : ∀ x ∈ subsS, textB x = true ∧ x.length ≤ 10 := by decide +kernel
theorem tags_ok : ∀ l ∈ subsL tagsS, risB l validB 16 = true := by decide +kernel
theorem links_asc : ∀ l ∈ subsL linksS, ascB l = true ∧ l.length ≤ 16 ∧ ∀ x ∈ l, x ∈ linksS := by decide +kernel
theorem linkC_ok : ∀ x ∈ linksS, (decide (x.length ≤ 256) && (splitC 47 x).all compB) = true := by decide +kernel
theorem links_ok {l : List (List UInt8)} (h : l ∈ subsL linksS) : risB l linkB 16 = true := by
  obtain ⟨h1, h2, h3⟩ := links_asc l h
  have h4 : l.all linkB = true := List.all_eq_true.2 fun x hx => by
    unfold linkB; rw [splitL_eq]; exact linkC_ok x (h3 x hx)
  simp [risB, h1, h2, h4]
theorem runs_ok : ∀ l ∈ subsL runsS, l.all fillB = true ∧ l.length ≤ 3 := by decide +kernel
theorem loads_ok : ∀ l ∈ subsL loadsS, risB l fillB 16 = true := by decide +kernel
theorem names_ok : ∀ x ∈ namesS, ifaceB x = true := by decide +kernel
theorem own_ok : ∀ x ∈ ownS, validB x = true := by decide +kernel
theorem grp_ok : ∀ x ∈ grpS, validB x = true := by decide +kernel

def prS (t : List Int) : Nat → List (List UInt8) → List (List UInt8 × List UInt8)
  | _, [] => []
  | k, x :: r => (x, oneS valsS (tapeV t k)) :: prS t (k + 1) r
theorem prS_len (t : List Int) : ∀ (l : List (List UInt8)) (k : Nat), (prS t k l).length = l.length
  | [], _ => rfl
  | x :: r, k => by simp [prS, prS_len t r]
theorem prS_at (t : List Int) : ∀ (l : List (List UInt8)) (k i : Nat) (h : i < l.length) (h2 : i < (prS t k l).length), (prS t k l)[i] = (l[i], oneS valsS (tapeV t (k + i)))
  | x :: r, k, 0, _, _ => rfl
  | x :: r, k, i + 1, h, h2 => by
    have := prS_at t r (k + 1) i (by simpa using h) (by simpa [prS] using h2)
    simp only [prS, List.getElem_cons_succ, this]
    rw [show k + 1 + i = k + (i + 1) by omega]
theorem prS_fst (t : List Int) : ∀ (l : List (List UInt8)) (k : Nat), (prS t k l).map (·.1) = l
  | [], _ => rfl
  | x :: r, k => by simp [prS, prS_fst t r]
theorem prS_snd (t : List Int) : ∀ (l : List (List UInt8)) (k : Nat), ∀ p ∈ prS t k l, textB p.2 = true
  | [], _, p, h => by simp [prS] at h
  | x :: r, k, p, h => by
    simp only [prS, List.mem_cons] at h
    rcases h with rfl | h
    · exact (vals_ok _ (oneS_mem _ (by decide))).1
    · exact prS_snd t r (k + 1) p h

def recR (t : List Int) (k : Nat) (p : List UInt8) (n : Int) (av : AV) (H : List AObj) : Prop := ∃ r k', av = .agg (rRow r) ∧ H = [tapeO t k'] ∧ soundB r = true ∧ r.path = p ∧ r.index = n ∧ k' ≤ k + 100
set_option maxRecDepth 20000 in
set_option maxHeartbeats 4000000 in
theorem mRecord_c (t : List Int) (k : Nat) (p : List UInt8) (n : Int) (hk : k < 800000000) (hp : placeB p = true) (hn : 1 ≤ n ∧ n ≤ 1073741824) : ACallsR Tryz.prog 17 [.ptr 0 0, .str p, .int .i64 n] [tapeO t k] (recR t k p n) := by
  refine acalls_EA (recR t k p n) 0 c17_ok ?_
  unfold c17
  -- what the tape gives
  have o1 := One_c t k ownS (by omega) (by decide) (by decide)
  have m1 := oneS_mem (ss := ownS) (tapeV t k) (by decide)
  generalize oneS ownS (tapeV t k) = ow at o1 m1
  have o2 := One_c t (k + 1) grpS (by omega) (by decide) (by decide)
  have m2 := oneS_mem (ss := grpS) (tapeV t (k + 1)) (by decide)
  generalize oneS grpS (tapeV t (k + 1)) = gr at o2 m2
  have o3 := Next_c t (k + 1 + 1) 8 (by omega) (by omega)
  have b3 := fold_bd (tapeV t (k + 1 + 1)) 8 (by omega)
  generalize fold (tapeV t (k + 1 + 1)) 8 = a8 at o3 b3
  have o4 := Next_c t (k + 1 + 1 + 1) 64 (by omega) (by omega)
  have b4 := fold_bd (tapeV t (k + 1 + 1 + 1)) 64 (by omega)
  generalize fold (tapeV t (k + 1 + 1 + 1)) 64 = a64 at o4 b4
  have w1 : IntKind.i64.wrap (64 * a8) = 64 * a8 := w64 (by omega) (by omega)
  have w2 : IntKind.i64.wrap (64 * a8 + a64) = 64 * a8 + a64 := w64 (by omega) (by omega)
  obtain ⟨k5, hk5⟩ : ∃ k5, k5 = k + 1 + 1 + 1 + 1 := ⟨_, rfl⟩
  rw [← hk5] at o4
  have o5 := some_c t k5 keysS (by have : keysS.length = 6 := rfl; omega)
  have m5 := someS_mem t keysS k5
  generalize someS t k5 keysS = ks at o5 m5
  obtain ⟨q1, q2, q3⟩ := keys_ok ks m5
  unfold strsV at o1 o2 o5
  refine awp_cut ⟨tmps 91 [(0, .ptr 0 0), (1, .str p), (2, .int .i64 n), (6, .ptr 1 0)], [tapeO t k, .box 34 [.str [], .int .i64 0, .nils, .nils, .nils, .nils, .nils, .str [], .int .i64 0, .str [], .str [], .int .i64 0]]⟩ (awp_of ?_) (awp_cut ⟨tmps 91 [(0, .ptr 0 0), (1, .str p), (2, .int .i64 n), (6, .ptr 1 0), (7, .ptr 2 0)], [tapeO t k5, .box 34 [.str [], .int .i64 0, .nils, .nils, .nils, .nils, .nils, .str [], .int .i64 0, .str [], .str [], .int .i64 0], .box 34 [.str p, .int .i64 n, .nils, .nils, .nils, .nils, .nils, .str [], .int .i64 0, .str ow, .str gr, .int .i64 (64 * a8 + a64)]]⟩ (awp_of ?_) ?_)
  · simp +decide -dsimp -implicitDefEqProofs [go_sem]
    refine cutE_of (by simp) ?_
    simp +decide -dsimp -implicitDefEqProofs [go_sem, tapeO]
  · simp +decide -dsimp -implicitDefEqProofs [go_sem]
    refine callE_frame [0] o1 rfl rfl (by simp) rfl (by simp +decide -dsimp -implicitDefEqProofs [go_sem, tapeO_ren]) ?_
    simp +decide -dsimp -implicitDefEqProofs [go_sem, tapeO_ren]
    refine callE_frame [0] o2 rfl rfl (by simp) rfl (by simp +decide -dsimp -implicitDefEqProofs [go_sem, tapeO_ren]) ?_
    simp +decide -dsimp -implicitDefEqProofs [go_sem, tapeO_ren]
    refine callE_frame [0] o3 rfl rfl (by simp) rfl (by simp +decide -dsimp -implicitDefEqProofs [go_sem, tapeO_ren]) ?_
    simp +decide -dsimp -implicitDefEqProofs [go_sem, tapeO_ren, w1]
    refine callE_frame [0] o4 rfl rfl (by simp) rfl (by simp +decide -dsimp -implicitDefEqProofs [go_sem, tapeO_ren]) ?_
    simp +decide -dsimp -implicitDefEqProofs [go_sem, tapeO_ren, w2]
    refine cutE_of (by simp) ?_
    simp +decide -dsimp -implicitDefEqProofs [go_sem, tapeO]
  obtain ⟨k6, hk6⟩ : ∃ k6, k6 = k5 + keysS.length := ⟨_, rfl⟩
  rw [← hk6] at o5
  have hk6' : k6 = k5 + 6 := hk6
  obtain ⟨pr0, hpr0⟩ : ∃ q, q = prS t k6 ks := ⟨_, rfl⟩
  have hpl : pr0.length = ks.length := by rw [hpr0, prS_len]
  have o7 := One_c t (k6 + ks.length) subsS (by omega) (by decide) (by decide)
  have m7 := oneS_mem (ss := subsS) (tapeV t (k6 + ks.length)) (by decide)
  generalize oneS subsS (tapeV t (k6 + ks.length)) = sv at o7 m7
  obtain ⟨prs, hprs⟩ : ∃ q, q = pr0 ++ [(subN, sv)] := ⟨_, rfl⟩
  obtain ⟨k8, hk8⟩ : ∃ k8, k8 = k6 + ks.length + 1 := ⟨_, rfl⟩
  rw [← hk8] at o7
  have o8 := some_c t k8 tagsS (by have : tagsS.length = 4 := rfl; omega)
  have m8 := someS_mem t tagsS k8
  generalize someS t k8 tagsS = tgs at o8 m8
  obtain ⟨k9, hk9⟩ : ∃ k9, k9 = k8 + tagsS.length := ⟨_, rfl⟩
  rw [← hk9] at o8
  have o9 := some_c t k9 linksS (by have : linksS.length = 4 := rfl; have : tagsS.length = 4 := rfl; omega)
  have m9 := someS_mem t linksS k9
  generalize someS t k9 linksS = lns at o9 m9
  obtain ⟨k10, hk10⟩ : ∃ k10, k10 = k9 + linksS.length := ⟨_, rfl⟩
  rw [← hk10] at o9
  have o10 := some_c t k10 runsS (by have : runsS.length = 3 := rfl; have : linksS.length = 4 := rfl; have : tagsS.length = 4 := rfl; omega)
  have m10 := someS_mem t runsS k10
  generalize someS t k10 runsS = rns at o10 m10
  obtain ⟨k11, hk11⟩ : ∃ k11, k11 = k10 + runsS.length := ⟨_, rfl⟩
  rw [← hk11] at o10
  have o11 := some_c t k11 loadsS (by have : loadsS.length = 3 := rfl; have : runsS.length = 3 := rfl; have : linksS.length = 4 := rfl; have : tagsS.length = 4 := rfl; omega)
  have m11 := someS_mem t loadsS k11
  generalize someS t k11 loadsS = lds at o11 m11
  obtain ⟨k12, hk12⟩ : ∃ k12, k12 = k11 + loadsS.length := ⟨_, rfl⟩
  rw [← hk12] at o11
  have hkk : k12 ≤ k + 40 := by
    have : loadsS.length = 3 := rfl
    have : runsS.length = 3 := rfl
    have : linksS.length = 4 := rfl
    have : tagsS.length = 4 := rfl
    omega
  clear hk9 hk10 hk11 hk12
  unfold strsV at o7 o8 o9 o10 o11
  refine awp_cut ⟨tmps 91 [(0, .ptr 0 0), (6, .ptr 1 0), (7, .ptr 2 0)], [tapeO t (k6 + ks.length), .box 34 [.str [], .int .i64 0, .nils, .nils, .nils, .nils, .nils, .str [], .int .i64 0, .str [], .str [], .int .i64 0], .box 34 [.str p, .int .i64 n, .own 3 pr0.length, .nils, .nils, .nils, .nils, .str [], .int .i64 0, .str ow, .str gr, .int .i64 (64 * a8 + a64)], .reg 93 2 (pr0.map aRow)]⟩ (awp_of ?_) ?_
  · simp +decide -dsimp -implicitDefEqProofs [go_sem]
    refine callE_frame [0] o5 rfl rfl (by simp) rfl (by simp +decide -dsimp -implicitDefEqProofs [go_sem, tapeO_ren]) ?_
    simp +decide -dsimp -implicitDefEqProofs [go_sem, tapeO_ren]
    refine loop_of (S := Nat) (fun i => ⟨tmps 91 [(0, .ptr 0 0), (6, .ptr 1 0), (7, .ptr 2 0), (27, .imm (ks.map sRow)), (28, .int .i64 ks.length), (29, .int .i64 i)], [tapeO t (k6 + i), .box 34 [.str [], .int .i64 0, .nils, .nils, .nils, .nils, .nils, .str [], .int .i64 0, .str [], .str [], .int .i64 0], .box 34 [.str p, .int .i64 n, .own 3 i, .nils, .nils, .nils, .nils, .str [], .int .i64 0, .str ow, .str gr, .int .i64 (64 * a8 + a64)], .reg 93 2 ((pr0.take i).map aRow)]⟩) (fun i => ks.length - i)
      (fun i => i ≤ ks.length) 0 (by simp) ((Wk.nilB 2 2 93 2 rfl rfl (by simp)).trans (cut_of (by simp) ?_)) ?_
    · simp +decide -dsimp -implicitDefEqProofs [go_sem, tapeO]
    intro i hi
    by_cases h : i < ks.length
    · have w : IntKind.i64.wrap ((i : Int) + 1) = i + 1 := w64 (by omega) (by omega)
      have hiw : i < pr0.length := by omega
      have hmin : min i pr0.length = i := by omega
      have oo := One_c t (k6 + i) valsS (by omega) (by decide) (by decide)
      have ea : pr0[i] = (ks[i], oneS valsS (tapeV t (k6 + i))) := by subst hpr0; exact prS_at t ks k6 i h _
      generalize oneS valsS (tapeV t (k6 + i)) = vv at oo ea
      have eR : List.take i (List.map aRow pr0) ++ [[AV.str ks[i], AV.str vv]] = List.map aRow (pr0.take (i + 1)) := by
        rw [List.take_succ_eq_append_getElem hiw, List.map_append, ea, List.map_take]; rfl
      unfold strsV at oo
      simp +decide -dsimp -implicitDefEqProofs [go_sem, h]
      refine callDE_frame [0] oo rfl rfl (by simp) rfl (by simp +decide -dsimp -implicitDefEqProofs [go_sem, tapeO_ren]) ?_
      simp +decide -dsimp -implicitDefEqProofs [go_sem, tapeO_ren, hmin, maxLen, w]
      refine ⟨⟨by omega, by omega⟩, ?_⟩
      rw [eR, show k6 + i + 1 = k6 + (i + 1) by omega]
      refine next_of (i + 1) (by omega) (by omega) (cut_of (by simp) ?_)
      simp +decide -dsimp -implicitDefEqProofs [go_sem, tapeO, -List.map_take]
    · have e : i = ks.length := by omega
      subst e
      have e2 : pr0.take ks.length = pr0 := by rw [← hpl, List.take_length]
      rw [e2]
      simp +decide -dsimp -implicitDefEqProofs [go_sem]
      refine cutE_of (by simp) ?_
      simp +decide -dsimp -implicitDefEqProofs [go_sem, tapeO, hpl]
  refine awp_cut ⟨tmps 91 [(0, .ptr 0 0), (6, .ptr 1 0), (7, .ptr 2 0)], [tapeO t k8, .box 34 [.str [], .int .i64 0, .nils, .nils, .nils, .nils, .nils, .str [], .int .i64 0, .str [], .str [], .int .i64 0], .box 34 [.str p, .int .i64 n, .imm (prs.map aRow), .nils, .nils, .nils, .nils, .str [], .int .i64 0, .str ow, .str gr, .int .i64 (64 * a8 + a64)]]⟩ (awp_of ?_) (awp_cut ⟨tmps 91 [(0, .ptr 0 0), (6, .ptr 1 0), (7, .ptr 2 0)], [tapeO t k9, .box 34 [.str [], .int .i64 0, .nils, .nils, .nils, .nils, .nils, .str [], .int .i64 0, .str [], .str [], .int .i64 0], .box 34 [.str p, .int .i64 n, .imm (prs.map aRow), .imm (tgs.map sRow), .nils, .nils, .nils, .str [], .int .i64 0, .str ow, .str gr, .int .i64 (64 * a8 + a64)]]⟩ (awp_of ?_) (awp_cut ⟨tmps 91 [(0, .ptr 0 0), (6, .ptr 1 0), (7, .ptr 2 0)], [tapeO t k10, .box 34 [.str [], .int .i64 0, .nils, .nils, .nils, .nils, .nils, .str [], .int .i64 0, .str [], .str [], .int .i64 0], .box 34 [.str p, .int .i64 n, .imm (prs.map aRow), .imm (tgs.map sRow), .imm (lns.map sRow), .nils, .nils, .str [], .int .i64 0, .str ow, .str gr, .int .i64 (64 * a8 + a64)]]⟩ (awp_of ?_) (awp_cut ⟨tmps 91 [(0, .ptr 0 0), (6, .ptr 1 0), (7, .ptr 2 0)], [tapeO t k11, .box 34 [.str [], .int .i64 0, .nils, .nils, .nils, .nils, .nils, .str [], .int .i64 0, .str [], .str [], .int .i64 0], .box 34 [.str p, .int .i64 n, .imm (prs.map aRow), .imm (tgs.map sRow), .imm (lns.map sRow), .imm (rns.map sRow), .nils, .str [], .int .i64 0, .str ow, .str gr, .int .i64 (64 * a8 + a64)]]⟩ (awp_of ?_) (awp_cut ⟨tmps 91 [(0, .ptr 0 0), (6, .ptr 1 0), (7, .ptr 2 0)], [tapeO t k12, .box 34 [.str [], .int .i64 0, .nils, .nils, .nils, .nils, .nils, .str [], .int .i64 0, .str [], .str [], .int .i64 0], .box 34 [.str p, .int .i64 n, .imm (prs.map aRow), .imm (tgs.map sRow), .imm (lns.map sRow), .imm (rns.map sRow), .imm (lds.map sRow), .str [], .int .i64 0, .str ow, .str gr, .int .i64 (64 * a8 + a64)]]⟩ (awp_of ?_) ?_))))
  · have eR : List.map aRow pr0 ++ [[AV.str subN, AV.str sv]] = prs.map aRow := by rw [hprs]; simp [aRow]
    unfold subN at eR
    simp +decide -dsimp -implicitDefEqProofs [go_sem]
    refine callDE_frame [0] o7 rfl rfl (by simp) rfl (by simp +decide -dsimp -implicitDefEqProofs [go_sem, tapeO_ren]) ?_
    simp +decide -dsimp -implicitDefEqProofs [go_sem, tapeO_ren, maxLen]
    refine ⟨⟨by omega, by omega⟩, ?_⟩
    rw [eR]
    refine cutE_of (by simp) ?_
    simp +decide -dsimp -implicitDefEqProofs [go_sem, tapeO, hprs, aRow]
  · simp +decide -dsimp -implicitDefEqProofs [go_sem]
    refine callE_frame [0] o8 rfl rfl (by simp) rfl (by simp +decide -dsimp -implicitDefEqProofs [go_sem, tapeO_ren]) ?_
    simp +decide -dsimp -implicitDefEqProofs [go_sem, tapeO_ren]
    refine cutE_of (by simp) ?_
    simp +decide -dsimp -implicitDefEqProofs [go_sem, tapeO]
  · simp +decide -dsimp -implicitDefEqProofs [go_sem]
    refine callE_frame [0] o9 rfl rfl (by simp) rfl (by simp +decide -dsimp -implicitDefEqProofs [go_sem, tapeO_ren]) ?_
    simp +decide -dsimp -implicitDefEqProofs [go_sem, tapeO_ren]
    refine cutE_of (by simp) ?_
    simp +decide -dsimp -implicitDefEqProofs [go_sem, tapeO]
  · simp +decide -dsimp -implicitDefEqProofs [go_sem]
    refine callE_frame [0] o10 rfl rfl (by simp) rfl (by simp +decide -dsimp -implicitDefEqProofs [go_sem, tapeO_ren]) ?_
    simp +decide -dsimp -implicitDefEqProofs [go_sem, tapeO_ren]
    refine cutE_of (by simp) ?_
    simp +decide -dsimp -implicitDefEqProofs [go_sem, tapeO]
  · simp +decide -dsimp -implicitDefEqProofs [go_sem]
    refine callE_frame [0] o11 rfl rfl (by simp) rfl (by simp +decide -dsimp -implicitDefEqProofs [go_sem, tapeO_ren]) ?_
    simp +decide -dsimp -implicitDefEqProofs [go_sem, tapeO_ren]
    refine cutE_of (by simp) ?_
    simp +decide -dsimp -implicitDefEqProofs [go_sem, tapeO]
  -- a name, or none
  obtain ⟨nm, k13, hnm⟩ : ∃ nm k13, (fold (tapeV t k12) 4 = 0 ∧ nm = oneS namesS (tapeV t (k12 + 1)) ∧ k13 = k12 + 1 + 1) ∨ (¬ fold (tapeV t k12) 4 = 0 ∧ nm = [] ∧ k13 = k12 + 1) := by
    by_cases h : fold (tapeV t k12) 4 = 0
    · exact ⟨_, _, .inl ⟨h, rfl, rfl⟩⟩
    · exact ⟨_, _, .inr ⟨h, rfl, rfl⟩⟩
  have gnm : nm = [] ∨ ifaceB nm = true := by
    rcases hnm with ⟨_, rfl, _⟩ | ⟨_, rfl, _⟩
    · exact .inr (names_ok _ (oneS_mem _ (by decide)))
    · exact .inl rfl
  have hk13 : k13 ≤ k12 + 2 := by rcases hnm with ⟨_, _, h⟩ | ⟨_, _, h⟩ <;> omega
  obtain ⟨pri, k14, hpri⟩ : ∃ pri k14, (fold (tapeV t k13) 3 = 0 ∧ pri = fold (tapeV t (k13 + 1)) 2001 - 1000 ∧ k14 = k13 + 1 + 1) ∨ (¬ fold (tapeV t k13) 3 = 0 ∧ pri = 0 ∧ k14 = k13 + 1) := by
    by_cases h : fold (tapeV t k13) 3 = 0
    · exact ⟨_, _, .inl ⟨h, rfl, rfl⟩⟩
    · exact ⟨_, _, .inr ⟨h, rfl, rfl⟩⟩
  have gpri : -1000 ≤ pri ∧ pri ≤ 1000 := by
    rcases hpri with ⟨_, rfl, _⟩ | ⟨_, rfl, _⟩
    · have := fold_bd (tapeV t (k13 + 1)) 2001 (by omega); omega
    · omega
  have hk14 : k14 ≤ k13 + 2 := by rcases hpri with ⟨_, _, h⟩ | ⟨_, _, h⟩ <;> omega
  refine awp_cut ⟨tmps 91 [(0, .ptr 0 0), (6, .ptr 1 0), (7, .ptr 2 0)], [tapeO t k13, .box 34 [.str [], .int .i64 0, .nils, .nils, .nils, .nils, .nils, .str [], .int .i64 0, .str [], .str [], .int .i64 0], .box 34 [.str p, .int .i64 n, .imm (prs.map aRow), .imm (tgs.map sRow), .imm (lns.map sRow), .imm (rns.map sRow), .imm (lds.map sRow), .str nm, .int .i64 0, .str ow, .str gr, .int .i64 (64 * a8 + a64)]]⟩ (awp_of ?_) (awp_cut ⟨tmps 91 [(0, .ptr 0 0), (6, .ptr 1 0), (7, .ptr 2 0)], [tapeO t k14, .box 34 [.str [], .int .i64 0, .nils, .nils, .nils, .nils, .nils, .str [], .int .i64 0, .str [], .str [], .int .i64 0], .box 34 [.str p, .int .i64 n, .imm (prs.map aRow), .imm (tgs.map sRow), .imm (lns.map sRow), .imm (rns.map sRow), .imm (lds.map sRow), .str nm, .int .i64 pri, .str ow, .str gr, .int .i64 (64 * a8 + a64)]]⟩ (awp_of ?_) (awp_of ?_))
  · have n1 := Next_c t k12 4 (by omega) (by omega)
    have b1 := fold_bd (tapeV t k12) 4 (by omega)
    rcases hnm with ⟨h1, rfl, rfl⟩ | ⟨h1, rfl, rfl⟩
    · have n2 := One_c t (k12 + 1) namesS (by omega) (by decide) (by decide)
      rw [h1] at n1
      unfold strsV at n2
      simp +decide -dsimp -implicitDefEqProofs [go_sem]
      refine callE_frame [0] n1 rfl rfl (by simp) rfl (by simp +decide -dsimp -implicitDefEqProofs [go_sem, tapeO_ren]) ?_
      simp +decide -dsimp -implicitDefEqProofs [go_sem, tapeO_ren]
      refine callE_frame [0] n2 rfl rfl (by simp) rfl (by simp +decide -dsimp -implicitDefEqProofs [go_sem, tapeO_ren]) ?_
      simp +decide -dsimp -implicitDefEqProofs [go_sem, tapeO_ren]
      refine cutE_of (by simp) ?_
      simp +decide -dsimp -implicitDefEqProofs [go_sem, tapeO]
    · simp +decide -dsimp -implicitDefEqProofs [go_sem]
      refine callE_frame [0] n1 rfl rfl (by simp) rfl (by simp +decide -dsimp -implicitDefEqProofs [go_sem, tapeO_ren]) ?_
      simp +decide -dsimp -implicitDefEqProofs [go_sem, tapeO_ren, h1]
      refine cutE_of (by simp) ?_
      simp +decide -dsimp -implicitDefEqProofs [go_sem, tapeO]
  · have n1 := Next_c t k13 3 (by omega) (by omega)
    rcases hpri with ⟨h1, rfl, rfl⟩ | ⟨h1, rfl, rfl⟩
    · have n2 := Next_c t (k13 + 1) 2001 (by omega) (by omega)
      have b2 := fold_bd (tapeV t (k13 + 1)) 2001 (by omega)
      have w : IntKind.i64.wrap (fold (tapeV t (k13 + 1)) 2001 - 1000) = fold (tapeV t (k13 + 1)) 2001 - 1000 := w64 (by omega) (by omega)
      rw [h1] at n1
      simp +decide -dsimp -implicitDefEqProofs [go_sem]
      refine callE_frame [0] n1 rfl rfl (by simp) rfl (by simp +decide -dsimp -implicitDefEqProofs [go_sem, tapeO_ren]) ?_
      simp +decide -dsimp -implicitDefEqProofs [go_sem, tapeO_ren]
      refine callE_frame [0] n2 rfl rfl (by simp) rfl (by simp +decide -dsimp -implicitDefEqProofs [go_sem, tapeO_ren]) ?_
      simp +decide -dsimp -implicitDefEqProofs [go_sem, tapeO_ren, w]
      refine cutE_of (by simp) ?_
      simp +decide -dsimp -implicitDefEqProofs [go_sem, tapeO]
    · simp +decide -dsimp -implicitDefEqProofs [go_sem]
      refine callE_frame [0] n1 rfl rfl (by simp) rfl (by simp +decide -dsimp -implicitDefEqProofs [go_sem, tapeO_ren]) ?_
      simp +decide -dsimp -implicitDefEqProofs [go_sem, tapeO_ren, h1]
      refine cutE_of (by simp) ?_
      simp +decide -dsimp -implicitDefEqProofs [go_sem, tapeO]
  -- the end: all of it, or without an owner
  have gA : risAB prs 64 = true := by
    have h1 : prs.map (·.1) = ks ++ [subN] := by rw [hprs, List.map_append, hpr0, prS_fst]; rfl
    have h2 : prs.all goodA = true := List.all_eq_true.2 fun x hx => by
      rw [hprs] at hx
      rcases List.mem_append.1 hx with hx | hx
      · have hx1 : x.1 ∈ ks := by
          have := List.mem_map_of_mem (f := (·.1)) hx
          rwa [hpr0, prS_fst] at this
        have hx2 := prS_snd t ks k6 x (hpr0 ▸ hx)
        simp [goodA, q1 _ hx1, hx2]
      · rw [List.mem_singleton.1 hx]
        simp [goodA, subN_ok, (subs_ok _ m7).1]
    have h3 : prs.length ≤ 64 := by rw [hprs]; simp; omega
    simp only [risAB, h1, h2, q2, h3, decide_true, Bool.and_self]
  have gT := tags_ok _ m8
  have gL := links_ok m9
  have gR := runs_ok _ m10
  have gM := loads_ok _ m11
  have gI := own_ok _ m1
  have gG := grp_ok _ m2
  have gn : (decide (nm = []) || ifaceB nm) = true := by rcases gnm with h | h <;> simp [h]
  have gLn : risB [] linkB 16 = true := rfl
  have n1 := Next_c t k14 4 (by omega) (by omega)
  by_cases h1 : fold (tapeV t k14) 4 = 0
  · rw [h1] at n1
    simp +decide -dsimp -implicitDefEqProofs [go_sem]
    refine callE_frame [0] n1 rfl rfl (by simp) rfl (by simp +decide -dsimp -implicitDefEqProofs [go_sem, tapeO_ren]) ?_
    simp +decide -dsimp -implicitDefEqProofs [go_sem, tapeO_ren]
    refine end_of (.agg (rRow ⟨p, n, prs, tgs, [], rns, lds, nm, pri, [], [], 0⟩)) [tapeO t (k14 + 1)] ⟨_, _, rfl, rfl, ?_, rfl, rfl, by omega⟩ rfl ?_
    · simp only [soundB, hp, hn, gA, gT, gLn, gR.1, gM, gn, gpri, and_self, decide_true, Bool.and_self, Bool.true_and, Bool.true_or]
      simp; omega
    simp +decide -dsimp -implicitDefEqProofs [go_sem, tapeO, rRow]
  · simp +decide -dsimp -implicitDefEqProofs [go_sem]
    refine callE_frame [0] n1 rfl rfl (by simp) rfl (by simp +decide -dsimp -implicitDefEqProofs [go_sem, tapeO_ren]) ?_
    simp +decide -dsimp -implicitDefEqProofs [go_sem, tapeO_ren, h1]
    refine end_of (.agg (rRow ⟨p, n, prs, tgs, lns, rns, lds, nm, pri, ow, gr, 64 * a8 + a64⟩)) [tapeO t (k14 + 1)] ⟨_, _, rfl, rfl, ?_, rfl, rfl, by omega⟩ rfl ?_
    · simp only [soundB, hp, hn, gA, gT, gL, gR.1, gM, gn, gpri, gI, gG, and_self, decide_true, Bool.and_self, Bool.true_and, Bool.or_true]
      have hm : 0 ≤ 64 * a8 + a64 ∧ 64 * a8 + a64 ≤ 4095 := by omega
      simp [hm]; omega
    simp +decide -dsimp -implicitDefEqProofs [go_sem, tapeO, rRow]
end Go.Ab
