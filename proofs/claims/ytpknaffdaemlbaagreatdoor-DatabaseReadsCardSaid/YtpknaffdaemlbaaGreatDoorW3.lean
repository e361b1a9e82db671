/- The program: whether a record is sound. -/
import Derived.Test.YtpknaffdaemlbaaGreatDoorW2
import Derived.Test.YtpknaffdaemlbaaGreatDoorA5
namespace Go.Ab
open Go Go.Proofs

def plainB (r : Rcd) : Bool := decide (r.owner = [] ∧ r.group = [] ∧ r.mode = 0 ∧ r.links = [])
set_option maxRecDepth 20000 in
theorem sound_c (r : Rcd) (hf : Few r) : ACalls Tryz.prog 62 [.agg (rRow r)] [] (.bool (soundB r)) [] := by
  refine acalls_A c62_ok rfl ?_
  unfold c62
  refine awp_cut ⟨tmps 93 [(1, .ptr 0 0), (2, .bool false)], [.box 34 (rRow r)]⟩ (awp_of ?_) (awp_cut ⟨tmps 93 [(1, .ptr 0 0), (2, .bool false), (3, .bool (plainB r))], [.box 34 (rRow r)]⟩ (awp_of ?_) (awp_of ?_))
  · unfold rRow
    simp +decide -dsimp -implicitDefEqProofs [go_sem]
    refine cutE_of (by simp) ?_
    simp +decide -dsimp -implicitDefEqProofs [go_sem]
  · unfold rRow
    by_cases h1 : r.owner = []
    · by_cases h2 : r.group = []
      · by_cases h3 : r.mode = 0
        · by_cases h4 : r.links = []
          · simp +decide -dsimp -implicitDefEqProofs [go_sem, h1, h2, h3, h4]
            refine cutE_of (by simp) ?_
            simp +decide -dsimp -implicitDefEqProofs [go_sem, plainB, h1, h2, h3, h4]
          · simp +decide -dsimp -implicitDefEqProofs [go_sem, h1, h2, h3]
            refine cutE_of (by simp) ?_
            simp +decide -dsimp -implicitDefEqProofs [go_sem, plainB, h1, h2, h3, h4]
        · simp +decide -dsimp -implicitDefEqProofs [go_sem, h1, h2, h3]
          refine cutE_of (by simp) ?_
          simp +decide -dsimp -implicitDefEqProofs [go_sem, plainB, h1, h2, h3]
      · simp +decide -dsimp -implicitDefEqProofs [go_sem, h1, h2]
        refine cutE_of (by simp) ?_
        simp +decide -dsimp -implicitDefEqProofs [go_sem, plainB, h1, h2]
    · simp +decide -dsimp -implicitDefEqProofs [go_sem, h1]
      refine cutE_of (by simp) ?_
      simp +decide -dsimp -implicitDefEqProofs [go_sem, plainB, h1]
  have hs : soundB r = (placeB r.path && decide (1 ≤ r.index ∧ r.index ≤ 1073741824) && risAB r.props 64 && risB r.tags validB 16 && risB r.links linkB 16 && risB r.load fillB 16 && decide (r.run.length ≤ 16) && r.run.all fillB &&
    (decide (r.name = []) || ifaceB r.name) && decide (-1000 ≤ r.prio ∧ r.prio ≤ 1000) && decide (0 ≤ r.mode ∧ r.mode ≤ 4095) && (plainB r || validB r.owner && validB r.group)) := rfl
  have c1 := isPath_c r.path hf.path
  have c2 := risingA_c r.props 64 hf.props (fun x hx => by have := hf.vals x hx; omega)
  have c3 := risingS_c r.tags validB 105 16 hf.tags (fun x _ => nValid_c x)
  have c4 := risingS_c r.links linkB 106 16 hf.links (fun x hx => Link_c x (hf.link x hx))
  have c5 := risingS_c r.load fillB 107 16 hf.loads (fun x hx => filled_c x (by have := hf.ld x hx; omega))
  have c6 := ContainsFunc_c r.run 109 [] [] (fun x => !fillB x) hf.runs (by simp [closedL]) (by simp [selfH, cvH]) (fun x hx => notFilled_c x (by have := hf.rn x hx; omega))
  have e6 : (r.run.any fun x => !fillB x) = !r.run.all fillB := by rw [← List.not_all_eq_any_not]
  rw [e6] at c6
  have c7 := Interface_c r.name
  generalize hP : plainB r = pl at *
  unfold rRow
  simp +decide -dsimp -implicitDefEqProofs [go_sem]
  refine callE_pure c1 rfl rfl ?_
  by_cases h1 : placeB r.path = true
  rotate_left
  · simp +decide -dsimp -implicitDefEqProofs [go_sem, h1, hs]
  by_cases h2 : r.index < 1
  · have : ¬ (1 ≤ r.index ∧ r.index ≤ 1073741824) := by omega
    simp +decide -dsimp -implicitDefEqProofs [go_sem, h1, h2, hs, this]
  by_cases h3 : 1073741824 < r.index
  · have : ¬ (1 ≤ r.index ∧ r.index ≤ 1073741824) := by omega
    simp +decide -dsimp -implicitDefEqProofs [go_sem, h1, h2, h3, hs, this]
  have hi : (1 ≤ r.index ∧ r.index ≤ 1073741824) := by omega
  simp +decide -dsimp -implicitDefEqProofs [go_sem, h1, h2, h3]
  refine callE_pure c2 (by simp [go_sem]) rfl ?_
  by_cases h4 : risAB r.props 64 = true
  rotate_left
  · simp +decide -dsimp -implicitDefEqProofs [go_sem, h1, h4, hs]
  simp +decide -dsimp -implicitDefEqProofs [go_sem, h4]
  refine callE_pure c3 (by simp [go_sem]) rfl ?_
  by_cases h5 : risB r.tags validB 16 = true
  rotate_left
  · simp +decide -dsimp -implicitDefEqProofs [go_sem, h5, hs]
  simp +decide -dsimp -implicitDefEqProofs [go_sem, h5]
  refine callE_pure c4 (by simp [go_sem]) rfl ?_
  by_cases h6 : risB r.links linkB 16 = true
  rotate_left
  · simp +decide -dsimp -implicitDefEqProofs [go_sem, h6, hs]
  simp +decide -dsimp -implicitDefEqProofs [go_sem, h6]
  refine callE_pure c5 (by simp [go_sem]) rfl ?_
  by_cases h7 : risB r.load fillB 16 = true
  rotate_left
  · simp +decide -dsimp -implicitDefEqProofs [go_sem, h7, hs]
  by_cases h8 : r.run.length ≤ 16
  rotate_left
  · have h8' : (16 : Int) < r.run.length := by omega
    simp +decide -dsimp -implicitDefEqProofs [go_sem, h7, h8, h8', hs]
  have h8' : ¬ (16 : Int) < r.run.length := by omega
  simp +decide -dsimp -implicitDefEqProofs [go_sem, h7, h8']
  refine callE_pure c6 (by simp [go_sem]) rfl ?_
  by_cases h9 : r.run.all fillB = true
  rotate_left
  · simp +decide -dsimp -implicitDefEqProofs [go_sem, h9, hs]
  have fin : ∀ bo bg : Bool, bo = validB r.owner → bg = validB r.group → (decide (r.name = []) || ifaceB r.name) = true → (-1000 ≤ r.prio ∧ r.prio ≤ 1000) → (0 ≤ r.mode ∧ r.mode ≤ 4095) → soundB r = (pl || bo && bg) := fun bo bg e1 e2 e3 e4 e5 => by
    rw [hs, e1, e2, h1, h4, h5, h6, h7, h9, e3]; simp [hi, h8, e4, e5]
  by_cases h10 : r.name = []
  · have hn : (decide (r.name = []) || ifaceB r.name) = true := by simp [h10]
    by_cases h11 : r.prio < -1000
    · have : ¬ (-1000 ≤ r.prio ∧ r.prio ≤ 1000) := by omega
      simp +decide -dsimp -implicitDefEqProofs [go_sem, h9, h10, h11, hs, this]
    by_cases h12 : 1000 < r.prio
    · have : ¬ (-1000 ≤ r.prio ∧ r.prio ≤ 1000) := by omega
      simp +decide -dsimp -implicitDefEqProofs [go_sem, h9, h10, h11, h12, hs, this]
    by_cases h13 : r.mode < 0
    · have : ¬ (0 ≤ r.mode ∧ r.mode ≤ 4095) := by omega
      simp +decide -dsimp -implicitDefEqProofs [go_sem, h9, h10, h11, h12, h13, hs, this]
    by_cases h14 : 4095 < r.mode
    · have : ¬ (0 ≤ r.mode ∧ r.mode ≤ 4095) := by omega
      simp +decide -dsimp -implicitDefEqProofs [go_sem, h9, h10, h11, h12, h13, h14, hs, this]
    rw [fin _ _ rfl rfl hn (by omega) (by omega)]
    cases pl with
    | true => simp +decide -dsimp -implicitDefEqProofs [go_sem, h9, h10, h11, h12, h13, h14]
    | false =>
      simp +decide -dsimp -implicitDefEqProofs [go_sem, h9, h10, h11, h12, h13, h14]
      refine callE_pure (nValid_c r.owner) rfl rfl ?_
      by_cases h15 : validB r.owner = true
      · simp +decide -dsimp -implicitDefEqProofs [go_sem, h15]
        refine callE_pure (nValid_c r.group) rfl rfl ?_
        simp +decide -dsimp -implicitDefEqProofs [go_sem, h15]
      · simp +decide -dsimp -implicitDefEqProofs [go_sem, h15]
  · simp +decide -dsimp -implicitDefEqProofs [go_sem, h9, h10]
    refine callE_pure c7 rfl rfl ?_
    by_cases h10b : ifaceB r.name = true
    rotate_left
    · simp +decide -dsimp -implicitDefEqProofs [go_sem, h10, h10b, hs]
    have hn : (decide (r.name = []) || ifaceB r.name) = true := by simp [h10b]
    by_cases h11 : r.prio < -1000
    · have : ¬ (-1000 ≤ r.prio ∧ r.prio ≤ 1000) := by omega
      simp +decide -dsimp -implicitDefEqProofs [go_sem, h10, h10b, h11, hs, this]
    by_cases h12 : 1000 < r.prio
    · have : ¬ (-1000 ≤ r.prio ∧ r.prio ≤ 1000) := by omega
      simp +decide -dsimp -implicitDefEqProofs [go_sem, h10, h10b, h11, h12, hs, this]
    by_cases h13 : r.mode < 0
    · have : ¬ (0 ≤ r.mode ∧ r.mode ≤ 4095) := by omega
      simp +decide -dsimp -implicitDefEqProofs [go_sem, h10, h10b, h11, h12, h13, hs, this]
    by_cases h14 : 4095 < r.mode
    · have : ¬ (0 ≤ r.mode ∧ r.mode ≤ 4095) := by omega
      simp +decide -dsimp -implicitDefEqProofs [go_sem, h10, h10b, h11, h12, h13, h14, hs, this]
    rw [fin _ _ rfl rfl hn (by omega) (by omega)]
    cases pl with
    | true => simp +decide -dsimp -implicitDefEqProofs [go_sem, h10, h10b, h11, h12, h13, h14]
    | false =>
      simp +decide -dsimp -implicitDefEqProofs [go_sem, h10, h10b, h11, h12, h13, h14]
      refine callE_pure (nValid_c r.owner) rfl rfl ?_
      by_cases h15 : validB r.owner = true
      · simp +decide -dsimp -implicitDefEqProofs [go_sem, h15]
        refine callE_pure (nValid_c r.group) rfl rfl ?_
        simp +decide -dsimp -implicitDefEqProofs [go_sem, h15]
      · simp +decide -dsimp -implicitDefEqProofs [go_sem, h15]
end Go.Ab
namespace Go.Ab
open Go Go.Proofs

def listsB (r : Rcd) : Bool := risAB r.props 64 && risB r.tags validB 16 && risB r.links linkB 16 && risB r.load fillB 16 && decide (r.run.length ≤ 16) && r.run.all fillB

set_option maxRecDepth 20000 in
set_option maxHeartbeats 1000000 in
theorem lists_c (r : Rcd) (hf : Few r) : ACalls Tryz.prog 153 [.agg (rRow r)] [] (.bool (listsB r)) [] := by
  refine acalls_A c153_ok rfl ?_
  unfold c153
  have N0 : ∀ i : Nat, i < 153 → True := fun _ _ => trivial
  refine awp_cut ⟨tmps 153 [(1, .ptr 0 0), (2, .bool false)], [.box 34 (rRow r)]⟩ (awp_of ?_) ?_
  · unfold rRow
    simp +decide -dsimp -implicitDefEqProofs [go_sem]
    refine cutE_of (by simp) ?_
    simp +decide -dsimp -implicitDefEqProofs [go_sem]
  by_cases hb : r.props.length ≤ 64 ∧ (ascB r.tags = true ∧ r.tags.length ≤ 16) ∧ (ascB r.links = true ∧ r.links.length ≤ 16) ∧ r.run.length ≤ 16 ∧ (ascB r.load = true ∧ r.load.length ≤ 16)
  rotate_left
  · have hbad : listsB r = false := by
      rw [Bool.eq_false_iff]; intro h
      simp only [listsB, risAB, risB, Bool.and_eq_true, decide_eq_true_eq] at h
      exact hb ⟨h.1.1.1.1.1.2, ⟨h.1.1.1.1.2.1.2, h.1.1.1.1.2.2⟩, ⟨h.1.1.1.2.1.2, h.1.1.1.2.2⟩, h.1.2, ⟨h.1.1.2.1.2, h.1.1.2.2⟩⟩
    refine awp_of ?_
    rw [hbad]
    unfold rRow
    have t1 := ascends_c r.tags 16 hf.tags
    have t2 := ascends_c r.links 16 hf.links
    have t3 := ascends_c r.load 16 hf.loads
    by_cases h1 : r.props.length ≤ 64
    rotate_left
    · have h1' : (64 : Int) < r.props.length := by omega
      simp +decide -dsimp -implicitDefEqProofs [go_sem, h1']
    have h1' : ¬ (64 : Int) < r.props.length := by omega
    simp +decide -dsimp -implicitDefEqProofs [go_sem, h1']
    refine callE_pure t1 (by simp [go_sem]) rfl ?_
    by_cases h2 : (ascB r.tags && decide (r.tags.length ≤ 16)) = true
    rotate_left
    · simp only [Bool.not_eq_true] at h2
      simp +decide -dsimp -implicitDefEqProofs [go_sem, h2]
    simp +decide -dsimp -implicitDefEqProofs [go_sem, h2]
    refine callE_pure t2 (by simp [go_sem]) rfl ?_
    by_cases h3 : (ascB r.links && decide (r.links.length ≤ 16)) = true
    rotate_left
    · simp only [Bool.not_eq_true] at h3
      simp +decide -dsimp -implicitDefEqProofs [go_sem, h3]
    by_cases h4 : r.run.length ≤ 16
    rotate_left
    · have h4' : (16 : Int) < r.run.length := by omega
      simp +decide -dsimp -implicitDefEqProofs [go_sem, h3, h4']
    have h4' : ¬ (16 : Int) < r.run.length := by omega
    simp +decide -dsimp -implicitDefEqProofs [go_sem, h3, h4']
    refine callE_pure t3 (by simp [go_sem]) rfl ?_
    by_cases h5 : (ascB r.load && decide (r.load.length ≤ 16)) = true
    · exfalso
      simp only [Bool.and_eq_true, decide_eq_true_eq] at h2 h3 h5
      exact hb ⟨h1, h2, h3, h4, h5⟩
    · simp only [Bool.not_eq_true] at h5
      simp +decide -dsimp -implicitDefEqProofs [go_sem, h5]
  have hl : listsB r = (r.props.all goodA && ascB (r.props.map (·.1)) && r.tags.all validB && r.links.all linkB && r.run.all fillB && r.load.all fillB) := by
    simp only [listsB, risAB, risB, hb.1, hb.2.1, hb.2.2.1, hb.2.2.2.1, hb.2.2.2.2, decide_true, Bool.and_true]
    cases r.props.all goodA <;> cases ascB (r.props.map (·.1)) <;> cases r.tags.all validB <;> cases r.links.all linkB <;> cases r.run.all fillB <;> cases r.load.all fillB <;> rfl
  refine awp_cut ⟨tmps 153 [(1, .ptr 0 0), (2, .bool false)], [.box 34 (rRow r)]⟩ (awp_of ?_) ?_
  · have t1 := ascends_c r.tags 16 hf.tags
    have t2 := ascends_c r.links 16 hf.links
    have t3 := ascends_c r.load 16 hf.loads
    have h1' : ¬ (64 : Int) < r.props.length := by omega
    have h4' : ¬ (16 : Int) < r.run.length := by omega
    simp only [hb.2.1, hb.2.2.1, hb.2.2.2.2, decide_true, Bool.and_true] at t1 t2 t3
    unfold rRow
    simp +decide -dsimp -implicitDefEqProofs [go_sem, h1']
    refine callE_pure t1 (by simp [go_sem]) rfl ?_
    simp +decide -dsimp -implicitDefEqProofs [go_sem]
    refine callE_pure t2 (by simp [go_sem]) rfl ?_
    simp +decide -dsimp -implicitDefEqProofs [go_sem, h4']
    refine callE_pure t3 (by simp [go_sem]) rfl ?_
    simp +decide -dsimp -implicitDefEqProofs [go_sem]
    refine cutE_of (by simp) ?_
    simp +decide -dsimp -implicitDefEqProofs [go_sem]
  refine awp_of ?_
  rw [hl]
  unfold rRow
  simp +decide -dsimp -implicitDefEqProofs [go_sem]
  -- the attributes
  refine loop_of (S := Nat) (fun i => ⟨tmps 153 [(1, .ptr 0 0), (3, .int .i64 i)], [.box 34 (rRow r)]⟩) (fun i => r.props.length - i)
    (fun i => i ≤ r.props.length ∧ (∀ x ∈ r.props.take i, goodA x = true) ∧ ∀ j (h : j + 1 < r.props.length), j + 1 < i → Op.bytesLess r.props[j].1 r.props[j + 1].1 = true) 0 (by simp) (cut_of (by simp) ?_) ?_
  · unfold rRow; simp +decide -dsimp -implicitDefEqProofs [go_sem]
  intro i hi
  obtain ⟨hi0, hi1, hi2⟩ := hi
  unfold rRow
  by_cases h : i < r.props.length
  · have w : IntKind.i64.wrap ((i : Int) + 1) = i + 1 := w64 (by omega) (by have := hf.props; omega)
    simp +decide -dsimp -implicitDefEqProofs [go_sem, h]
    refine callDE_pure (rKey_c r.props[i].1) rfl rfl ?_
    by_cases h1 : keyNB r.props[i].1 = true
    rotate_left
    · have e : r.props.all goodA = false := by rw [List.all_eq_false]; exact ⟨_, List.getElem_mem h, by simp [goodA, h1]⟩
      simp +decide -dsimp -implicitDefEqProofs [go_sem, h1, e]
    simp +decide -dsimp -implicitDefEqProofs [go_sem, h, h1]
    refine callDE_pure (rText_c r.props[i].2 (by have := hf.vals _ (List.getElem_mem h); omega)) rfl rfl ?_
    by_cases h2 : textB r.props[i].2 = true
    rotate_left
    · have e : r.props.all goodA = false := by rw [List.all_eq_false]; exact ⟨_, List.getElem_mem h, by simp [goodA, h2]⟩
      simp +decide -dsimp -implicitDefEqProofs [go_sem, h2, e]
    have hnext : ∀ x ∈ r.props.take (i + 1), goodA x = true := fun x hx => by
      rw [List.take_succ_eq_append_getElem h] at hx
      rcases List.mem_append.1 hx with hx | hx
      · exact hi1 x hx
      · simp at hx; subst hx; simp [goodA, h1, h2]
    by_cases h0 : i = 0
    · subst h0
      simp +decide -dsimp -implicitDefEqProofs [go_sem, h2]
      refine next_of 1 ⟨by omega, hnext, fun j hj hj2 => by omega⟩ (by omega) (cut_of (by simp) ?_)
      simp +decide -dsimp -implicitDefEqProofs [go_sem]
    · obtain ⟨k, rfl⟩ : ∃ k, i = k + 1 := ⟨i - 1, by omega⟩
      have hk : k < r.props.length := by omega
      have wk : IntKind.i64.wrap (k : Int) = k := w64 (by omega) (by have := hf.props; omega)
      have w' : IntKind.i64.wrap ((k : Int) + 1 + 1) = k + 1 + 1 := w64 (by omega) (by have := hf.props; omega)
      have e1 : (0 : Int) < (k : Int) + 1 := by omega
      have e2 : ((k : Int) + 1).toNat = k + 1 := by omega
      have e3 : (0 : Int) ≤ (k : Int) + 1 := by omega
      have e4 : (k : Int) + 1 < r.props.length := by omega
      by_cases h3 : Op.bytesLess r.props[k].1 r.props[k + 1].1 = true
      · simp +decide -dsimp -implicitDefEqProofs [go_sem, h, h2, wk, hk, e1, e2, e3, h3, w']
        refine next_of (k + 1 + 1) ⟨by omega, hnext, fun j hj hj2 => ?_⟩ (by omega) (cut_of (by simp) ?_)
        · by_cases hjk : j = k
          · subst hjk; exact h3
          · exact hi2 j hj (by omega)
        simp +decide -dsimp -implicitDefEqProofs [go_sem]
      · have e : ascB (r.props.map (·.1)) = false := by
          rw [Bool.eq_false_iff]; intro ha; exact h3 (by have := asc_iff.1 ha k (by simpa using h); simpa using this)
        simp +decide -dsimp -implicitDefEqProofs [go_sem, h, h2, wk, hk, e1, e2, e3, h3, e]
  have ei : i = r.props.length := by omega
  subst ei
  rw [List.take_length] at hi1
  have g1 : r.props.all goodA = true := List.all_eq_true.2 hi1
  have g2 : ascB (r.props.map (·.1)) = true := asc_iff.2 fun j hj => (by simpa using hi2 j (by simpa using hj) (by simpa using hj))
  rw [g1, g2]
  simp +decide -dsimp -implicitDefEqProofs [go_sem]
  refine loop_of (S := Nat) (fun i => ⟨tmps 153 [(1, .ptr 0 0), (4, .int .i64 i)], [.box 34 (rRow r)]⟩) (fun i => r.tags.length - i)
    (fun i => i ≤ r.tags.length ∧ ∀ x ∈ r.tags.take i, validB x = true) 0 (by simp) (cut_of (by simp) ?_) ?_
  · unfold rRow; simp +decide -dsimp -implicitDefEqProofs [go_sem]
  intro i hi
  obtain ⟨hi0, hi1⟩ := hi
  unfold rRow
  by_cases h : i < r.tags.length
  · have w : IntKind.i64.wrap ((i : Int) + 1) = i + 1 := w64 (by omega) (by have := hf.tags; omega)
    have hbad : validB r.tags[i] = false → r.tags.all validB = false := fun e => by rw [List.all_eq_false]; exact ⟨_, List.getElem_mem h, by simp [e]⟩
    simp +decide -dsimp -implicitDefEqProofs [go_sem, h]
    refine callE_pure (rValid_c r.tags[i]) rfl rfl ?_
    by_cases h1 : validB r.tags[i] = true
    · skip
      simp +decide -dsimp -implicitDefEqProofs [go_sem, h1, w]
      refine next_of (i + 1) ⟨by omega, fun x hx => ?_⟩ (by omega) (cut_of (by simp) ?_)
      · rw [List.take_succ_eq_append_getElem h] at hx
        rcases List.mem_append.1 hx with hx | hx
        · exact hi1 x hx
        · simp at hx; subst hx; exact h1
      simp +decide -dsimp -implicitDefEqProofs [go_sem]
    · have e := hbad (by simpa using h1)
      skip
      simp +decide -dsimp -implicitDefEqProofs [go_sem, h1, e]
  have ei : i = r.tags.length := by omega
  subst ei
  rw [List.take_length] at hi1
  have g1 : r.tags.all validB = true := List.all_eq_true.2 hi1
  rw [g1]
  simp +decide -dsimp -implicitDefEqProofs [go_sem]
  refine loop_of (S := Nat) (fun i => ⟨tmps 153 [(1, .ptr 0 0), (5, .int .i64 i)], [.box 34 (rRow r)]⟩) (fun i => r.links.length - i)
    (fun i => i ≤ r.links.length ∧ ∀ x ∈ r.links.take i, linkB x = true) 0 (by simp) (cut_of (by simp) ?_) ?_
  · unfold rRow; simp +decide -dsimp -implicitDefEqProofs [go_sem]
  intro i hi
  obtain ⟨hi0, hi1⟩ := hi
  unfold rRow
  by_cases h : i < r.links.length
  · have w : IntKind.i64.wrap ((i : Int) + 1) = i + 1 := w64 (by omega) (by have := hf.links; omega)
    have hbad : linkB r.links[i] = false → r.links.all linkB = false := fun e => by rw [List.all_eq_false]; exact ⟨_, List.getElem_mem h, by simp [e]⟩
    simp +decide -dsimp -implicitDefEqProofs [go_sem, h]
    refine callE_pure (rLink_c r.links[i] (by have := hf.link _ (List.getElem_mem h); omega)) rfl rfl ?_
    by_cases h1 : linkB r.links[i] = true
    · skip
      simp +decide -dsimp -implicitDefEqProofs [go_sem, h1, w]
      refine next_of (i + 1) ⟨by omega, fun x hx => ?_⟩ (by omega) (cut_of (by simp) ?_)
      · rw [List.take_succ_eq_append_getElem h] at hx
        rcases List.mem_append.1 hx with hx | hx
        · exact hi1 x hx
        · simp at hx; subst hx; exact h1
      simp +decide -dsimp -implicitDefEqProofs [go_sem]
    · have e := hbad (by simpa using h1)
      skip
      simp +decide -dsimp -implicitDefEqProofs [go_sem, h1, e]
  have ei : i = r.links.length := by omega
  subst ei
  rw [List.take_length] at hi1
  have g1 : r.links.all linkB = true := List.all_eq_true.2 hi1
  rw [g1]
  simp +decide -dsimp -implicitDefEqProofs [go_sem]
  refine loop_of (S := Nat) (fun i => ⟨tmps 153 [(1, .ptr 0 0), (6, .int .i64 i)], [.box 34 (rRow r)]⟩) (fun i => r.run.length - i)
    (fun i => i ≤ r.run.length ∧ ∀ x ∈ r.run.take i, fillB x = true) 0 (by simp) (cut_of (by simp) ?_) ?_
  · unfold rRow; simp +decide -dsimp -implicitDefEqProofs [go_sem]
  intro i hi
  obtain ⟨hi0, hi1⟩ := hi
  unfold rRow
  by_cases h : i < r.run.length
  · have w : IntKind.i64.wrap ((i : Int) + 1) = i + 1 := w64 (by omega) (by have := hf.runs; omega)
    have hbad : fillB r.run[i] = false → r.run.all fillB = false := fun e => by rw [List.all_eq_false]; exact ⟨_, List.getElem_mem h, by simp [e]⟩
    by_cases h0 : r.run[i] = []
    · have e := hbad (by simp [fillB, h0])
      simp +decide -dsimp -implicitDefEqProofs [go_sem, h, h0, e]
    simp +decide -dsimp -implicitDefEqProofs [go_sem, h, h0]
    refine callE_pure (rText_c r.run[i] (by have := hf.rn _ (List.getElem_mem h); omega)) rfl rfl ?_
    by_cases h1 : fillB r.run[i] = true
    · have ht : textB r.run[i] = true := by simpa [fillB, h0] using h1
      simp +decide -dsimp -implicitDefEqProofs [go_sem, ht, w, h0]
      refine next_of (i + 1) ⟨by omega, fun x hx => ?_⟩ (by omega) (cut_of (by simp) ?_)
      · rw [List.take_succ_eq_append_getElem h] at hx
        rcases List.mem_append.1 hx with hx | hx
        · exact hi1 x hx
        · simp at hx; subst hx; exact h1
      simp +decide -dsimp -implicitDefEqProofs [go_sem]
    · have e := hbad (by simpa using h1)
      have ht : textB r.run[i] = false := by simpa [fillB, h0] using h1
      simp +decide -dsimp -implicitDefEqProofs [go_sem, ht, e, h0]
  have ei : i = r.run.length := by omega
  subst ei
  rw [List.take_length] at hi1
  have g1 : r.run.all fillB = true := List.all_eq_true.2 hi1
  rw [g1]
  simp +decide -dsimp -implicitDefEqProofs [go_sem]
  refine loop_of (S := Nat) (fun i => ⟨tmps 153 [(1, .ptr 0 0), (7, .int .i64 i)], [.box 34 (rRow r)]⟩) (fun i => r.load.length - i)
    (fun i => i ≤ r.load.length ∧ ∀ x ∈ r.load.take i, fillB x = true) 0 (by simp) (cut_of (by simp) ?_) ?_
  · unfold rRow; simp +decide -dsimp -implicitDefEqProofs [go_sem]
  intro i hi
  obtain ⟨hi0, hi1⟩ := hi
  unfold rRow
  by_cases h : i < r.load.length
  · have w : IntKind.i64.wrap ((i : Int) + 1) = i + 1 := w64 (by omega) (by have := hf.loads; omega)
    have hbad : fillB r.load[i] = false → r.load.all fillB = false := fun e => by rw [List.all_eq_false]; exact ⟨_, List.getElem_mem h, by simp [e]⟩
    by_cases h0 : r.load[i] = []
    · have e := hbad (by simp [fillB, h0])
      simp +decide -dsimp -implicitDefEqProofs [go_sem, h, h0, e]
    simp +decide -dsimp -implicitDefEqProofs [go_sem, h, h0]
    refine callE_pure (rText_c r.load[i] (by have := hf.ld _ (List.getElem_mem h); omega)) rfl rfl ?_
    by_cases h1 : fillB r.load[i] = true
    · have ht : textB r.load[i] = true := by simpa [fillB, h0] using h1
      simp +decide -dsimp -implicitDefEqProofs [go_sem, ht, w, h0]
      refine next_of (i + 1) ⟨by omega, fun x hx => ?_⟩ (by omega) (cut_of (by simp) ?_)
      · rw [List.take_succ_eq_append_getElem h] at hx
        rcases List.mem_append.1 hx with hx | hx
        · exact hi1 x hx
        · simp at hx; subst hx; exact h1
      simp +decide -dsimp -implicitDefEqProofs [go_sem]
    · have e := hbad (by simpa using h1)
      have ht : textB r.load[i] = false := by simpa [fillB, h0] using h1
      simp +decide -dsimp -implicitDefEqProofs [go_sem, ht, e, h0]
  have ei : i = r.load.length := by omega
  subst ei
  rw [List.take_length] at hi1
  have g1 : r.load.all fillB = true := List.all_eq_true.2 hi1
  rw [g1]
  simp +decide -dsimp -implicitDefEqProofs [go_sem]
end Go.Ab
namespace Go.Ab
open Go Go.Proofs

set_option maxRecDepth 20000 in
set_option maxHeartbeats 1000000 in
theorem rSound_c (r : Rcd) (hf : Few r) : ACalls Tryz.prog 114 [.agg (rRow r)] [] (.bool (soundB r)) [] := by
  refine acalls_A c114_ok rfl ?_
  unfold c114
  refine awp_cut ⟨tmps 81 [(1, .ptr 0 0)], [.box 34 (rRow r)]⟩ (awp_of ?_) (awp_cut ⟨tmps 81 [(1, .ptr 0 0), (3, .bool (validB r.owner && validB r.group))], [.box 34 (rRow r)]⟩ (awp_of ?_)
    (awp_cut ⟨tmps 81 [(1, .ptr 0 0), (3, .bool (plainB r || validB r.owner && validB r.group))], [.box 34 (rRow r)]⟩ (awp_of ?_) (awp_of ?_)))
  · unfold rRow
    simp +decide -dsimp -implicitDefEqProofs [go_sem]
    refine cutE_of (by simp) ?_
    simp +decide -dsimp -implicitDefEqProofs [go_sem]
  · unfold rRow
    simp +decide -dsimp -implicitDefEqProofs [go_sem]
    refine callE_pure (rValid_c r.owner) rfl rfl ?_
    by_cases h1 : validB r.owner = true
    · simp +decide -dsimp -implicitDefEqProofs [go_sem, h1]
      refine callE_pure (rValid_c r.group) rfl rfl ?_
      simp +decide -dsimp -implicitDefEqProofs [go_sem, h1]
      refine cutE_of (by simp) ?_
      simp +decide -dsimp -implicitDefEqProofs [go_sem]
    · simp only [Bool.not_eq_true] at h1
      simp +decide -dsimp -implicitDefEqProofs [go_sem, h1]
      refine cutE_of (by simp) ?_
      simp +decide -dsimp -implicitDefEqProofs [go_sem]
  · unfold rRow
    have P1 : ∀ {b : Bool}, plainB r = b → plainB r = b := id
    by_cases h1 : r.owner = []
    · by_cases h2 : r.group = []
      · by_cases h3 : r.mode = 0
        · by_cases h4 : r.links = []
          · have hp : plainB r = true := by simp [plainB, h1, h2, h3, h4]
            rw [hp]
            simp +decide -dsimp -implicitDefEqProofs [go_sem, h1, h2, h3, h4]
            refine cutE_of (by simp) ?_
            simp +decide -dsimp -implicitDefEqProofs [go_sem]
          · have hp : plainB r = false := by simp [plainB, h1, h2, h3, h4]
            rw [hp]
            simp +decide -dsimp -implicitDefEqProofs [go_sem, h1, h2, h3, h4]
            refine cutE_of (by simp) ?_
            simp +decide -dsimp -implicitDefEqProofs [go_sem]
        · have hp : plainB r = false := by simp [plainB, h1, h2, h3]
          rw [hp]
          simp +decide -dsimp -implicitDefEqProofs [go_sem, h1, h2, h3]
          refine cutE_of (by simp) ?_
          simp +decide -dsimp -implicitDefEqProofs [go_sem]
      · have hp : plainB r = false := by simp [plainB, h1, h2]
        rw [hp]
        simp +decide -dsimp -implicitDefEqProofs [go_sem, h1, h2]
        refine cutE_of (by simp) ?_
        simp +decide -dsimp -implicitDefEqProofs [go_sem]
    · have hp : plainB r = false := by simp [plainB, h1]
      rw [hp]
      simp +decide -dsimp -implicitDefEqProofs [go_sem, h1]
      refine cutE_of (by simp) ?_
      simp +decide -dsimp -implicitDefEqProofs [go_sem]
  have hs : soundB r = (placeB r.path && decide (1 ≤ r.index ∧ r.index ≤ 1073741824) && listsB r &&
    (decide (r.name = []) || ifaceB r.name) && decide (-1000 ≤ r.prio ∧ r.prio ≤ 1000) && decide (0 ≤ r.mode ∧ r.mode ≤ 4095) && (plainB r || validB r.owner && validB r.group)) := by
    unfold soundB listsB
    change _ = (placeB r.path && decide (1 ≤ r.index ∧ r.index ≤ 1073741824) && _ && _ && _ && _ && (plainB r || _))
    unfold plainB
    simp only [Bool.and_assoc]
  have c1 := rPlace_c r.path hf.path
  have c2 := lists_c r hf
  have c7 := rInterface_c r.name
  generalize hP : (plainB r || validB r.owner && validB r.group) = pl at *
  have hL : rRow r = [.str r.path, .int .i64 r.index, .imm (r.props.map aRow), .imm (r.tags.map sRow), .imm (r.links.map sRow), .imm (r.run.map sRow), .imm (r.load.map sRow), .str r.name, .int .i64 r.prio, .str r.owner, .str r.group, .int .i64 r.mode] := rfl
  rw [hL] at c2 ⊢
  cases pl with
  | false => simp +decide -dsimp -implicitDefEqProofs [go_sem, hs]
  | true =>
  simp +decide -dsimp -implicitDefEqProofs [go_sem]
  refine callE_pure c1 rfl rfl ?_
  by_cases h1 : placeB r.path = true
  rotate_left
  · simp +decide -dsimp -implicitDefEqProofs [go_sem, h1, hs]
  by_cases h2 : 1 ≤ r.index
  rotate_left
  · simp +decide -dsimp -implicitDefEqProofs [go_sem, h1, h2, hs]
  by_cases h3 : r.index ≤ 1073741824
  rotate_left
  · simp +decide -dsimp -implicitDefEqProofs [go_sem, h1, h2, h3, hs]
  simp +decide -dsimp -implicitDefEqProofs [go_sem, h1, h2, h3]
  refine callE_pure c2 (by simp [go_sem]) rfl ?_
  by_cases h4 : listsB r = true
  rotate_left
  · simp +decide -dsimp -implicitDefEqProofs [go_sem, h4, hs]
  by_cases h10 : r.name = []
  · have hx : True := trivial
    by_cases h11 : -1000 ≤ r.prio
    rotate_left
    · simp +decide -dsimp -implicitDefEqProofs [go_sem, h4, h10, h11, hs]
    by_cases h12 : r.prio ≤ 1000
    rotate_left
    · simp +decide -dsimp -implicitDefEqProofs [go_sem, h4, h10, h11, h12, hs]
    by_cases h13 : 0 ≤ r.mode
    rotate_left
    · simp +decide -dsimp -implicitDefEqProofs [go_sem, h4, h10, h11, h12, h13, hs]
    by_cases h14 : r.mode ≤ 4095
    · simp +decide -dsimp -implicitDefEqProofs [go_sem, h10, h1, h2, h3, h4, h11, h12, h13, h14, hs]
    · simp +decide -dsimp -implicitDefEqProofs [go_sem, h4, h10, h11, h12, h13, h14, hs]
  · simp +decide -dsimp -implicitDefEqProofs [go_sem, h4, h10]
    refine callE_pure c7 rfl rfl ?_
    by_cases h10b : ifaceB r.name = true
    rotate_left
    · simp +decide -dsimp -implicitDefEqProofs [go_sem, h10, h10b, hs]
    by_cases h11 : -1000 ≤ r.prio
    rotate_left
    · simp +decide -dsimp -implicitDefEqProofs [go_sem, h10, h10b, h11, hs]
    by_cases h12 : r.prio ≤ 1000
    rotate_left
    · simp +decide -dsimp -implicitDefEqProofs [go_sem, h10, h10b, h11, h12, hs]
    by_cases h13 : 0 ≤ r.mode
    rotate_left
    · simp +decide -dsimp -implicitDefEqProofs [go_sem, h10, h10b, h11, h12, h13, hs]
    by_cases h14 : r.mode ≤ 4095
    · simp +decide -dsimp -implicitDefEqProofs [go_sem, h10, h10b, h1, h2, h3, h4, h11, h12, h13, h14, hs]
    · simp +decide -dsimp -implicitDefEqProofs [go_sem, h10, h10b, h11, h12, h13, h14, hs]

def chkB (r : Rcd) : Int := if soundB r then 0 else 250
end Go.Ab
namespace Go.Ab
open Go Go.Proofs

@[go_sem ↓] theorem kinds_aRow (x : List UInt8 × List UInt8) : kindsOk [some .str, some .str] (aRow x) = true := rfl
@[go_sem ↓] theorem take_aRow (x : List UInt8 × List UInt8) : (aRow x).take 2 = aRow x := rfl
@[go_sem ↓] theorem scalars_aRow (x y : List UInt8 × List UInt8) : scalarsEq (aRow x) (aRow y) = some (decide (x = y)) := by
  obtain ⟨a, b⟩ := x
  obtain ⟨c, d⟩ := y
  simp only [aRow, scalarsEq, scalarEq]
  by_cases h1 : a = c <;> by_cases h2 : b = d <;> simp [h1, h2]

set_option maxRecDepth 20000 in
theorem sameTexts_c (a b : List (List UInt8)) (ha : a.length ≤ 9223372036854775807) (hb : b.length ≤ 9223372036854775807) : ACalls Tryz.prog 35 [.imm (a.map sRow), .imm (b.map sRow)] [] (.bool (decide (a = b))) [] := by
  refine acalls_F c35_ok rfl ?_
  unfold c35
  by_cases hl : a.length = b.length
  rotate_left
  · have hl' : ¬ (a.length : Int) = b.length := by omega
    have e : ¬ a = b := fun e => hl (by rw [e])
    simp +decide -dsimp -implicitDefEqProofs [go_sem, hl', e]
  have hl' : (a.length : Int) = b.length := by omega
  simp +decide -dsimp -implicitDefEqProofs [go_sem, hl']
  refine loop_of (S := Nat) (fun i => ⟨tmps 26 [(0, .imm (a.map sRow)), (1, .imm (b.map sRow)), (5, .int .i64 i)], []⟩) (fun i => a.length - i) (fun i => i ≤ a.length ∧ ∀ j (h1 : j < a.length) (h2 : j < b.length), j < i → a[j] = b[j]) 0 (by simp) (cut_of (by simp) ?_) ?_
  · simp +decide -dsimp -implicitDefEqProofs [go_sem]
  intro i hi
  by_cases h : i < a.length
  · have h2 : i < b.length := by omega
    have w : IntKind.i64.wrap ((i : Int) + 1) = i + 1 := w64 (by omega) (by omega)
    by_cases he : a[i] = b[i]
    · simp +decide -dsimp -implicitDefEqProofs [go_sem, h, h2, he, w]
      refine next_of (i + 1) ⟨by omega, fun j h1 h2 hj => ?_⟩ (by omega) (cut_of (by simp) ?_)
      · by_cases hji : j = i
        · subst hji; exact he
        · exact hi.2 j h1 h2 (by omega)
      simp +decide -dsimp -implicitDefEqProofs [go_sem]
    · have e : ¬ a = b := fun e => he (by subst e; rfl)
      simp +decide -dsimp -implicitDefEqProofs [go_sem, h, h2, he, e]
  · have e : a = b := List.ext_getElem hl fun j h1 h2 => hi.2 j h1 h2 (by omega)
    subst e
    have e2 : i = a.length := by omega
    subst e2
    simp +decide -dsimp -implicitDefEqProofs [go_sem]

set_option maxRecDepth 20000 in
theorem sameAttrs_c (a b : List (List UInt8 × List UInt8)) (ha : a.length ≤ 9223372036854775807) (hb : b.length ≤ 9223372036854775807) : ACalls Tryz.prog 85 [.imm (a.map aRow), .imm (b.map aRow)] [] (.bool (decide (a = b))) [] := by
  refine acalls_F c85_ok rfl ?_
  unfold c85
  by_cases hl : a.length = b.length
  rotate_left
  · have hl' : ¬ (a.length : Int) = b.length := by omega
    have e : ¬ a = b := fun e => hl (by rw [e])
    simp +decide -dsimp -implicitDefEqProofs [go_sem, hl', e]
  have hl' : (a.length : Int) = b.length := by omega
  simp +decide -dsimp -implicitDefEqProofs [go_sem, hl']
  refine loop_of (S := Nat) (fun i => ⟨tmps 26 [(0, .imm (a.map aRow)), (1, .imm (b.map aRow)), (5, .int .i64 i)], []⟩) (fun i => a.length - i) (fun i => i ≤ a.length ∧ ∀ j (h1 : j < a.length) (h2 : j < b.length), j < i → a[j] = b[j]) 0 (by simp) (cut_of (by simp) ?_) ?_
  · simp +decide -dsimp -implicitDefEqProofs [go_sem]
  intro i hi
  by_cases h : i < a.length
  · have h2 : i < b.length := by omega
    have w : IntKind.i64.wrap ((i : Int) + 1) = i + 1 := w64 (by omega) (by omega)
    by_cases he : a[i] = b[i]
    · simp +decide -dsimp -implicitDefEqProofs [go_sem, h, h2, he, w]
      refine next_of (i + 1) ⟨by omega, fun j h1 h2 hj => ?_⟩ (by omega) (cut_of (by simp) ?_)
      · by_cases hji : j = i
        · subst hji; exact he
        · exact hi.2 j h1 h2 (by omega)
      simp +decide -dsimp -implicitDefEqProofs [go_sem]
    · have e : ¬ a = b := fun e => he (by subst e; rfl)
      simp +decide -dsimp -implicitDefEqProofs [go_sem, h, h2, he, e]
  · have e : a = b := List.ext_getElem hl fun j h1 h2 => hi.2 j h1 h2 (by omega)
    subst e
    have e2 : i = a.length := by omega
    subst e2
    simp +decide -dsimp -implicitDefEqProofs [go_sem]

end Go.Ab
namespace Go.Ab
open Go Go.Proofs
structure Fit (r : Rcd) : Prop where
  props : r.props.length ≤ 9223372036854775807
  tags : r.tags.length ≤ 9223372036854775807
  links : r.links.length ≤ 9223372036854775807
  run : r.run.length ≤ 9223372036854775807
  load : r.load.length ≤ 9223372036854775807
theorem Few.fit {r : Rcd} (h : Few r) : Fit r := ⟨by have := h.props; omega, by have := h.tags; omega, by have := h.links; omega, by have := h.runs; omega, by have := h.loads; omega⟩

set_option maxRecDepth 20000 in
set_option maxHeartbeats 1000000 in
theorem sameRecord_c (a b : Rcd) (ha : Fit a) (hb : Fit b) : ACalls Tryz.prog 50 [.agg (rRow a), .agg (rRow b)] [] (.bool (decide (a = b))) [] := by
  refine acalls_F c50_ok rfl ?_
  unfold c50 rRow
  by_cases h1 : a.path = b.path
  rotate_left
  · have e : ¬ a = b := fun e => h1 (by rw [e])
    simp +decide -dsimp -implicitDefEqProofs [go_sem, h1, e]
  by_cases h2 : a.index = b.index
  rotate_left
  · have e : ¬ a = b := fun e => h2 (by rw [e])
    simp +decide -dsimp -implicitDefEqProofs [go_sem, h1, h2, e]
  simp +decide -dsimp -implicitDefEqProofs [go_sem, h1, h2]
  refine callE_pure (sameAttrs_c a.props b.props ha.props hb.props) (by simp [go_sem]) rfl ?_
  by_cases h3 : a.props = b.props
  rotate_left
  · have e : ¬ a = b := fun e => h3 (by rw [e])
    simp +decide -dsimp -implicitDefEqProofs [go_sem, h3, e]
  simp +decide -dsimp -implicitDefEqProofs [go_sem, h3]
  refine callE_pure (sameTexts_c a.tags b.tags ha.tags hb.tags) (by simp [go_sem]) rfl ?_
  by_cases h4 : a.tags = b.tags
  rotate_left
  · have e : ¬ a = b := fun e => h4 (by rw [e])
    simp +decide -dsimp -implicitDefEqProofs [go_sem, h4, e]
  simp +decide -dsimp -implicitDefEqProofs [go_sem, h4]
  refine callE_pure (sameTexts_c a.links b.links ha.links hb.links) (by simp [go_sem]) rfl ?_
  by_cases h5 : a.links = b.links
  rotate_left
  · have e : ¬ a = b := fun e => h5 (by rw [e])
    simp +decide -dsimp -implicitDefEqProofs [go_sem, h5, e]
  simp +decide -dsimp -implicitDefEqProofs [go_sem, h5]
  refine callE_pure (sameTexts_c a.run b.run ha.run hb.run) (by simp [go_sem]) rfl ?_
  by_cases h6 : a.run = b.run
  rotate_left
  · have e : ¬ a = b := fun e => h6 (by rw [e])
    simp +decide -dsimp -implicitDefEqProofs [go_sem, h6, e]
  simp +decide -dsimp -implicitDefEqProofs [go_sem, h6]
  refine callE_pure (sameTexts_c a.load b.load ha.load hb.load) (by simp [go_sem]) rfl ?_
  by_cases h7 : a.load = b.load
  rotate_left
  · have e : ¬ a = b := fun e => h7 (by rw [e])
    simp +decide -dsimp -implicitDefEqProofs [go_sem, h7, e]
  by_cases h8 : a.name = b.name
  rotate_left
  · have e : ¬ a = b := fun e => h8 (by rw [e])
    simp +decide -dsimp -implicitDefEqProofs [go_sem, h7, h8, e]
  by_cases h9 : a.prio = b.prio
  rotate_left
  · have e : ¬ a = b := fun e => h9 (by rw [e])
    simp +decide -dsimp -implicitDefEqProofs [go_sem, h7, h8, h9, e]
  by_cases h10 : a.owner = b.owner
  rotate_left
  · have e : ¬ a = b := fun e => h10 (by rw [e])
    simp +decide -dsimp -implicitDefEqProofs [go_sem, h7, h8, h9, h10, e]
  by_cases h11 : a.group = b.group
  rotate_left
  · have e : ¬ a = b := fun e => h11 (by rw [e])
    simp +decide -dsimp -implicitDefEqProofs [go_sem, h7, h8, h9, h10, h11, e]
  by_cases h12 : a.mode = b.mode
  rotate_left
  · have e : ¬ a = b := fun e => h12 (by rw [e])
    simp +decide -dsimp -implicitDefEqProofs [go_sem, h7, h8, h9, h10, h11, h12, e]
  have e : a = b := by
    obtain ⟨⟩ := a
    obtain ⟨⟩ := b
    simp only at h1 h2 h3 h4 h5 h6 h7 h8 h9 h10 h11 h12
    simp only [h1, h2, h3, h4, h5, h6, h7, h8, h9, h10, h11, h12]
  simp +decide -dsimp -implicitDefEqProofs [go_sem, e]

theorem rSame_c (a b : Rcd) (ha : Fit a) (hb : Fit b) : ACalls Tryz.prog 21 [.agg (rRow a), .agg (rRow b)] [] (.bool (decide (a = b))) [] := by
  refine acalls_F c21_ok rfl ?_
  have c := sameRecord_c a b ha hb
  unfold c21
  unfold rRow at c ⊢
  simp +decide -dsimp -implicitDefEqProofs [go_sem]
  refine callE_pure c (by simp [go_sem]) rfl ?_
  simp +decide -dsimp -implicitDefEqProofs [go_sem]

end Go.Ab
