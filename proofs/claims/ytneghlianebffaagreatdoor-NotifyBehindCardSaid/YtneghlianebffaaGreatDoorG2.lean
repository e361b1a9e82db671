/- A layer of abstract values over the model, and what is proved with it: part G2. -/
import Derived.Test.YtneghlianebffaaGreatDoorOX
import Derived.Test.YtneghlianebffaaGreatDoorW3
import Derived.Test.YtneghlianebffaaGreatDoorG1
import Derived.Test.YtneghlianebffaaGreatDoorW2
namespace Go.Ab
open Go Go.Proofs
end Go.Ab
namespace Go.Ab
open Go Go.Proofs
end Go.Ab
namespace Go.Ab
open Go Go.Proofs
set_option maxRecDepth 20000
end Go.Ab
namespace Go.Ab
open Go Go.Proofs
end Go.Ab
namespace Go.Ab
open Go Go.Proofs
end Go.Ab
namespace Go.Ab
open Go Go.Proofs
end Go.Ab
namespace Go.Ab
open Go Go.Proofs
end Go.Ab
namespace Go.Ab
open Go Go.Proofs
set_option maxRecDepth 20000
structure OS where
  k : Nat
  g : Nat → Bool
end Go.Ab
namespace Go.Ab
open Go Go.Proofs
set_option maxRecDepth 20000
end Go.Ab
namespace Go.Ab
open Go Go.Proofs
def c137 : AFn := ⟨(sq [(ox 4 (mb false))] (.seq (sq [(mv 6 0), (ox 7 (.len .sl (.t 6))), (mv 8 1), (ox 9 (.len .sl (.t 8))), (ox 10 (b2 .neq 7 9))] (cd 10 (sq [(ox 4 (mb false))] .ret) .skip)) (.seq (sq [(mv 11 0), (ox 12 (.len .sl (.t 11))), (ox 13 (.mov (iv 0)))] (.block 0 (.loop (sq [(ox 14 (b2 .lss 13 12))] (.seq (cd 14 .skip (.exit 0)) (.seq (.block 1 (sq [(mv 15 13), (mv 5 15)] (.seq (.draw [(mv 16 0), (mv 17 5), (ox 18 (.iaddr none 1 (.t 16) (.t 17))), (ox 19 (ld 18)), (mv 20 1), (mv 21 5), (ox 22 (.iaddr none 1 (.t 20) (.t 21))), (ox 23 (ld 22)), (ox 24 (b2 .neq 19 23))] [0, 0, 3, 7, 0, 0, 48, 112, 255]) (cd 24 (sq [(ox 4 (mb false))] .ret) .skip)))) (.ops [(ox 25 (b1 .add 13 1)), (mv 13 25)]))))))) (sq [(ox 4 (mb true))] .ret)))), 26, [(.tmp 4)]⟩
theorem c137_ok : compileF Tryz.prog [] 137 = some c137 := by kernel_rfl
end Go.Ab
namespace Go.Ab
open Go Go.Proofs
set_option maxRecDepth 20000
theorem eqS_c (l m : List (List UInt8)) (hl : l.length < 1000000000) : ACalls Tryz.prog 137 [.imm (l.map sRow), .imm (m.map sRow)] [] (.bool (decide (l = m))) [] := by
  refine acalls_F c137_ok rfl ?_
  unfold c137
  by_cases hlen : l.length = m.length
  rotate_left
  · have hlen' : ¬ (l.length : Int) = m.length := by omega
    have e : decide (l = m) = false := decide_eq_false fun h => hlen (by rw [h])
    rw [e]
    simp +decide -dsimp -implicitDefEqProofs [go_sem, hlen']
  have hlen' : (l.length : Int) = m.length := by omega
  simp +decide -dsimp -implicitDefEqProofs [go_sem, hlen']
  refine loop_of (S := Nat) (fun i => ⟨tmps 26 [(0, .imm (l.map sRow)), (1, .imm (m.map sRow)), (12, .int .i64 m.length), (13, .int .i64 i)], []⟩) (fun i => m.length - i) (fun i => i ≤ m.length ∧ l.take i = m.take i) 0 (by simp) (cut_of (by simp) ?_) ?_
  · simp +decide -dsimp -implicitDefEqProofs [go_sem, closedLL_sRows]
  intro i ⟨hi, hi2⟩
  by_cases h : i < m.length
  · have h' : (i : Int) < m.length := by omega
    have hl2 : i < l.length := by omega
    have w : IntKind.i64.wrap ((i : Int) + 1) = i + 1 := w64 (by omega) (by omega)
    have s1 : sRow l[i] = [.str l[i]] := rfl
    have s2 : sRow m[i] = [.str m[i]] := rfl
    by_cases he : l[i] = m[i]
    · simp +decide -dsimp -implicitDefEqProofs [go_sem, h', h, hl2, s2, he, w]
      refine next_of (i + 1) ⟨h, by rw [List.take_succ_eq_append_getElem h, List.take_succ_eq_append_getElem hl2, hi2, he]⟩ (by show m.length - (i + 1) < m.length - i; omega) (cut_of (by simp) ?_)
      simp +decide -dsimp -implicitDefEqProofs [go_sem, closedLL_sRows]
    · have e : ¬ l = m := fun h2 => he (by simp [h2])
      simp +decide -dsimp -implicitDefEqProofs [go_sem, h', h, hl2, s1, s2, he, e]
  · have h' : ¬ (i : Int) < m.length := by omega
    have e : l = m := by
      have : i = m.length := by omega
      rw [this, List.take_length, ← hlen, List.take_length] at hi2
      exact hi2
    simp +decide -dsimp -implicitDefEqProofs [go_sem, h', e]
def ancP (a b : List UInt8) : Bool := decide ((compsP a).length < (compsP b).length) && decide ((compsP b).take (compsP a).length = compsP a)
theorem under_c (a b : List UInt8) (ha : placeB a = true) (hb : placeB b = true) : ACalls Tryz.prog 98 [.str a, .str b] [] (.tup [.bool (ancP a b), .int .i64 0]) [] := by
  obtain ⟨a1, a2⟩ := comps_some ha
  obtain ⟨b1, b2⟩ := comps_some hb
  have c1 := nSplit_c a (by have := path_small ha; omega)
  have c2 := nSplit_c b (by have := path_small hb; omega)
  rw [a1] at c1
  rw [b1] at c2
  simp only at c1 c2
  have c3 := eqS_c ((compsP b).take (compsP a).length) (compsP a) (by rw [List.length_take]; omega)
  unfold ancP
  generalize compsP a = A at *
  generalize compsP b = B at *
  refine acalls_F c98_ok rfl ?_
  unfold c98
  simp +decide -dsimp -implicitDefEqProofs [go_sem]
  refine callE_pure c1 rfl (by simp [closed, closedL, closedLL_sRows]) ?_
  simp +decide -dsimp -implicitDefEqProofs [go_sem]
  refine callE_pure c2 rfl (by simp [closed, closedL, closedLL_sRows]) ?_
  by_cases h : A.length < B.length
  · have h' : (A.length : Int) < B.length := by omega
    have hr1 : ∀ r ∈ B.map sRow, r.length = 1 := fun r hr => by obtain ⟨x, _, rfl⟩ := List.mem_map.1 hr; rfl
    have hle : A.length ≤ B.length := by omega
    have e2 : (B.map sRow).take A.length = (B.take A.length).map sRow := by rw [List.map_take]
    rw [decide_eq_true h, Bool.true_and]
    simp +decide -dsimp -implicitDefEqProofs [go_sem, h', hle]
    rw [e2]
    refine callE_pure c3 (by simp only [closed, closedL, closedLL_sRows, Bool.and_true]) rfl ?_
    simp +decide -dsimp -implicitDefEqProofs [go_sem]
  · have h' : ¬ (A.length : Int) < B.length := by omega
    rw [decide_eq_false h, Bool.false_and]
    simp +decide -dsimp -implicitDefEqProofs [go_sem, h']
theorem ancestor_c (a b : List UInt8) (ha : placeB a = true) (hb : placeB b = true) : ACalls Tryz.prog 59 [.str a, .str b] [] (.bool (ancP a b)) [] := by
  have c := under_c a b ha hb
  refine acalls_F c59_ok rfl ?_
  unfold c59
  simp +decide -dsimp -implicitDefEqProofs [go_sem]
  refine callE_pure c rfl rfl ?_
  cases ancP a b <;> simp +decide -dsimp -implicitDefEqProofs [go_sem]
theorem order_c (a b : List UInt8) (ha : placeB a = true) (hb : placeB b = true) : ACalls Tryz.prog 54 [.str a, .str b] [] (.int .i64 (cmpP a b)) [] := by
  have c := nCompare_c a b ha hb
  refine acalls_F c54_ok rfl ?_
  unfold c54
  simp +decide -dsimp -implicitDefEqProofs [go_sem]
  refine callE_pure c rfl rfl ?_
  simp +decide -dsimp -implicitDefEqProofs [go_sem]
theorem valid_noslash {s : List UInt8} (h : validB s = true) : 47 ∉ s := fun h2 => by
  unfold validB at h
  rw [Bool.and_eq_true] at h
  have := List.all_eq_true.1 h.2 47 h2
  exact absurd (of_decide_eq_true this) (by decide +kernel)
end Go.Ab
