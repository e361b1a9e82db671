/- A layer of abstract values over the model, and what is proved with it: part K9. -/
import Derived.Test.YtpknaffdaemlbaaGreatDoorCX
import Derived.Test.YtpknaffdaemlbaaGreatDoorAA
import Derived.Test.YtpknaffdaemlbaaGreatDoorK3
import Derived.Test.YtpknaffdaemlbaaGreatDoorSK
namespace Go.Ab
open Go Go.Proofs
def c9 : AFn := ⟨(.seq (.ops [⟨(some 6), (.mov (.v (.bool false))), none⟩]) (.seq (.ops [⟨(some 18), (.mov (.t 0)), none⟩, ⟨(some 19), (.build [.nils, (.int .i64 0)] [(0, (1, (.t 18)))]), none⟩, ⟨(some 20), (.box 25 (.t 19)), none⟩, ⟨(some 7), (.mov (.t 20)), none⟩]) (.seq (.ops [⟨(some 21), (.mov (.t 7)), none⟩, ⟨(some 22), (.mov (.t 7)), none⟩, ⟨(some 23), (.call (.v (.fn (.func 15) [] [])) [(.t 22)]), none⟩, ⟨(some 24), (.mov (.t 7)), none⟩, ⟨(some 25), (.call (.v (.fn (.func 13) [] [])) [(.t 24), (.v (.int .i64 9))]), none⟩, ⟨(some 26), (.bin .add (.v (.int .i64 1)) (.t 25)), none⟩, ⟨(some 27), (.call (.v (.fn (.func 17) [] [])) [(.t 21), (.t 23), (.t 26)]), none⟩, ⟨(some 8), (.alloc 34 [(.str []), (.int .i64 0), .nils, .nils, .nils, .nils, .nils, (.str []), (.int .i64 0), (.str []), (.str []), (.int .i64 0)]), none⟩, ⟨none, (.store (some 12) (.t 8) (.t 27)), none⟩]) (.seq (.ops [⟨(some 29), (.load (some 12) (.t 8)), none⟩, ⟨(some 30), (.call (.v (.fn (.func 30) [] [])) [(.t 29)]), none⟩, ⟨(some 28), (.mov (.t 30)), none⟩, ⟨(some 31), (.extract (.t 28) 0), none⟩, ⟨(some 32), (.extract (.t 28) 1), none⟩, ⟨(some 9), (.mov (.t 31)), none⟩, ⟨(some 10), (.mov (.t 32)), none⟩]) (.seq (.ops [⟨(some 34), (.faddr 0 (.t 8)), none⟩, ⟨(some 35), (.load none (.t 34)), none⟩, ⟨(some 36), (.call (.v (.fn (.func 31) [] [])) [(.t 35)]), none⟩, ⟨(some 33), (.mov (.t 36)), none⟩, ⟨(some 37), (.extract (.t 33) 0), none⟩, ⟨(some 38), (.extract (.t 33) 1), none⟩, ⟨(some 11), (.mov (.t 37)), none⟩, ⟨(some 12), (.mov (.t 38)), none⟩]) (.seq (.seq (.ops [⟨(some 39), (.mov (.t 10)), none⟩, ⟨(some 40), (.bin .neq (.t 39) (.v (.int .i64 0))), none⟩, ⟨(some 41), (.mov (.t 40)), none⟩, ⟨(some 42), (.mov (.t 12)), (some (41, false))⟩, ⟨(some 43), (.bin .neq (.t 42) (.v (.int .i64 0))), (some (41, false))⟩, ⟨(some 44), (.pick (.t 41) (.v (.bool true)) (.t 43)), none⟩, ⟨(some 45), (.mov (.t 44)), none⟩, ⟨(some 46), (.mov (.t 9)), (some (45, false))⟩, ⟨(some 47), (.bin .eql (.t 46) (.v (.str []))), (some (45, false))⟩, ⟨(some 48), (.pick (.t 45) (.v (.bool true)) (.t 47)), none⟩]) (.cond (.t 48) (.seq (.ops [⟨(some 6), (.mov (.v (.bool false))), none⟩]) .ret) .skip)) (.seq (.ops [⟨(some 49), (.mov (.t 11)), none⟩, ⟨(some 50), (.mov (.t 9)), none⟩, ⟨(some 51), (.mov (.t 1)), none⟩, ⟨(some 52), (.mov (.t 9)), none⟩, ⟨(some 53), (.len .str (.t 52)), none⟩, ⟨(some 54), (.call (.v (.fn (.func 26) [] [])) [(.t 51), (.t 53)]), none⟩, ⟨(some 55), (.slice .str 0 (.t 50) none (some (.t 54))), none⟩, ⟨(some 56), (.build [(.str []), (.str [])] [(0, (1, (.t 49))), (1, (1, (.t 55)))]), none⟩, ⟨(some 57), (.bslice 53 2 false [(.t 56)]), none⟩, ⟨(some 58), (.call (.v (.fn (.func 27) [] [])) [(.t 57)]), none⟩, ⟨(some 13), (.mov (.t 58)), none⟩]) (.seq (.seq (.ops [⟨(some 59), (.mov (.t 13)), none⟩, ⟨(some 60), (.ext (.pnil false) [(.t 59)]), none⟩]) (.cond (.t 60) (.seq (.ops [⟨(some 6), (.mov (.v (.bool false))), none⟩]) .ret) .skip)) (.seq (.ops [⟨(some 62), (.mov (.t 13)), none⟩, ⟨(some 63), (.faddr 0 (.t 8)), none⟩, ⟨(some 64), (.load none (.t 63)), none⟩, ⟨(some 65), (.call (.v (.fn (.func 20) [] [])) [(.t 62), (.t 64)]), none⟩, ⟨(some 61), (.mov (.t 65)), none⟩, ⟨(some 66), (.extract (.t 61) 0), none⟩, ⟨(some 67), (.extract (.t 61) 1), none⟩, ⟨(some 14), (.alloc 34 [(.str []), (.int .i64 0), .nils, .nils, .nils, .nils, .nils, (.str []), (.int .i64 0), (.str []), (.str []), (.int .i64 0)]), none⟩, ⟨none, (.store (some 12) (.t 14) (.t 66)), none⟩, ⟨(some 15), (.mov (.t 67)), none⟩]) (.seq (.seq (.ops [⟨(some 68), (.mov (.t 15)), none⟩, ⟨(some 69), (.mov (.t 68)), none⟩, ⟨(some 70), (.mov (.t 13)), (some (69, false))⟩, ⟨(some 71), (.call (.v (.fn (.func 28) [] [])) [(.t 70)]), (some (69, false))⟩, ⟨(some 72), (.len .sl (.t 71)), (some (69, false))⟩, ⟨(some 73), (.bin .neq (.t 72) (.v (.int .i64 0))), (some (69, false))⟩, ⟨(some 74), (.pick (.t 69) (.v (.bool true)) (.t 73)), none⟩, ⟨(some 75), (.mov (.t 74)), none⟩, ⟨(some 76), (.mov (.t 13)), (some (75, false))⟩, ⟨(some 77), (.call (.v (.fn (.func 29) [] [])) [(.t 76)]), (some (75, false))⟩, ⟨(some 78), (.mov (.t 11)), (some (75, false))⟩, ⟨(some 79), (.bslice 9 1 false [(.t 78)]), (some (75, false))⟩, ⟨(some 80), (.call (.v (.fn (.func 35) [] [])) [(.t 77), (.t 79)]), (some (75, false))⟩, ⟨(some 81), (.un .not (.t 80)), (some (75, false))⟩, ⟨(some 82), (.pick (.t 75) (.v (.bool true)) (.t 81)), none⟩]) (.cond (.t 82) (.seq (.ops [⟨(some 6), (.mov (.v (.bool false))), none⟩]) .ret) .skip)) (.seq (.seq (.ops [⟨(some 83), (.mov (.t 2)), none⟩, ⟨(some 84), (.call (.v (.fn (.func 26) [] [])) [(.t 83), (.v (.int .i64 3))]), none⟩]) (.block 0 (.seq (.ops [⟨(some 86), (.bin .eql (.t 84) (.v (.int .i64 0))), none⟩, ⟨(some 85), (.mov (.t 86)), none⟩]) (.cond (.t 85) (.seq (.ops [⟨(some 87), (.build [(.str []), (.int .i64 0), .nils, .nils, .nils, .nils, .nils, (.str []), (.int .i64 0), (.str []), (.str []), (.int .i64 0)] []), none⟩, ⟨(some 16), (.alloc 34 [(.str []), (.int .i64 0), .nils, .nils, .nils, .nils, .nils, (.str []), (.int .i64 0), (.str []), (.str []), (.int .i64 0)]), none⟩, ⟨none, (.store (some 12) (.t 16) (.t 87)), none⟩, ⟨(some 17), (.mov (.v (.bool false))), none⟩]) (.seq (.seq (.ops [⟨(some 88), (.mov (.t 13)), none⟩, ⟨(some 89), (.load (some 12) (.t 8)), none⟩, ⟨(some 90), (.call (.v (.fn (.func 18) [] [])) [(.t 88), (.t 89)]), none⟩, ⟨(some 91), (.bin .eql (.t 90) (.v (.int .i64 0))), none⟩]) (.cond (.t 91) (.ops [⟨(some 93), (.mov (.t 13)), none⟩, ⟨(some 94), (.faddr 0 (.t 8)), none⟩, ⟨(some 95), (.load none (.t 94)), none⟩, ⟨(some 96), (.call (.v (.fn (.func 20) [] [])) [(.t 93), (.t 95)]), none⟩, ⟨(some 92), (.mov (.t 96)), none⟩, ⟨(some 97), (.extract (.t 92) 0), none⟩, ⟨(some 98), (.extract (.t 92) 1), none⟩, ⟨none, (.store (some 12) (.t 16) (.t 97)), none⟩, ⟨(some 17), (.mov (.t 98)), none⟩]) .skip)) (.seq (.ops [⟨(some 99), (.mov (.t 17)), none⟩, ⟨(some 100), (.mov (.t 99)), none⟩, ⟨(some 101), (.load (some 12) (.t 16)), (some (100, true))⟩, ⟨(some 102), (.load (some 12) (.t 8)), (some (100, true))⟩, ⟨(some 103), (.call (.v (.fn (.func 21) [] [])) [(.t 101), (.t 102)]), (some (100, true))⟩, ⟨(some 104), (.pick (.t 100) (.t 103) (.v (.bool false))), none⟩, ⟨(some 105), (.mov (.t 104)), none⟩, ⟨(some 106), (.mov (.t 13)), (some (105, true))⟩, ⟨(some 107), (.call (.v (.fn (.func 29) [] [])) [(.t 106)]), (some (105, true))⟩, ⟨(some 108), (.len .sl (.t 107)), (some (105, true))⟩, ⟨(some 109), (.bin .eql (.t 108) (.v (.int .i64 0))), (some (105, true))⟩, ⟨(some 110), (.pick (.t 105) (.t 109) (.v (.bool false))), none⟩, ⟨(some 111), (.mov (.t 110)), none⟩, ⟨(some 112), (.mov (.t 13)), (some (111, true))⟩, ⟨(some 113), (.mov (.t 11)), (some (111, true))⟩, ⟨(some 114), (.call (.v (.fn (.func 36) [] [])) [(.t 112), (.t 113)]), (some (111, true))⟩, ⟨(some 115), (.bin .eql (.t 114) (.v (.int .i64 262))), (some (111, true))⟩, ⟨(some 116), (.pick (.t 111) (.t 115) (.v (.bool false))), none⟩, ⟨(some 117), (.mov (.t 116)), none⟩, ⟨(some 118), (.call (.v (.fn (.func 22) [] [])) []), (some (117, true))⟩, ⟨(some 119), (.pick (.t 117) (.t 118) (.v (.bool false))), none⟩, ⟨(some 6), (.mov (.t 119)), none⟩]) .ret))) (.seq (.ops [⟨(some 121), (.bin .eql (.t 84) (.v (.int .i64 1))), none⟩, ⟨(some 120), (.mov (.t 121)), none⟩]) (.cond (.t 120) (.seq (.ops [⟨(some 122), (.mov (.t 13)), none⟩, ⟨(some 123), (.faddr 0 (.t 8)), none⟩, ⟨(some 124), (.load none (.t 123)), none⟩, ⟨(some 125), (.call (.v (.fn (.func 16) [] [])) [(.t 122), (.t 124)]), none⟩, ⟨(some 126), (.bin .eql (.t 125) (.v (.int .i64 0))), none⟩, ⟨(some 127), (.mov (.t 126)), none⟩, ⟨(some 128), (.mov (.t 13)), (some (127, true))⟩, ⟨(some 129), (.call (.v (.fn (.func 24) [] [])) [(.t 128)]), (some (127, true))⟩, ⟨(some 130), (.len .sl (.t 129)), (some (127, true))⟩, ⟨(some 131), (.bin .eql (.t 130) (.v (.int .i64 0))), (some (127, true))⟩, ⟨(some 132), (.pick (.t 127) (.t 131) (.v (.bool false))), none⟩, ⟨(some 133), (.mov (.t 132)), none⟩, ⟨(some 134), (.call (.v (.fn (.func 22) [] [])) []), (some (133, true))⟩, ⟨(some 135), (.pick (.t 133) (.t 134) (.v (.bool false))), none⟩, ⟨(some 6), (.mov (.t 135)), none⟩]) .ret) .skip)))))) (.seq (.ops [⟨(some 136), (.mov (.t 13)), none⟩, ⟨(some 137), (.mov (.t 11)), none⟩, ⟨(some 138), (.call (.v (.fn (.func 36) [] [])) [(.t 136), (.t 137)]), none⟩, ⟨(some 139), (.bin .eql (.t 138) (.v (.int .i64 0))), none⟩, ⟨(some 140), (.mov (.t 139)), none⟩, ⟨(some 141), (.mov (.t 13)), (some (140, true))⟩, ⟨(some 142), (.call (.v (.fn (.func 24) [] [])) [(.t 141)]), (some (140, true))⟩, ⟨(some 143), (.len .sl (.t 142)), (some (140, true))⟩, ⟨(some 144), (.bin .eql (.t 143) (.v (.int .i64 0))), (some (140, true))⟩, ⟨(some 145), (.pick (.t 140) (.t 144) (.v (.bool false))), none⟩, ⟨(some 146), (.mov (.t 145)), none⟩, ⟨(some 147), (.mov (.t 13)), (some (146, true))⟩, ⟨(some 148), (.mov (.t 11)), (some (146, true))⟩, ⟨(some 149), (.call (.v (.fn (.func 36) [] [])) [(.t 147), (.t 148)]), (some (146, true))⟩, ⟨(some 150), (.bin .eql (.t 149) (.v (.int .i64 262))), (some (146, true))⟩, ⟨(some 151), (.pick (.t 146) (.t 150) (.v (.bool false))), none⟩, ⟨(some 152), (.mov (.t 151)), none⟩, ⟨(some 153), (.call (.v (.fn (.func 22) [] [])) []), (some (152, true))⟩, ⟨(some 154), (.pick (.t 152) (.t 153) (.v (.bool false))), none⟩, ⟨(some 6), (.mov (.t 154)), none⟩]) .ret)))))))))))), 155, [(.tmp 6)]⟩
theorem c9_ok : compileF Tryz.prog [] 9 = some c9 := by kernel_rfl
end Go.Ab
namespace Go.Ab
open Go Go.Proofs
theorem splitC_flat2 {c : UInt8} {t : List UInt8} : ∀ {l : List (List UInt8)}, (∀ x ∈ l, c ∉ x) → splitC c (l.flatMap (· ++ [c]) ++ t) = l ++ splitC c t
  | [], _ => rfl
  | x :: l, h => by
    have e : (x :: l).flatMap (· ++ [c]) ++ t = x ++ c :: (l.flatMap (· ++ [c]) ++ t) := by simp
    rw [e, splitC_app (h x (by simp)), splitC_flat2 fun y hy => h y (by simp [hy])]; rfl
theorem splitC_one {c : UInt8} {t : List UInt8} (h : splitC c t = [[]]) : t = [] := by
  cases t with
  | nil => rfl
  | cons x r =>
    unfold splitC at h
    split at h
    · simp at h; exact absurd h (splitC_ne c r)
    · split at h <;> simp at h
theorem linesOf_front (r : Rcd) : ∃ f, linesOf r = f ++ [[46]] ∧ ∀ x ∈ f, 2 ≤ x.length := by
  refine ⟨(80 :: 58 :: r.path) :: (73 :: 58 :: baseT 10 r.index) :: ((r.props.map attrT).map (fun s => 69 :: 58 :: s) ++ (r.tags.map (fun s => 71 :: 58 :: s) ++ (r.links.map (fun s => 76 :: 58 :: s) ++ (r.run.map (fun s => 82 :: 58 :: s) ++ (r.load.map (fun s => 77 :: 58 :: s) ++
    ((if r.name = [] then [] else [78 :: 58 :: r.name]) ++ ((if r.owner = [] then [] else [79 :: 58 :: r.owner]) ++ ((if r.group = [] then [] else [81 :: 58 :: r.group]) ++
    ((if numT 10 r.prio = [] then [] else [89 :: 58 :: numT 10 r.prio]) ++ (if numT 8 r.mode = [] then [] else [88 :: 58 :: numT 8 r.mode])))))))))), by simp only [linesOf, List.cons_append, List.append_assoc], fun x hx => ?_⟩
  have mp : ∀ {b : UInt8} {l : List (List UInt8)}, x ∈ l.map (fun s => b :: 58 :: s) → 2 ≤ x.length := fun hx => by
    obtain ⟨y, _, rfl⟩ := List.mem_map.1 hx; simp
  have fl : ∀ {b : UInt8} {s : List UInt8}, x ∈ (if s = [] then [] else [b :: 58 :: s]) → 2 ≤ x.length := fun hx => by
    split at hx
    · simp at hx
    · simp at hx; subst hx; simp
  simp only [List.mem_cons, List.mem_append] at hx
  rcases hx with rfl | rfl | hx | hx | hx | hx | hx | hx | hx | hx | hx | hx
  · simp
  · simp
  · exact mp hx
  · exact mp hx
  · exact mp hx
  · exact mp hx
  · exact mp hx
  · exact fl hx
  · exact fl hx
  · exact fl hx
  · exact fl hx
  · exact fl hx
theorem enc_prefix {x y : Rcd} (hx : soundB x = true) (hy : soundB y = true) (h : encT y <+: encT x) : encT y = encT x := by
  obtain ⟨t, ht⟩ := h
  have e1 : linesOf y ++ splitC 10 t = linesOf x ++ [[]] := by
    rw [← splitC_flat2 (linesOf_nl (nice_of hy)), ← enc_flat, ht, enc_flat, splitC_flat (linesOf_nl (nice_of hx))]
  obtain ⟨fx, h1, h2⟩ := linesOf_front x
  obtain ⟨fy, h3, h4⟩ := linesOf_front y
  rw [h1, h3] at e1
  have hl : fy.length = fx.length := by
    rcases Nat.lt_trichotomy fy.length fx.length with h | h | h
    · have e2 := congrArg (fun l => l[fy.length]?) e1
      simp only [List.append_assoc] at e2
      rw [List.getElem?_append_right (Nat.le_refl _), List.getElem?_append_left h, List.getElem?_eq_getElem h] at e2
      simp only [Nat.sub_self, List.cons_append, List.getElem?_cons_zero, Option.some.injEq] at e2
      have := h2 _ (List.getElem_mem h)
      rw [← e2] at this
      simp at this
    · exact h
    · have e2 := congrArg (fun l => l[fx.length]?) e1
      simp only [List.append_assoc] at e2
      rw [List.getElem?_append_left h, List.getElem?_append_right (Nat.le_refl _), List.getElem?_eq_getElem h] at e2
      simp only [Nat.sub_self, List.cons_append, List.getElem?_cons_zero, Option.some.injEq] at e2
      have := h4 _ (List.getElem_mem h)
      rw [e2] at this
      simp at this
  have e3 := (List.append_inj e1 (by simp [hl])).2
  have e4 := splitC_one e3
  rw [← ht, e4, List.append_nil]
theorem not_prefix {x y : Rcd} (hx : soundB x = true) (hy : soundB y = true) (hne : encT x ≠ encT y) : (encT y).isPrefixOf (encT x) = false := by
  rw [Bool.eq_false_iff]
  intro h
  exact hne (enc_prefix hx hy (List.isPrefixOf_iff_prefix.1 h)).symm
theorem no_begin {x : Rcd} (hx : soundB x = true) {k : Nat} (hk : k < (encT x).length) : ¬ decS ((encT x).take k) := by
  rintro ⟨y, hy, he⟩
  have h := enc_prefix hx hy (he ▸ List.take_prefix k (encT x))
  rw [he] at h
  have := congrArg List.length h
  rw [List.length_take] at this
  omega
theorem enc_pos (x : Rcd) : 0 < (encT x).length := by rw [encT]; simp [lineT]


theorem loadM_one (a b : List UInt8) : loadM [(a, b)] = [some (a, b)] := by
  show loadE [] (a, b) = _
  unfold loadE
  rw [if_pos (.inr (by simp [cntS]))]
  rfl
section
variable {r : Rcd} {k : Nat}
theorem dmg_not (hS : soundB r = true) (hk : k < (encT r).length) : ¬ wholeP [some (entL r.path, (encT r).take k)] (entL r.path) := by
  rintro ⟨x, h1, h2, _⟩
  simp only [getS, if_true, Option.getD_some] at h2
  exact no_begin hS hk ⟨x, h1, h2⟩
theorem one_fine (hS : soundB r = true) {t : List UInt8} (ht : t.length ≤ 40000) : Fine [some (entL r.path, t)] 1 := by
  have : (entL r.path).length ≤ 1000000 := by have := entL_len r.path; have := path_small (sound_place hS); omega
  exact Fine.set .nil this ht
theorem dmg_one (hS : soundB r = true) (hk : k < (encT r).length) : dmgL [some (entL r.path, (encT r).take k)] = [entL r.path] := by
  have h : srtK (ksS [some (entL r.path, (encT r).take k)]) = [entL r.path] := by simp [ksS, srtK]
  unfold dmgL
  rw [h]
  simp [dmg_not hS hk]
theorem whole_one (hS : soundB r = true) : wholeP [some (entL r.path, encT r)] (entL r.path) := ⟨r, hS, by simp [getS], rfl⟩
theorem dmg_none (hS : soundB r = true) : dmgL [some (entL r.path, encT r)] = [] := by
  have h : srtK (ksS [some (entL r.path, encT r)]) = [entL r.path] := by simp [ksS, srtK]
  unfold dmgL
  rw [h]
  simp [whole_one hS]
theorem all_none (hS : soundB r = true) (hk : k < (encT r).length) {l : List Rcd} (h : AllOf [some (entL r.path, (encT r).take k)] l) : l = [] := by
  refine List.eq_nil_iff_forall_not_mem.2 fun x hx => ?_
  obtain ⟨h1, h2⟩ := (h.mem x).1 hx
  simp only [getS] at h2
  split at h2
  · simp only [Option.some.injEq] at h2
    exact no_begin hS hk ⟨x, h1, h2.symm⟩
  · cases h2
end
theorem ents_gone : entsL ([none] : TMap) = [] := by simp [entsL, ksS, srtK]
end Go.Ab
namespace Go.Ab
open Go Go.Proofs
set_option maxRecDepth 20000 in
set_option maxHeartbeats 16000000 in
theorem DatabaseDamage_c (l : List Int) (n way : Int) : ACalls Tryz.prog 9 [tapeVs l, .int .i64 n, .int .i64 way] [] (.bool true) [] := by
  have hcl := wRows_cl
  have hwr := wRows_ren
  have hsr := smK_renS
  have hrr := renLL_rRows
  have hn0 : ∀ (is : List Nat), renLL is [] = [] := fun _ => rfl
  have hrow : ∀ r : Rcd, rRow r = [.str r.path, .int .i64 r.index, .imm (r.props.map aRow), .imm (r.tags.map sRow), .imm (r.links.map sRow), .imm (r.run.map sRow), .imm (r.load.map sRow), .str r.name, .int .i64 r.prio, .str r.owner, .str r.group, .int .i64 r.mode] := fun _ => rfl
  have c1 := fun k (hk : k < 1000) => Next_c l k 9 (by omega) (by omega)
  have cf := Fold_c way 3 (by omega)
  have bf := fold_bd way 3 (by omega)
  generalize fold way 3 = g at cf bf
  refine acalls_F c9_ok rfl ?_
  unfold c9 tapeVs
  simp +decide -dsimp -implicitDefEqProofs [go_sem]
  rw [tape0]
  refine callE_frameR [0] (mPath_c l 0 (by omega)) rfl (fun v G ⟨_, _, _, hG, _⟩ => by rw [hG]; rfl) (by simp) (by simp +decide -dsimp -implicitDefEqProofs [go_sem]) (by simp +decide -dsimp -implicitDefEqProofs [go_sem, tapeO_ren]) ?_
  rintro _ _ ⟨p, k1, rfl, rfl, hpl, hk1⟩
  have c1 := c1 k1 (by omega)
  have b1 := fold_bd (tapeV l k1) 9 (by omega)
  generalize fold (tapeV l k1) 9 = gi at c1 b1
  have wg : IntKind.i64.wrap (1 + gi) = 1 + gi := w64 (by omega) (by omega)
  simp +decide -dsimp -implicitDefEqProofs [go_sem, tapeO_ren]
  refine callE_frame [0] c1 rfl rfl (by simp) (by simp +decide -dsimp -implicitDefEqProofs [go_sem]) (by simp +decide -dsimp -implicitDefEqProofs [go_sem, tapeO_ren]) ?_
  simp +decide -dsimp -implicitDefEqProofs [go_sem, tapeO_ren, wg]
  refine callE_frameR [0] (mRecord_c l (k1 + 1) p (1 + gi) (by omega) hpl (by omega)) rfl (fun v G ⟨_, _, _, hG, _⟩ => by rw [hG]; rfl) (by simp) (by simp +decide -dsimp -implicitDefEqProofs [go_sem]) (by simp +decide -dsimp -implicitDefEqProofs [go_sem, tapeO_ren]) ?_
  rintro _ _ ⟨r, k2, rfl, rfl, hS, hrp, _, hk2⟩
  have hsm := small_of hS
  have hpp := path_small (sound_place hS)
  have hpl' := sound_place hS
  have hes := enc_small hS
  have hep := enc_pos r
  have hne : ¬ encT r = [] := enc_ne r
  have ce := Encode_c r hsm.few
  rw [(chk_ok hS).1, (chk_ok hS).2] at ce
  have cn := Entry_c r.path (by omega)
  unfold entV at cn
  simp only [hpl', if_true] at cn
  have ck := Fold_c n ((encT r).length : Int) (by omega)
  have bk := fold_bd n ((encT r).length : Int) (by omega)
  obtain ⟨k, hk⟩ : ∃ k : Nat, fold n ((encT r).length : Int) = k := ⟨_, (Int.toNat_of_nonneg bk.1).symm⟩
  rw [hk] at ck bk
  have hkl : k < (encT r).length := by omega
  have htk : ((encT r).take k).length ≤ 40000 := by rw [List.length_take]; omega
  have cL := Load_c [(entL r.path, (encT r).take k)] (by simp)
  rw [loadM_one] at cL
  have hF := one_fine hS htk
  have hF2 := one_fine hS hes
  obtain ⟨r0, b0, hr0, cG⟩ := Get_c [some (entL r.path, (encT r).take k)] [some (entL r.path, (encT r).take k)] [] r.path hpl' (by omega) (by simp only [getS, if_true, Option.getD_some]; omega)
  have hw0 := dmg_not hS hkl
  have hb0 := readOf_iff hr0
  obtain rfl : b0 = false := by
    cases b0 with
    | false => rfl
    | true => exact (hw0 (hb0.1 rfl)).elim
  have cA := All_c [some (entL r.path, (encT r).take k)] [some (entL r.path, (encT r).take k)] [] hF (by omega)
  have hA := fun l => all_none hS hkl (l := l)
  have cD := Damaged_c [some (entL r.path, (encT r).take k)] [some (entL r.path, (encT r).take k)] [] hF (by omega)
  rw [dmg_one hS hkl] at cD
  have cT := sameTexts_c [entL r.path] [entL r.path] (by simp) (by simp)
  rw [decide_eq_true rfl] at cT
  have cP := Put_c [some (entL r.path, (encT r).take k)] [some (entL r.path, (encT r).take k)] [] r hS (by simp) (by simp [cntS])
  have hset : setS (entL r.path) (encT r) [some (entL r.path, (encT r).take k)] = [some (entL r.path, encT r)] := by simp [setS]
  rw [hset] at cP
  obtain ⟨r1, b1, hr1, cG1⟩ := Get_c [some (entL r.path, (encT r).take k)] [some (entL r.path, encT r)] ([] ++ [(entL r.path, some (encT r))]) r.path hpl' (by omega) (by simp only [getS, if_true, Option.getD_some]; omega)
  obtain ⟨rfl, rfl⟩ : r1 = r ∧ b1 = true := by
    rcases hr1 with ⟨x, h1, h2, _, rfl, rfl⟩ | ⟨hno, _, _⟩
    · simp only [getS, if_true, Option.getD_some] at h2
      exact ⟨enc_inj h1 hS h2, rfl⟩
    · exact (hno r hS (by simp [getS]) rfl).elim
  have cS := rSame_c r1 r1 (small_of hS).few.fit (small_of hS).few.fit
  rw [decide_eq_true rfl] at cS
  have cD2 := Damaged_c [some (entL r1.path, (encT r1).take k)] [some (entL r1.path, encT r1)] ([] ++ [(entL r1.path, some (encT r1))]) hF2 (by omega)
  rw [dmg_none hS] at cD2
  have cC := (Clean_c [some (entL r1.path, (encT r1).take k)] [some (entL r1.path, encT r1)] ([] ++ [(entL r1.path, some (encT r1))]) (entL r1.path) hF2 (by simp)).2 (.inr (whole_one hS))
  have hdel : delS (entL r1.path) [some (entL r1.path, (encT r1).take k)] = [none] := by simp [delS]
  have cX := (Delete_c [some (entL r1.path, (encT r1).take k)] [some (entL r1.path, (encT r1).take k)] [] r1.path hpl' (by omega) (by simp)).1 (by simp [getS])
  rw [hdel] at cX
  have hF3 : Fine [none] 1 := by have := hF.del (entL r1.path); rwa [hdel] at this
  have cE := hF3.ents (dur := [some (entL r1.path, (encT r1).take k)]) (pend := [] ++ [(entL r1.path, none)]) (by omega)
  rw [ents_gone] at cE
  have cC2 := (Clean_c [some (entL r1.path, (encT r1).take k)] [some (entL r1.path, (encT r1).take k)] [] (entL r1.path) hF (by simp)).1 ⟨by simp [getS], hw0⟩
  rw [hdel] at cC2
  have cC3 := (Clean_c [some (entL r1.path, (encT r1).take k)] [none] ([] ++ [(entL r1.path, none)]) (entL r1.path) hF3 (by simp)).2 (.inl (by simp [getS]))
  unfold entsV at cE
  clear hr0 hb0 hw0 hF hF2 hF3 hset hdel hk
  generalize hw1 : (entL r1.path, some (encT r1)) = w1 at *
  generalize hw2 : (entL r1.path, (none : Option (List UInt8))) = w2 at *
  clear hw1 hw2
  generalize entL r1.path = A at *
  have hlen : ((encT r1).take k).length = k := by rw [List.length_take]; omega
  unfold recV dbO dbB mO at *
  have hwc : ∀ (w : Wr) (r : List (List AV)) (is : List Nat), renLL is (wRow w :: r) = wRow w :: renLL is r := fun w r is => by rw [renLL]; simp [wRow, renL, wAV_ren]
  simp only [List.nil_append, List.map_cons, List.map_nil, List.length_nil, List.length_cons] at *
  rw [hrow] at ce cG1 cP cS ⊢
  simp +decide -dsimp -implicitDefEqProofs [go_sem, tapeO_ren, renLL_sRows, renLL_aRows]
  refine callE_pure ce (by simp +decide -dsimp -implicitDefEqProofs [go_sem]) rfl ?_
  simp +decide -dsimp -implicitDefEqProofs [go_sem]
  refine callE_pure cn rfl rfl ?_
  simp +decide -dsimp -implicitDefEqProofs [go_sem, hne]
  refine callE_pure ck rfl rfl ?_
  simp +decide -dsimp -implicitDefEqProofs [go_sem]
  refine ⟨by omega, ?_⟩
  refine callE_grow [] 4 cL rfl (fun v G h => by rw [h.2]; rfl) (by show (List.range' 2 4).Nodup; decide) (by show [AV.imm _] = renL _ [AV.imm _]; rfl) (by simp) ?_
  rintro _ _ ⟨rfl, rfl⟩
  simp +decide -dsimp -implicitDefEqProofs [go_sem, hsr, hn0]
  refine callE_frame [2, 3, 4, 5] cG rfl rfl (by simp) (by simp +decide -dsimp -implicitDefEqProofs [go_sem]) (by simp +decide -dsimp -implicitDefEqProofs [go_sem, hsr, hn0]) ?_
  simp +decide -dsimp -implicitDefEqProofs [go_sem, hsr, hn0, rRow_len, rRow_ren]
  refine callE_frameR [2, 3, 4, 5] cA rfl (fun v G h => by rw [h.1]; rfl) (by simp) (by simp +decide -dsimp -implicitDefEqProofs [go_sem]) (by simp +decide -dsimp -implicitDefEqProofs [go_sem, hsr, hn0]) ?_
  rintro _ _ ⟨rfl, all, hall, rfl⟩
  obtain rfl := hA all hall
  simp +decide -dsimp -implicitDefEqProofs [go_sem, hsr, hn0]
  refine callE_frame [2, 3, 4, 5] cD rfl rfl (by simp) (by simp +decide -dsimp -implicitDefEqProofs [go_sem]) (by simp +decide -dsimp -implicitDefEqProofs [go_sem, hsr, hn0]) ?_
  simp +decide -dsimp -implicitDefEqProofs [go_sem, hsr, hn0, sRow]
  refine callE_pure cT rfl rfl ?_
  simp +decide -dsimp -implicitDefEqProofs [go_sem]
  refine callE_pure cf rfl rfl ?_
  by_cases g0 : g = 0
  · subst g0
    simp +decide -dsimp -implicitDefEqProofs [go_sem]
    refine callE_frame [2, 3, 4, 5] cP rfl rfl (by simp) (by simp +decide -dsimp -implicitDefEqProofs [go_sem, renLL_sRows, renLL_aRows]) (by simp +decide -dsimp -implicitDefEqProofs [go_sem, hsr, hn0]) ?_
    simp +decide -dsimp -implicitDefEqProofs [go_sem, hsr, hn0, hwc]
    refine callE_frame [2, 3, 4, 5] cG1 rfl rfl (by simp) (by simp +decide -dsimp -implicitDefEqProofs [go_sem]) (by simp +decide -dsimp -implicitDefEqProofs [go_sem, hsr, hn0, hwc]) ?_
    simp +decide -dsimp -implicitDefEqProofs [go_sem, hsr, hn0, hwc, renLL_sRows, renLL_aRows]
    refine callE_pure cS (by simp +decide -dsimp -implicitDefEqProofs [go_sem]) rfl ?_
    simp +decide -dsimp -implicitDefEqProofs [go_sem]
    refine callE_frame [2, 3, 4, 5] cD2 rfl rfl (by simp) (by simp +decide -dsimp -implicitDefEqProofs [go_sem]) (by simp +decide -dsimp -implicitDefEqProofs [go_sem, hsr, hn0, hwc]) ?_
    simp +decide -dsimp -implicitDefEqProofs [go_sem, hsr, hn0, hwc]
    refine callE_frame [2, 3, 4, 5] cC rfl rfl (by simp) (by simp +decide -dsimp -implicitDefEqProofs [go_sem]) (by simp +decide -dsimp -implicitDefEqProofs [go_sem, hsr, hn0, hwc]) ?_
    simp +decide -dsimp -implicitDefEqProofs [go_sem, hsr, hn0, hwc]
    refine callE_pure known_c rfl rfl ?_
    simp +decide -dsimp -implicitDefEqProofs [go_sem]
  by_cases g1 : g = 1
  · subst g1
    simp +decide -dsimp -implicitDefEqProofs [go_sem]
    refine callE_frame [2, 3, 4, 5] cX rfl rfl (by simp) (by simp +decide -dsimp -implicitDefEqProofs [go_sem]) (by simp +decide -dsimp -implicitDefEqProofs [go_sem, hsr, hn0]) ?_
    simp +decide -dsimp -implicitDefEqProofs [go_sem, hsr, hn0, hwc]
    refine callE_frame [2, 3, 4, 5] cE rfl rfl (by simp) (by simp +decide -dsimp -implicitDefEqProofs [go_sem]) (by simp +decide -dsimp -implicitDefEqProofs [go_sem, hsr, hn0, hwc]) ?_
    simp +decide -dsimp -implicitDefEqProofs [go_sem, hsr, hn0, hwc]
    refine callE_pure known_c rfl rfl ?_
    simp +decide -dsimp -implicitDefEqProofs [go_sem]
  simp +decide -dsimp -implicitDefEqProofs [go_sem, g0, g1]
  refine callE_frame [2, 3, 4, 5] cC2 rfl rfl (by simp) (by simp +decide -dsimp -implicitDefEqProofs [go_sem]) (by simp +decide -dsimp -implicitDefEqProofs [go_sem, hsr, hn0]) ?_
  simp +decide -dsimp -implicitDefEqProofs [go_sem, hsr, hn0, hwc]
  refine callE_frame [2, 3, 4, 5] cE rfl rfl (by simp) (by simp +decide -dsimp -implicitDefEqProofs [go_sem]) (by simp +decide -dsimp -implicitDefEqProofs [go_sem, hsr, hn0, hwc]) ?_
  simp +decide -dsimp -implicitDefEqProofs [go_sem, hsr, hn0, hwc]
  refine callE_frame [2, 3, 4, 5] cC3 rfl rfl (by simp) (by simp +decide -dsimp -implicitDefEqProofs [go_sem]) (by simp +decide -dsimp -implicitDefEqProofs [go_sem, hsr, hn0, hwc]) ?_
  simp +decide -dsimp -implicitDefEqProofs [go_sem, hsr, hn0, hwc]
  refine callE_pure known_c rfl rfl ?_
  simp +decide -dsimp -implicitDefEqProofs [go_sem]
end Go.Ab
