/- The order of devices: what two tables hold. -/
import Derived.Test.YtfgannpogjphoaaGreatDoorEB
import Derived.Test.YtfgannpogjphoaaGreatDoorC1
namespace Go.Ab
open Go Go.Proofs Go.Sort
set_option maxRecDepth 20000
def dev (c : Cal) : Dv := (c.p, ⟨c.node, setT c.links, c.prio⟩)
def zzP : Txt := [47, 122, 122]
def zzN : Txt := [122, 122]
def prs : List (Txt × Txt) := [([47, 112, 47, 97], [97]), ([47, 112, 47, 98], [98]), ([47, 112, 47, 99], [99]), ([47, 113], [110, 47, 100])]
theorem prs_inj : ∀ a ∈ (zzP, zzN) :: prs, ∀ b ∈ (zzP, zzN) :: prs, a.2 = b.2 → a.1 = b.1 := by decide
theorem prs_zz : ∀ a ∈ prs, a.1 ≠ zzP := by decide
theorem set_mem {w : List Dv} {c : Cal} (ho : okSet c.p c.node c.links c.prio = true) (hc : clashW w c.p c.node = false) {d : Dv} : d ∈ setW w c.p c.node c.links c.prio ↔ d = dev c ∨ (d ∈ w ∧ d.1 ≠ c.p) := by
  unfold setW
  rw [if_pos ⟨ho, hc⟩, insD_mem]
  simp [dropD, dev]
theorem set_ok {w : List Dv} {c : Cal} (ho : okSet c.p c.node c.links c.prio = true) (hc : clashW w c.p c.node = false) : setE w c.p c.node c.links c.prio = 0 := by
  unfold setE; rw [if_pos ho, hc]; rfl
theorem set_no {w : List Dv} {c : Cal} (ho : okSet c.p c.node c.links c.prio = false) : setW w c.p c.node c.links c.prio = w ∧ setE w c.p c.node c.links c.prio = 210 := by
  unfold setW setE; simp [ho]
theorem no_clash {w : List Dv} {p n : Txt} (hw : ∀ d ∈ w, (d.1, d.2.node) ∈ (zzP, zzN) :: prs) (hp : (p, n) ∈ (zzP, zzN) :: prs) : clashW w p n = false := by
  rw [clashW, List.any_eq_false]
  intro d hd
  by_cases e : d.2.node = n
  · have hpe : d.1 = p := prs_inj _ (hw d hd) _ hp e
    simp [hpe]
  · simp [e]
/-- The first table: the calls that were taken, and the devices. -/
structure OA (i : Nat) (lst : List Cal) (w : List Dv) : Prop where
  m : ∀ d, d ∈ w ↔ ∃ c ∈ lst, d = dev c
  p : ∀ c ∈ lst, (c.p, c.node) ∈ prs.take i
  o : ∀ c ∈ lst, okSet c.p c.node c.links c.prio = true
  n : lst.Pairwise fun a b => a.p ≠ b.p
  k : ∀ c ∈ lst, CalOk puS uS c
  l : lst.length ≤ i
theorem OA.nil : OA 0 [] [] := ⟨by simp, by simp, by simp, .nil, by simp, by simp⟩
theorem OA.good {i : Nat} {lst : List Cal} {w : List Dv} (h : OA i lst w) : ∀ d ∈ w, (d.1, d.2.node) ∈ (zzP, zzN) :: prs := fun d hd => by
  obtain ⟨c, hc, rfl⟩ := (h.m d).1 hd
  exact List.mem_cons_of_mem _ (List.mem_of_mem_take (h.p c hc))
theorem prs_at : ∀ i (h : i < prs.length), ∀ a ∈ prs.take i, a.1 ≠ prs[i].1 := by decide
theorem OA.skip {i : Nat} {lst : List Cal} {w : List Dv} (h : OA i lst w) : OA (i + 1) lst w :=
  ⟨h.m, fun c hc => (List.take_subset_take_left _ (Nat.le_succ i)) (h.p c hc), h.o, h.n, h.k, Nat.le_succ_of_le h.l⟩
theorem OA.step {i : Nat} {lst : List Cal} {w : List Dv} (h : OA i lst w) (hi : i < prs.length) {c : Cal} (hc : (c.p, c.node) = prs[i]) (ho : okSet c.p c.node c.links c.prio = true) (hk : CalOk puS uS c) :
    clashW w c.p c.node = false ∧ OA (i + 1) (lst ++ [c]) (setW w c.p c.node c.links c.prio) := by
  have hcl : clashW w c.p c.node = false := no_clash h.good (List.mem_cons_of_mem _ (hc ▸ List.getElem_mem hi))
  have hne : ∀ b ∈ lst, b.p ≠ c.p := fun b hb e => by
    have := prs_at i hi _ (h.p b hb)
    rw [← hc] at this
    exact this e
  have hin : (c.p, c.node) ∈ prs.take (i + 1) := by
    rw [List.take_succ_eq_append_getElem hi, hc]; exact List.mem_append_right _ (List.mem_singleton.2 rfl)
  refine ⟨hcl, fun d => ?_, fun b hb => ?_, fun b hb => ?_, ?_, fun b hb => ?_, by rw [List.length_append]; simpa using h.l⟩
  · rw [set_mem ho hcl]
    constructor
    · rintro (rfl | ⟨h1, h2⟩)
      · exact ⟨c, by simp, rfl⟩
      · obtain ⟨b, hb, rfl⟩ := (h.m d).1 h1
        exact ⟨b, by simp [hb], rfl⟩
    · rintro ⟨b, hb, rfl⟩
      rcases List.mem_append.1 hb with hb | hb
      · exact .inr ⟨(h.m _).2 ⟨b, hb, rfl⟩, hne b hb⟩
      · simp at hb; subst hb; exact .inl rfl
  · rcases List.mem_append.1 hb with hb | hb
    · exact h.skip.p b hb
    · simp at hb; subst hb; exact hin
  · rcases List.mem_append.1 hb with hb | hb
    · exact h.o b hb
    · simp at hb; subst hb; exact ho
  · rw [List.pairwise_append]
    exact ⟨h.n, by simp, fun a ha b hb => by simp at hb; subst hb; exact hne a ha⟩
  · rcases List.mem_append.1 hb with hb | hb
    · exact h.k b hb
    · simp at hb; subst hb; exact hk
/-- The second table: its devices stand at the paths of the calls. -/
structure OB (lst : List Cal) (w : List Dv) : Prop where
  m : ∀ d ∈ w, d.1 = zzP ∧ d.2.node = zzN ∨ ∃ c ∈ lst, d.1 = c.p ∧ d.2.node = c.node
  z : ∃ d ∈ w, d.1 = zzP
theorem OB.good {i : Nat} {lst : List Cal} {wa w : List Dv} (ha : OA i lst wa) (h : OB lst w) : ∀ d ∈ w, (d.1, d.2.node) ∈ (zzP, zzN) :: prs := fun d hd => by
  rcases h.m d hd with ⟨h1, h2⟩ | ⟨c, hc, h1, h2⟩
  · rw [h1, h2]; simp
  · rw [h1, h2]; exact List.mem_cons_of_mem _ (List.mem_of_mem_take (ha.p c hc))
theorem OB.step {i : Nat} {lst : List Cal} {wa w : List Dv} (ha : OA i lst wa) (h : OB lst w) {b c : Cal} (hb : b ∈ lst) (hp : c.p = b.p) (hn : c.node = b.node) : clashW w c.p c.node = false ∧ OB lst (setW w c.p c.node c.links c.prio) := by
  have hin : (c.p, c.node) ∈ (zzP, zzN) :: prs := by rw [hp, hn]; exact List.mem_cons_of_mem _ (List.mem_of_mem_take (ha.p b hb))
  have hcl := no_clash (h.good ha) hin
  refine ⟨hcl, ?_⟩
  cases ho : okSet c.p c.node c.links c.prio with
  | false => rw [(set_no ho).1]; exact h
  | true =>
    refine ⟨fun d hd => ?_, ?_⟩
    · rcases (set_mem ho hcl).1 hd with rfl | ⟨h1, _⟩
      · exact .inr ⟨b, hb, hp, hn⟩
      · exact h.m d h1
    · obtain ⟨d, hd, hz⟩ := h.z
      refine ⟨d, (set_mem ho hcl).2 (.inr ⟨hd, fun e => ?_⟩), hz⟩
      have := prs_zz _ (List.mem_of_mem_take (ha.p b hb))
      exact this (by rw [← hz, e, hp])
/-- Calls that are done are there. -/
theorem OB.done {i : Nat} {lst : List Cal} {wa w : List Dv} (ha : OA i lst wa) (h : OB lst w) {b c : Cal} (hc : c ∈ lst) (hb : b ∈ lst) (hd : dev b ∈ w) : dev b ∈ setW w c.p c.node c.links c.prio := by
  have hs := h.step ha hc rfl rfl
  refine (set_mem (ha.o c hc) hs.1).2 ?_
  by_cases e : b.p = c.p
  · have : b = c := by
      obtain ⟨j, hj, rfl⟩ := List.mem_iff_getElem.1 hb
      obtain ⟨k, hk, rfl⟩ := List.mem_iff_getElem.1 hc
      have hpw := List.pairwise_iff_getElem.1 ha.n
      rcases Nat.lt_trichotomy j k with h1 | h1 | h1
      · exact absurd e (hpw j k hj hk h1)
      · subst h1; rfl
      · exact absurd e.symm (hpw k j hk hj h1)
    subst this; exact .inl rfl
  · exact .inr ⟨hd, e⟩
theorem OB.now {i : Nat} {lst : List Cal} {wa w : List Dv} (ha : OA i lst wa) (h : OB lst w) {c : Cal} (hc : c ∈ lst) : dev c ∈ setW w c.p c.node c.links c.prio :=
  (set_mem (ha.o c hc) (h.step ha hc rfl rfl).1).2 (.inl rfl)
theorem OB.fin {i : Nat} {lst : List Cal} {wa w : List Dv} (ha : OA i lst wa) (h : OB lst w) (hwa : TabW placeB ltP wa) (hw : TabW placeB ltP w) (hall : ∀ c ∈ lst, dev c ∈ w) : dropD w zzP = wa := by
  refine asc_ext' (fun a b => pord.asym a.1 b.1) (hw.drop zzP).a hwa.a fun d => ?_
  rw [ha.m]
  simp only [dropD, List.mem_filter, Bool.not_eq_true', decide_eq_false_iff_not]
  constructor
  · rintro ⟨h1, h2⟩
    rcases h.m d h1 with ⟨h3, _⟩ | ⟨c, hc, h3, _⟩
    · exact absurd h3 h2
    · exact ⟨c, hc, hw.path_inj pord h1 (hall c hc) h3⟩
  · rintro ⟨c, hc, rfl⟩
    exact ⟨hall c hc, prs_zz _ (List.mem_of_mem_take (ha.p c hc))⟩
theorem rot_all {n t j : Nat} (hj : j < n) (ht : t ≤ n) : ∃ i, i < n ∧ (i + t) % n = j := by
  by_cases h : t ≤ j
  · exact ⟨j - t, by omega, by rw [Nat.sub_add_cancel h, Nat.mod_eq_of_lt hj]⟩
  · refine ⟨j + n - t, by omega, ?_⟩
    rw [show j + n - t + t = j + n by omega, Nat.add_mod_right, Nat.mod_eq_of_lt hj]
end Go.Ab
namespace Go.Ab
open Go Go.Proofs
def c3 : AFn := ⟨(.seq (.ops [⟨(some 2), (.mov (.v (.bool false))), none⟩]) (.seq (.ops [⟨(some 16), (.mov (.t 0)), none⟩, ⟨(some 17), (.build [.nils, (.int .i64 0)] [(0, (1, (.t 16)))]), none⟩, ⟨(some 18), (.box 25 (.t 17)), none⟩, ⟨(some 3), (.mov (.t 18)), none⟩]) (.seq (.ops [⟨(some 19), (.call (.v (.fn (.func 10) [] [])) []), none⟩, ⟨(some 20), (.call (.v (.fn (.func 10) [] [])) []), none⟩, ⟨(some 4), (.mov (.t 19)), none⟩, ⟨(some 5), (.mov (.t 20)), none⟩]) (.seq (.seq (.ops [⟨(some 21), (.call (.v (.fn (.func 11) [] [])) []), none⟩, ⟨(some 22), (.un .not (.t 21)), none⟩, ⟨(some 23), (.mov (.t 22)), none⟩, ⟨(some 24), (.mov (.t 4)), (some (23, false))⟩, ⟨(some 25), (.ext (.pnil false) [(.t 24)]), (some (23, false))⟩, ⟨(some 26), (.pick (.t 23) (.v (.bool true)) (.t 25)), none⟩, ⟨(some 27), (.mov (.t 26)), none⟩, ⟨(some 28), (.mov (.t 5)), (some (27, false))⟩, ⟨(some 29), (.ext (.pnil false) [(.t 28)]), (some (27, false))⟩, ⟨(some 30), (.pick (.t 27) (.v (.bool true)) (.t 29)), none⟩]) (.cond (.t 30) (.seq (.ops [⟨(some 2), (.mov (.v (.bool false))), none⟩]) .ret) .skip)) (.seq (.ops [⟨(some 31), (.bslice 9 1 false [(.v (.str [47, 112, 47, 97])), (.v (.str [47, 112, 47, 98])), (.v (.str [47, 112, 47, 99])), (.v (.str [47, 113]))]), none⟩, ⟨(some 6), (.mov (.t 31)), none⟩]) (.seq (.ops [⟨(some 32), (.bslice 9 1 false [(.v (.str [97])), (.v (.str [98])), (.v (.str [99])), (.v (.str [110, 47, 100]))]), none⟩, ⟨(some 7), (.mov (.t 32)), none⟩]) (.seq (.ops [⟨(some 8), (.mov (.v .nils)), none⟩]) (.seq (.seq (.ops [⟨(some 9), (.mov (.v (.int .i64 0))), none⟩]) (.block 0 (.loop (.seq (.seq (.ops [⟨(some 33), (.mov (.t 9)), none⟩, ⟨(some 34), (.mov (.t 6)), none⟩, ⟨(some 35), (.len .sl (.t 34)), none⟩, ⟨(some 36), (.bin .lss (.t 33) (.t 35)), none⟩]) (.cond (.t 36) .skip (.exit 0))) (.seq (.block 1 (.seq (.ops [⟨(some 39), (.mov (.t 3)), none⟩, ⟨(some 40), (.call (.v (.fn (.func 12) [] [])) [(.t 39)]), none⟩, ⟨(some 10), (.alloc 32 [(.bool false), (.str []), (.str []), .nils, (.int .i64 0)]), none⟩, ⟨none, (.store (some 5) (.t 10) (.t 40)), none⟩]) (.seq (.draw [⟨(some 41), (.mov (.t 6)), none⟩, ⟨(some 42), (.mov (.t 9)), none⟩, ⟨(some 43), (.iaddr none 1 (.t 41) (.t 42)), none⟩, ⟨(some 44), (.load none (.t 43)), none⟩, ⟨(some 45), (.mov (.t 7)), none⟩, ⟨(some 46), (.mov (.t 9)), none⟩, ⟨(some 47), (.iaddr none 1 (.t 45) (.t 46)), none⟩, ⟨(some 48), (.load none (.t 47)), none⟩, ⟨(some 49), (.faddr 1 (.t 10)), none⟩, ⟨none, (.store none (.t 49) (.t 44)), none⟩, ⟨(some 50), (.faddr 2 (.t 10)), none⟩, ⟨none, (.store none (.t 50) (.t 48)), none⟩, ⟨(some 51), (.faddr 0 (.t 10)), none⟩, ⟨none, (.store none (.t 51) (.v (.bool false))), none⟩] [0, 0, 3, 7, 0, 0, 48, 112, 15, 271, 1023, 2047, 4095, 8191]) (.seq (.ops [⟨(some 52), (.mov (.t 4)), none⟩, ⟨(some 53), (.faddr 1 (.t 10)), none⟩, ⟨(some 54), (.load none (.t 53)), none⟩, ⟨(some 55), (.faddr 2 (.t 10)), none⟩, ⟨(some 56), (.load none (.t 55)), none⟩, ⟨(some 57), (.faddr 3 (.t 10)), none⟩, ⟨(some 58), (.load none (.t 57)), none⟩, ⟨(some 59), (.faddr 4 (.t 10)), none⟩, ⟨(some 60), (.load none (.t 59)), none⟩, ⟨(some 61), (.call (.v (.fn (.func 13) [] [])) [(.t 52), (.t 54), (.t 56), (.t 58), (.t 60)]), none⟩, ⟨(some 62), (.bin .eql (.t 61) (.v (.int .i64 0))), none⟩]) (.cond (.t 62) (.ops [⟨(some 63), (.mov (.t 8)), none⟩, ⟨(some 64), (.load (some 5) (.t 10)), none⟩, ⟨(some 65), (.bslice 32 5 false [(.t 64)]), none⟩, ⟨(some 66), (.append 32 5 72 (.t 63) (.t 65)), none⟩, ⟨(some 8), (.mov (.t 66)), none⟩]) .skip))))) (.ops [⟨(some 37), (.mov (.t 9)), none⟩, ⟨(some 38), (.bin .add (.t 37) (.v (.int .i64 1))), none⟩, ⟨(some 9), (.mov (.t 38)), none⟩])))))) (.seq (.ops [⟨(some 67), (.mov (.t 5)), none⟩, ⟨(some 68), (.bslice 9 1 false [(.v (.str [100, 47, 120])), (.v (.str [122]))]), none⟩, ⟨(some 69), (.call (.v (.fn (.func 13) [] [])) [(.t 67), (.v (.str [47, 122, 122])), (.v (.str [122, 122])), (.t 68), (.v (.int .i64 9))]), none⟩]) (.seq (.seq (.ops [⟨(some 11), (.mov (.v (.int .i64 0))), none⟩]) (.block 2 (.loop (.seq (.seq (.ops [⟨(some 70), (.mov (.t 11)), none⟩, ⟨(some 71), (.mov (.t 8)), none⟩, ⟨(some 72), (.len .sl (.t 71)), none⟩, ⟨(some 73), (.bin .lss (.t 70) (.t 72)), none⟩]) (.cond (.t 73) .skip (.exit 2))) (.seq (.block 3 (.seq (.ops [⟨(some 76), (.mov (.t 3)), none⟩, ⟨(some 77), (.call (.v (.fn (.func 12) [] [])) [(.t 76)]), none⟩, ⟨(some 12), (.alloc 32 [(.bool false), (.str []), (.str []), .nils, (.int .i64 0)]), none⟩, ⟨none, (.store (some 5) (.t 12) (.t 77)), none⟩]) (.draw [⟨(some 78), (.mov (.t 5)), none⟩, ⟨(some 79), (.mov (.t 8)), none⟩, ⟨(some 80), (.mov (.t 11)), none⟩, ⟨(some 81), (.iaddr none 5 (.t 79) (.t 80)), none⟩, ⟨(some 82), (.faddr 1 (.t 81)), none⟩, ⟨(some 83), (.load none (.t 82)), none⟩, ⟨(some 84), (.mov (.t 8)), none⟩, ⟨(some 85), (.mov (.t 11)), none⟩, ⟨(some 86), (.iaddr none 5 (.t 84) (.t 85)), none⟩, ⟨(some 87), (.faddr 2 (.t 86)), none⟩, ⟨(some 88), (.load none (.t 87)), none⟩, ⟨(some 89), (.faddr 3 (.t 12)), none⟩, ⟨(some 90), (.load none (.t 89)), none⟩, ⟨(some 91), (.faddr 4 (.t 12)), none⟩, ⟨(some 92), (.load none (.t 91)), none⟩, ⟨(some 93), (.call (.v (.fn (.func 13) [] [])) [(.t 78), (.t 83), (.t 88), (.t 90), (.t 92)]), none⟩] [0, 0, 0, 6, 14, 30, 0, 0, 192, 448, 960, 0, 2048, 0, 8192, 32767]))) (.ops [⟨(some 74), (.mov (.t 11)), none⟩, ⟨(some 75), (.bin .add (.t 74) (.v (.int .i64 1))), none⟩, ⟨(some 11), (.mov (.t 75)), none⟩])))))) (.seq (.ops [⟨(some 94), (.mov (.t 3)), none⟩, ⟨(some 95), (.mov (.t 8)), none⟩, ⟨(some 96), (.len .sl (.t 95)), none⟩, ⟨(some 97), (.bin .add (.t 96) (.v (.int .i64 1))), none⟩, ⟨(some 98), (.call (.v (.fn (.func 14) [] [])) [(.t 94), (.t 97)]), none⟩, ⟨(some 13), (.mov (.t 98)), none⟩]) (.seq (.seq (.ops [⟨(some 14), (.mov (.v (.int .i64 0))), none⟩]) (.block 4 (.loop (.seq (.seq (.ops [⟨(some 99), (.mov (.t 14)), none⟩, ⟨(some 100), (.mov (.t 8)), none⟩, ⟨(some 101), (.len .sl (.t 100)), none⟩, ⟨(some 102), (.bin .lss (.t 99) (.t 101)), none⟩]) (.cond (.t 102) .skip (.exit 4))) (.seq (.block 5 (.seq (.ops [⟨(some 105), (.mov (.t 8)), none⟩, ⟨(some 106), (.mov (.t 14)), none⟩, ⟨(some 107), (.mov (.t 13)), none⟩, ⟨(some 108), (.bin .add (.t 106) (.t 107)), none⟩, ⟨(some 109), (.mov (.t 8)), none⟩, ⟨(some 110), (.len .sl (.t 109)), none⟩, ⟨(some 111), (.bin .rem (.t 108) (.t 110)), none⟩, ⟨(some 112), (.iaddr none 5 (.t 105) (.t 111)), none⟩, ⟨(some 113), (.load (some 5) (.t 112)), none⟩, ⟨(some 15), (.alloc 32 [(.bool false), (.str []), (.str []), .nils, (.int .i64 0)]), none⟩, ⟨none, (.store (some 5) (.t 15) (.t 113)), none⟩]) (.seq (.ops [⟨(some 114), (.mov (.t 5)), none⟩, ⟨(some 115), (.faddr 1 (.t 15)), none⟩, ⟨(some 116), (.load none (.t 115)), none⟩, ⟨(some 117), (.faddr 2 (.t 15)), none⟩, ⟨(some 118), (.load none (.t 117)), none⟩, ⟨(some 119), (.faddr 3 (.t 15)), none⟩, ⟨(some 120), (.load none (.t 119)), none⟩, ⟨(some 121), (.faddr 4 (.t 15)), none⟩, ⟨(some 122), (.load none (.t 121)), none⟩, ⟨(some 123), (.call (.v (.fn (.func 13) [] [])) [(.t 114), (.t 116), (.t 118), (.t 120), (.t 122)]), none⟩, ⟨(some 124), (.bin .neq (.t 123) (.v (.int .i64 0))), none⟩]) (.cond (.t 124) (.seq (.ops [⟨(some 2), (.mov (.v (.bool false))), none⟩]) .ret) .skip)))) (.ops [⟨(some 103), (.mov (.t 14)), none⟩, ⟨(some 104), (.bin .add (.t 103) (.v (.int .i64 1))), none⟩, ⟨(some 14), (.mov (.t 104)), none⟩])))))) (.seq (.ops [⟨(some 125), (.mov (.t 5)), none⟩, ⟨(some 126), (.call (.v (.fn (.func 15) [] [])) [(.t 125), (.v (.str [47, 122, 122]))]), none⟩, ⟨(some 127), (.bin .eql (.t 126) (.v (.int .i64 0))), none⟩, ⟨(some 128), (.mov (.t 127)), none⟩, ⟨(some 129), (.mov (.t 4)), (some (128, true))⟩, ⟨(some 130), (.call (.v (.fn (.func 17) [] [])) [(.t 129)]), (some (128, true))⟩, ⟨(some 131), (.mov (.t 5)), (some (128, true))⟩, ⟨(some 132), (.call (.v (.fn (.func 17) [] [])) [(.t 131)]), (some (128, true))⟩, ⟨(some 133), (.call (.v (.fn (.func 16) [] [])) [(.t 130), (.t 132)]), (some (128, true))⟩, ⟨(some 134), (.pick (.t 128) (.t 133) (.v (.bool false))), none⟩, ⟨(some 135), (.mov (.t 134)), none⟩, ⟨(some 136), (.mov (.t 4)), (some (135, true))⟩, ⟨(some 137), (.call (.v (.fn (.func 19) [] [])) [(.t 136)]), (some (135, true))⟩, ⟨(some 138), (.mov (.t 5)), (some (135, true))⟩, ⟨(some 139), (.call (.v (.fn (.func 19) [] [])) [(.t 138)]), (some (135, true))⟩, ⟨(some 140), (.call (.v (.fn (.func 18) [] [])) [(.t 137), (.t 139)]), (some (135, true))⟩, ⟨(some 141), (.pick (.t 135) (.t 140) (.v (.bool false))), none⟩, ⟨(some 2), (.mov (.t 141)), none⟩]) .ret))))))))))))), 142, [(.tmp 2)]⟩
theorem c3_ok : compileF Tryz.prog [] 3 = some c3 := by kernel_rfl
end Go.Ab
namespace Go.Ab
open Go Go.Proofs Go.Sort
set_option maxRecDepth 20000
def psO : List Txt := [[47, 112, 47, 97], [47, 112, 47, 98], [47, 112, 47, 99], [47, 113]]
def ndO : List Txt := [[97], [98], [99], [110, 47, 100]]
theorem prs_get : ∀ i (_h1 : i < psO.length) (_h2 : i < ndO.length) (h : i < prs.length), prs[i] = (psO[i], ndO[i]) := by decide
structure RO where
  i : Nat
  k : Nat
  lst : List Cal
  m : SMap Own
  w : List Dv
def cZ : Cal := ⟨false, zzP, zzN, [[100, 47, 120], [122]], 9⟩
theorem ok_cZ : CalOk puS uS cZ := ⟨fun _ => by decide, by decide, by decide, by decide, by decide, by decide⟩
theorem set_cZ : okSet cZ.p cZ.node cZ.links cZ.prio = true := by decide +kernel
theorem calOk_at {c : Cal} (h : CalOk puS uS c) {p n : Txt} (hp : (p, n) ∈ prs) : CalOk puS uS ⟨false, p, n, c.links, c.prio⟩ := by
  have h1 : ∀ a ∈ prs, a.1 ∈ puS ∧ a.1.length ≤ 1000 ∧ a.2.length ≤ 1000 := by decide
  obtain ⟨h2, h3, h4⟩ := h1 _ hp
  exact ⟨fun _ => h2, h.l, h.ll, h3, h4, h.ls⟩
theorem OB.first {lst : List Cal} : OB lst (setW [] cZ.p cZ.node cZ.links cZ.prio) := by
  have hm := fun d => set_mem (w := []) set_cZ (by rfl) (d := d)
  refine ⟨fun d hd => ?_, ⟨dev cZ, (hm _).2 (.inl rfl), rfl⟩⟩
  rcases (hm d).1 hd with rfl | ⟨h, _⟩
  · exact .inl ⟨rfl, rfl⟩
  · cases h
/-- Where nothing clashes, Set's outcome is known ahead. -/
theorem SetD_c {PU U : List Txt} {B : Nat} {m : SMap Own} {w : List Dv} (hF : Few12 PU U) (h : Tbl PU U B m w) (c : Cal) (hc : CalOk PU U c) (hq' : clashW w c.p c.node = false) :
    ∃ m', Tbl PU U (B + 1) m' (setW w c.p c.node c.links c.prio) ∧ ACalls Tryz.prog 13 [.ptr 1 0, .str c.p, .str c.node, .imm (c.links.map sRow), .int .i64 c.prio] (tbO m) (.int .i64 (setE w c.p c.node c.links c.prio)) (tbO m') := by
  have h1 := hc.lp; have h2 := hc.ln; have h3 := hc.ll; have h4 := hc.ls
  unfold setW setE
  cases hok : okSet c.p c.node c.links c.prio with
  | false =>
    exact ⟨m, by simpa using h.le, by simpa using SetBad_c m c.p c.node c.links c.prio (by omega) (by omega) (by omega) (fun x hx => by have := h4 x hx; omega) hok⟩
  | true =>
    have hok2 := hok
    unfold okSet at hok2
    simp only [Bool.and_eq_true, decide_eq_true_eq] at hok2
    obtain ⟨⟨⟨⟨b1, _⟩, _⟩, _⟩, b5⟩ := hok2
    have := h.put hF (p := c.p) (node := c.node) (links := c.links) (prio := c.prio) (hc.p b1) (fun s hs => hc.l s hs (List.all_eq_true.1 b5 s hs)) hc.ln hq'
    refine ⟨_, by simpa [hq'] using this, ACallsR.one ((Set_c m c.p c.node c.links c.prio h.t.o (by omega) (by omega) (by omega) (fun x hx => by have := h4 x hx; omega) hok).mono fun v G hR => ?_)⟩
    rcases hR with ⟨hq, rfl, rfl⟩ | ⟨_, rfl, rfl⟩
    · rw [clash_iff h, hq'] at hq
      cases hq
    · exact ⟨by simp [hq'], rfl⟩
set_option maxHeartbeats 16000000 in
theorem LinkOrder_c (l : List Int) : ACalls Tryz.prog 3 [tapeVs l] [] (.bool true) [] := by
  have hmc := own_clm
  have hmr := own_renK
  have hlr := renLL_lkRows
  have hlc := closedLL_lkRows
  have hcal : ∀ c : Cal, calRow c = [.bool c.drop, .str c.p, .str c.node, .imm (c.links.map sRow), .int .i64 c.prio] := fun _ => rfl
  have hcr : ∀ is (c : Cal), renL is (calRow c) = calRow c := fun is c => by simp [calRow, renL, ren, renLL_sRows]
  have hrr : ∀ is (x : List Cal), renLL is (x.map calRow) = x.map calRow := fun is x => by
    induction x with
    | nil => rfl
    | cons a r ih => rw [List.map_cons, renLL, ih, hcr]
  have hcc : ∀ k (x : List Cal), closedLL k (x.map calRow) = true := fun k x => closedLL_map fun c _ => by simp [calRow, closedL, closed, closedLL_sRows]
  have e1 : [[AV.str [47, 112, 47, 97]], [.str [47, 112, 47, 98]], [.str [47, 112, 47, 99]], [.str [47, 113]]] = psO.map sRow := rfl
  have e2 : [[AV.str [97]], [.str [98]], [.str [99]], [.str [110, 47, 100]]] = ndO.map sRow := rfl
  have eZ : [[AV.str [100, 47, 120]], [.str [122]]] = cZ.links.map sRow := rfl
  have hpl : prs.length = 4 := rfl
  have hpo : psO.length = 4 := rfl
  have hno : ndO.length = 4 := rfl
  refine acalls_F c3_ok rfl ?_
  unfold c3 tapeVs
  simp +decide -dsimp -implicitDefEqProofs [go_sem]
  rw [tape0]
  refine callE_grow [] 2 new_c rfl (fun v G h => by rw [h.2]; rfl) (by show (List.range' 1 2).Nodup; decide) rfl (by simp) ?_
  rintro _ _ ⟨rfl, rfl⟩
  unfold tbO
  simp +decide -dsimp -implicitDefEqProofs [go_sem, hmr, show List.range' 1 2 = [1, 2] from rfl]
  refine callE_grow [] 2 new_c rfl (fun v G h => by rw [h.2]; rfl) (by show (List.range' 3 2).Nodup; decide) rfl (by simp) ?_
  rintro _ _ ⟨rfl, rfl⟩
  unfold tbO
  simp +decide -dsimp -implicitDefEqProofs [go_sem, hmr, show List.range' 3 2 = [3, 4] from rfl]
  refine callE_pure known_c rfl rfl ?_
  simp +decide -dsimp -implicitDefEqProofs [go_sem]
  rw [e1, e2]
  refine loop_of (S := RO) (fun s => ⟨tmps 142 [(3, .ptr 0 0), (4, .ptr 2 0), (5, .ptr 4 0), (6, .imm (psO.map sRow)), (7, .imm (ndO.map sRow)), (8, .own 5 s.lst.length), (9, .int .i64 s.i)], [tapeO l s.k, .map (smK ownV s.m), .box 68 [.map 1], .map (smK ownV []), .box 68 [.map 3], .reg 32 5 (s.lst.map calRow)]⟩) (fun s => 4 - s.i) (fun s => s.i ≤ 4 ∧ s.k ≤ 20 * s.i ∧ Tbl puS uS s.i s.m s.w ∧ OA s.i s.lst s.w) ⟨0, 0, [], [], []⟩ ⟨by simp, by simp, .nil, .nil⟩ ((Wk.nilT 8 32 5 rfl (by simp)).trans (cut_of (by simp) ?_)) ?_
  · simp +decide -dsimp -implicitDefEqProofs [go_sem, tapeO]
  rintro ⟨i, k, lst, m, w⟩ ⟨hi, hk, hT, hA⟩
  simp only at hi hk hT hA
  by_cases h : i < 4
  · have wa : IntKind.i64.wrap ((i : Int) + 1) = i + 1 := w64 (by omega) (by omega)
    have hip : i < prs.length := by omega
    have hi1 : i < psO.length := by omega
    have hi2 : i < ndO.length := by omega
    have hpp := prs_get i hi1 hi2 hip
    have hpr : (psO[i], ndO[i]) ∈ prs := hpp ▸ List.getElem_mem hip
    simp +decide -dsimp -implicitDefEqProofs [go_sem, hi1]
    refine callE_frameR [0] (some_c l k (by omega)) rfl (fun v G ⟨_, _, _, hG, _⟩ => by rw [hG]; rfl) (by simp) (by simp +decide -dsimp -implicitDefEqProofs [go_sem]) (by simp +decide -dsimp -implicitDefEqProofs [go_sem, tapeO_ren]) ?_
    rintro _ _ ⟨c, k', rfl, rfl, hc, hk'⟩
    have hc2 := calOk_at hc hpr
    have hst := fun (ho : okSet psO[i] ndO[i] c.links c.prio = true) => hA.step hip (c := ⟨false, psO[i], ndO[i], c.links, c.prio⟩) hpp.symm ho hc2
    have hbad := @set_no w ⟨false, psO[i], ndO[i], c.links, c.prio⟩
    have hyes := @set_ok w ⟨false, psO[i], ndO[i], c.links, c.prio⟩
    have cS := SetT_c few_s hT (by omega) _ hc2
    have hll := hA.l
    simp only at hst hbad hyes cS
    unfold tbO at cS
    simp +decide -dsimp -implicitDefEqProofs [go_sem, tapeO_ren, hcal, hi1, hi2]
    refine callE_frameR [1, 2] cS rfl (fun v G ⟨_, _, hG, _⟩ => by rw [hG]; rfl) (by simp) (by simp +decide -dsimp -implicitDefEqProofs [go_sem, renLL_sRows]; rfl) (by simp +decide -dsimp -implicitDefEqProofs [go_sem, hmr]) ?_
    rintro _ _ ⟨m', rfl, rfl, hT'⟩
    unfold tbO
    cases ho : okSet psO[i] ndO[i] c.links c.prio with
    | false =>
      obtain ⟨n1, n2⟩ := hbad ho
      rw [n1] at hT'
      simp +decide -dsimp -implicitDefEqProofs [go_sem, hmr, n2, wa]
      refine next_of ⟨i + 1, k', lst, m', w⟩ ⟨by show i + 1 ≤ 4; omega, by show k' ≤ 20 * (i + 1); omega, hT', hA.skip⟩ (by show 4 - (i + 1) < 4 - i; omega) (cut_of (by simp) ?_)
      simp +decide -dsimp -implicitDefEqProofs [go_sem, tapeO, hcc]
      exact hmc _ _
    | true =>
      obtain ⟨n1, n2⟩ := hst ho
      have n3 := hyes ho n1
      have hlm : (lst ++ [(⟨false, psO[i], ndO[i], c.links, c.prio⟩ : Cal)]).map calRow = lst.map calRow ++ [[.bool false, .str psO[i], .str ndO[i], .imm (c.links.map sRow), .int .i64 c.prio]] := by rw [List.map_append]; rfl
      simp +decide -dsimp -implicitDefEqProofs [go_sem, hmr, n3, wa, maxLen]
      refine ⟨⟨by omega, by omega⟩, ?_⟩
      refine next_of ⟨i + 1, k', lst ++ [⟨false, psO[i], ndO[i], c.links, c.prio⟩], m', _⟩ ⟨by show i + 1 ≤ 4; omega, by show k' ≤ 20 * (i + 1); omega, hT', n2⟩ (by show 4 - (i + 1) < 4 - i; omega) (cut_of (by simp) ?_)
      rw [hlm]
      simp +decide -dsimp -implicitDefEqProofs [go_sem, tapeO, hcc]
      exact ⟨hmc _ _, rfl⟩
  have e : i = 4 := by omega
  subst e
  have hT0 : Tbl puS uS 0 [] [] := .nil
  have cZs := SetT_c few_s hT0 (by omega) cZ ok_cZ
  have hB0 := OB.first (lst := lst)
  have n0 := hA.l
  have hap := hA.p
  have hinj := hA.n
  generalize hwb : setW [] cZ.p cZ.node cZ.links cZ.prio = wb at cZs hB0
  unfold tbO at cZs
  simp +decide -dsimp -implicitDefEqProofs [go_sem]
  rw [eZ]
  refine callE_frameR [3, 4] cZs rfl (fun v G ⟨_, _, hG, _⟩ => by rw [hG]; rfl) (by simp) (by simp +decide -dsimp -implicitDefEqProofs [go_sem, renLL_sRows]) (by simp +decide -dsimp -implicitDefEqProofs [go_sem, hmr]) ?_
  rintro _ _ ⟨mb, rfl, rfl, hTb⟩
  unfold tbO
  simp +decide -dsimp -implicitDefEqProofs [go_sem, hmr]
  refine loop_of (S := RT) (fun s => ⟨tmps 142 [(3, .ptr 0 0), (4, .ptr 2 0), (5, .ptr 4 0), (8, .own 5 lst.length), (11, .int .i64 s.i)], [tapeO l s.k, .map (smK ownV m), .box 68 [.map 1], .map (smK ownV s.m), .box 68 [.map 3], .reg 32 5 (lst.map calRow)]⟩) (fun s => lst.length - s.i) (fun s => s.i ≤ lst.length ∧ s.k ≤ k + 20 * s.i ∧ Tbl puS uS (1 + s.i) s.m s.w ∧ OB lst s.w) ⟨0, k, mb, wb⟩ ⟨by simp, by simp, hTb, hB0⟩ (cut_of (by simp) ?_) ?_
  · simp +decide -dsimp -implicitDefEqProofs [go_sem, tapeO, hcc]
    exact ⟨hmc _ _, hmc _ _⟩
  rintro ⟨i, k2, m2, w2⟩ ⟨hi2, hk2, hT2, hB2⟩
  simp only at hi2 hk2 hT2 hB2
  by_cases h : i < lst.length
  · have wa : IntKind.i64.wrap ((i : Int) + 1) = i + 1 := w64 (by omega) (by omega)
    have hat : (lst.map calRow)[i]? = some (calRow lst[i]) := by simp [h]
    have hm : lst[i] ∈ lst := List.getElem_mem h
    have hpr : (lst[i].p, lst[i].node) ∈ prs := List.mem_of_mem_take (hap _ hm)
    simp +decide -dsimp -implicitDefEqProofs [go_sem, h]
    refine callE_frameR [0] (some_c l k2 (by omega)) rfl (fun v G ⟨_, _, _, hG, _⟩ => by rw [hG]; rfl) (by simp) (by simp +decide -dsimp -implicitDefEqProofs [go_sem]) (by simp +decide -dsimp -implicitDefEqProofs [go_sem, tapeO_ren]) ?_
    rintro _ _ ⟨c, k', rfl, rfl, hc, hk'⟩
    have hc2 := calOk_at hc hpr
    obtain ⟨hcl, hst⟩ := hB2.step hA hm (c := ⟨false, lst[i].p, lst[i].node, c.links, c.prio⟩) rfl rfl
    obtain ⟨m', hT', cS⟩ := SetD_c few_s hT2 _ hc2 hcl
    simp only at hst hT' cS
    unfold tbO at cS
    simp +decide -dsimp -implicitDefEqProofs [go_sem, tapeO_ren, hcal, h]
    refine callDE_frame [3, 4] cS rfl rfl (by simp) (by simp +decide -dsimp -implicitDefEqProofs [go_sem, renLL_sRows]) (by simp +decide -dsimp -implicitDefEqProofs [go_sem, hmr]) ?_
    simp +decide -dsimp -implicitDefEqProofs [go_sem, hmr, wa]
    refine next_of ⟨i + 1, k', m', _⟩ ⟨by show i + 1 ≤ lst.length; omega, by show k' ≤ k + 20 * (i + 1); omega, hT', hst⟩ (by show lst.length - (i + 1) < lst.length - i; omega) (cut_of (by simp) ?_)
    simp +decide -dsimp -implicitDefEqProofs [go_sem, tapeO, hcc]
    exact ⟨hmc _ _, hmc _ _⟩
  have e : i = lst.length := by omega
  subst e
  have b9 := fold_bd (tapeV l k2) ((lst.length : Int) + 1) (by omega)
  obtain ⟨T, hTt⟩ : ∃ T : Nat, fold (tapeV l k2) ((lst.length : Int) + 1) = T := ⟨_, (Int.toNat_of_nonneg b9.1).symm⟩
  have c9 := Next_c l k2 ((lst.length : Int) + 1) (by omega) (by omega)
  rw [hTt] at b9 c9
  have w9 : IntKind.i64.wrap ((lst.length : Int) + 1) = (lst.length : Int) + 1 := w64 (by omega) (by omega)
  simp +decide -dsimp -implicitDefEqProofs [go_sem, w9]
  refine callE_frame [0] c9 rfl rfl (by simp) (by simp +decide -dsimp -implicitDefEqProofs [go_sem]) (by simp +decide -dsimp -implicitDefEqProofs [go_sem, tapeO_ren]) ?_
  simp +decide -dsimp -implicitDefEqProofs [go_sem, tapeO_ren]
  refine loop_of (S := RT) (fun s => ⟨tmps 142 [(4, .ptr 2 0), (5, .ptr 4 0), (8, .own 5 lst.length), (13, .int .i64 T), (14, .int .i64 s.i)], [tapeO l s.k, .map (smK ownV m), .box 68 [.map 1], .map (smK ownV s.m), .box 68 [.map 3], .reg 32 5 (lst.map calRow)]⟩) (fun s => lst.length - s.i) (fun s => s.i ≤ lst.length ∧ Tbl puS uS (1 + lst.length + s.i) s.m s.w ∧ OB lst s.w ∧ ∀ j < s.i, ∀ c, lst[(j + T) % lst.length]? = some c → dev c ∈ s.w) ⟨0, k2 + 1, m2, w2⟩ ⟨by simp, hT2, hB2, fun j hj => absurd hj (by simp)⟩ (cut_of (by simp) ?_) ?_
  · simp +decide -dsimp -implicitDefEqProofs [go_sem, tapeO, hcc]
    exact ⟨hmc _ _, hmc _ _⟩
  rintro ⟨i, k3, m3, w3⟩ ⟨hi3, hT3, hB3, hd3⟩
  simp only at hi3 hT3 hB3 hd3
  by_cases h : i < lst.length
  · have wa : IntKind.i64.wrap ((i : Int) + 1) = i + 1 := w64 (by omega) (by omega)
    have wt : IntKind.i64.wrap ((i : Int) + (T : Int)) = (i : Int) + (T : Int) := w64 (by omega) (by omega)
    obtain ⟨r, hr⟩ : ∃ r, r = (i + T) % lst.length := ⟨_, rfl⟩
    have hrl : r < lst.length := hr ▸ Nat.mod_lt _ (by omega)
    have hrem : ((i : Int) + (T : Int)).tmod (lst.length : Int) = (r : Int) := by
      rw [hr, ← Int.natCast_add]; rfl
    have hn0 : ¬ lst = [] := fun e => by rw [e] at h; simp at h
    have hat : (lst.map calRow)[r]? = some (calRow lst[r]) := by simp [hrl]
    have hm : lst[r] ∈ lst := List.getElem_mem hrl
    have hok := hA.o _ hm
    obtain ⟨hcl, hst⟩ := hB3.step hA hm (c := lst[r]) rfl rfl
    obtain ⟨m', hT', cS⟩ := SetD_c few_s hT3 _ (hA.k _ hm) hcl
    rw [set_ok hok hcl] at cS
    have hdn : ∀ j < i + 1, ∀ c, lst[(j + T) % lst.length]? = some c → dev c ∈ setW w3 lst[r].p lst[r].node lst[r].links lst[r].prio := fun j hj c hc => by
      by_cases e : j = i
      · rw [e, ← hr] at hc
        rw [List.getElem?_eq_getElem hrl] at hc
        cases hc
        exact hB3.now hA hm
      · exact hB3.done hA hm (List.mem_of_getElem? hc) (hd3 j (by omega) c hc)
    unfold tbO at cS
    simp +decide -dsimp -implicitDefEqProofs [go_sem, hcal, h, hrl, wt, hrem, hn0]
    refine callE_frame [3, 4] cS rfl rfl (by simp) (by simp +decide -dsimp -implicitDefEqProofs [go_sem, renLL_sRows]) (by simp +decide -dsimp -implicitDefEqProofs [go_sem, hmr]) ?_
    simp +decide -dsimp -implicitDefEqProofs [go_sem, hmr, wa]
    refine next_of ⟨i + 1, k3, m', _⟩ ⟨by show i + 1 ≤ lst.length; omega, hT', hst, hdn⟩ (by show lst.length - (i + 1) < lst.length - i; omega) (cut_of (by simp) ?_)
    simp +decide -dsimp -implicitDefEqProofs [go_sem, tapeO, hcc]
    exact ⟨hmc _ _, hmc _ _⟩
  have e : i = lst.length := by omega
  subst e
  have hfin : dropD w3 zzP = w := hB3.fin hA hT.t.toTabW hT3.t.toTabW fun c hc => by
    obtain ⟨j, hj, rfl⟩ := List.mem_iff_getElem.1 hc
    obtain ⟨i, hi, hij⟩ := rot_all (t := T) hj (by omega)
    exact hd3 i hi _ (by rw [hij, List.getElem?_eq_getElem hj])
  have hTd := hT3.drop zzP
  rw [hfin] at hTd
  have cD := Drop_c m3 zzP
  have hs : (getS zzP m3).isSome = true := by
    obtain ⟨⟨q, x⟩, hd, hz⟩ := hB3.z
    simp only at hz
    rw [hz] at hd
    rw [(hT3.t.g zzP x).2 hd]; rfl
  rw [if_pos hs] at cD
  have cLa := Links_c few_s hT (by omega)
  have cLb := Links_c few_s hTd (by omega)
  have hkl := hT.kl few_s
  have hwl := hT.wl few_s
  have hnl := nodesW_len (w := w)
  have m1 := hT.ml
  have m2 := hTd.ml
  have cNa := Nodes_c hT.t (by omega)
  have cNb := Nodes_c hTd.t (by omega)
  have sL := sameLinks_c (linksW w) (by omega)
  have sN := sameTexts_c (nodesW w) (by omega)
  generalize delS zzP m3 = m4 at cD cLb cNb
  unfold tbO at cD cLa cLb cNa cNb
  simp +decide -dsimp -implicitDefEqProofs [go_sem]
  refine callE_frame [3, 4] cD rfl rfl (by simp) (by simp +decide -dsimp -implicitDefEqProofs [go_sem, zzP]) (by simp +decide -dsimp -implicitDefEqProofs [go_sem, hmr]) ?_
  simp +decide -dsimp -implicitDefEqProofs [go_sem, hmr]
  refine callE_frame [1, 2] cLa rfl rfl (by simp) (by simp +decide -dsimp -implicitDefEqProofs [go_sem]) (by simp +decide -dsimp -implicitDefEqProofs [go_sem, hmr]) ?_
  simp +decide -dsimp -implicitDefEqProofs [go_sem, hmr, hlr]
  refine callE_frame [3, 4] cLb rfl rfl (by simp) (by simp +decide -dsimp -implicitDefEqProofs [go_sem]) (by simp +decide -dsimp -implicitDefEqProofs [go_sem, hmr]) ?_
  simp +decide -dsimp -implicitDefEqProofs [go_sem, hmr, hlr]
  refine callE_pure sL (by simp +decide -dsimp -implicitDefEqProofs [go_sem, hlc]) rfl ?_
  simp +decide -dsimp -implicitDefEqProofs [go_sem]
  refine callE_frame [1, 2] cNa rfl rfl (by simp) (by simp +decide -dsimp -implicitDefEqProofs [go_sem]) (by simp +decide -dsimp -implicitDefEqProofs [go_sem, hmr]) ?_
  simp +decide -dsimp -implicitDefEqProofs [go_sem, hmr]
  refine callE_frame [3, 4] cNb rfl rfl (by simp) (by simp +decide -dsimp -implicitDefEqProofs [go_sem]) (by simp +decide -dsimp -implicitDefEqProofs [go_sem, hmr]) ?_
  simp +decide -dsimp -implicitDefEqProofs [go_sem, hmr]
  refine callE_pure sN (by simp +decide -dsimp -implicitDefEqProofs [go_sem]) rfl ?_
  simp +decide -dsimp -implicitDefEqProofs [go_sem]
end Go.Ab
