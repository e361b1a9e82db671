/- Where a link leads. -/
import Derived.Test.YtfgannpogjphoaaGreatDoorW3
import Derived.Test.YtfgannpogjphoaaGreatDoorC1
import Derived.Test.YtfgannpogjphoaaGreatDoorEB
namespace Go.Ab
open Go Go.Proofs Go.Sort
set_option maxRecDepth 20000
theorem eqName_c (x : Lk) (s : Txt) : ACalls Tryz.prog 59 [.agg (lkRow x), .ptr 0 0] [.box 9 [.str s]] (.bool (decide (x.name = s))) [.box 9 [.str s]] := by
  refine acalls_F c59_ok rfl ?_
  unfold c59 lkRow
  simp +decide -dsimp -implicitDefEqProofs [go_sem]
  rw [Bool.eq_iff_iff]; simp
theorem IndexLk_c (l : List Lk) (s : Txt) (hl : l.length < 1000000000) :
    ACalls Tryz.prog 58 [.imm (l.map lkRow), .fn (.func 59) [] [.ptr 0 0]] [.box 9 [.str s]] (.int .i64 (idxI (l.findIdx? fun x => decide (x.name = s)))) [.box 9 [.str s]] := by
  have hlc := closedLL_lkRows
  refine acalls_F c58_ok rfl ?_
  unfold c58
  simp +decide -dsimp -implicitDefEqProofs [go_sem]
  refine loop_of (S := Nat) (fun i => ⟨tmps 19 [(0, .imm (l.map lkRow)), (1, .fn (.func 59) [] [.ptr 0 0]), (7, .int .i64 l.length), (8, .int .i64 i)], [.box 9 [.str s]]⟩) (fun i => l.length - i) (fun i => i ≤ l.length ∧ ∀ x ∈ l.take i, decide (x.name = s) = false) 0 (by simp) (cut_of (by simp) ?_) ?_
  · simp +decide -dsimp -implicitDefEqProofs [go_sem, hlc]
  intro i hi
  by_cases h : i < l.length
  · have w : IntKind.i64.wrap ((i : Int) + 1) = i + 1 := w64 (by omega) (by omega)
    have hlk : lkRow l[i] = [.str l[i].name, .str l[i].node, .str l[i].path] := rfl
    have ce := eqName_c l[i] s
    rw [hlk] at ce
    simp +decide -dsimp -implicitDefEqProofs [go_sem, h, hlk]
    refine callE_of ce ?_
    by_cases hp : l[i].name = s
    · have hfi := findIdx?_at (p := fun x : Lk => decide (x.name = s)) h (decide_eq_true hp) hi.2
      simp +decide -dsimp -implicitDefEqProofs [go_sem, hp, hfi, idxI]
    · simp +decide -dsimp -implicitDefEqProofs [go_sem, hp, w]
      refine next_of (i + 1) ⟨by omega, fun x hx => ?_⟩ (by omega) (cut_of (by simp) ?_)
      · rw [List.take_succ_eq_append_getElem h] at hx
        rcases List.mem_append.1 hx with hx | hx
        · exact hi.2 x hx
        · simp at hx; subst hx; simpa using hp
      simp +decide -dsimp -implicitDefEqProofs [go_sem, hlc]
  · have e : i = l.length := by omega
    have h2 := hi.2
    rw [e, List.take_length] at h2
    have h3 : (l.findIdx? fun x => decide (x.name = s)) = none := by rw [List.findIdx?_eq_none_iff]; exact fun x hx => by simp [h2 x hx]
    simp +decide -dsimp -implicitDefEqProofs [go_sem, h, h3, idxI]
def atL (l : List Lk) (s : Txt) : Option Lk := l.find? fun x => decide (x.name = s)
def atRow (o : Option Lk) : List AV := match o with | some x => lkRow x | none => [.str [], .str [], .str []]
theorem atL_some {l : List Lk} {s : Txt} {i : Nat} (h : (l.findIdx? fun x => decide (x.name = s)) = some i) : ∃ hi : i < l.length, atL l s = some l[i] := by
  obtain ⟨h1, h2, h3⟩ := List.findIdx?_eq_some_iff_getElem.1 h
  refine ⟨h1, List.find?_eq_some_iff_getElem.2 ⟨h2, i, h1, rfl, fun j hj => ?_⟩⟩
  simpa using h3 j hj
theorem atL_none {l : List Lk} {s : Txt} (h : (l.findIdx? fun x => decide (x.name = s)) = none) : atL l s = none :=
  List.find?_eq_none.2 fun x hx => by simpa using List.findIdx?_eq_none_iff.1 h x hx
theorem Where_c {PU U : List Txt} {B : Nat} {m : SMap Own} {w : List Dv} (hF : Few12 PU U) (h : Tbl PU U B m w) (hB : B ≤ 1000) (s : Txt) :
    ACalls Tryz.prog 30 [.ptr 1 0, .str s] (tbO m) (.tup [.agg (atRow (atL (linksW w) s)), .bool (atL (linksW w) s).isSome]) (tbO m) := by
  have cL := Links_c hF h hB
  have hk := h.kl hF
  have hmc := own_clm
  have hmr := own_renK
  have hlr := renLL_lkRows
  have cI := IndexLk_c (linksW w) s (by omega)
  refine acalls_F c30_ok rfl ?_
  unfold tbO at cL
  unfold c30 tbO
  simp +decide -dsimp -implicitDefEqProofs [go_sem]
  refine callE_frame [0, 1] cL rfl rfl (by simp) (by simp +decide -dsimp -implicitDefEqProofs [go_sem]) (by simp +decide -dsimp -implicitDefEqProofs [go_sem, hmr]) ?_
  simp +decide -dsimp -implicitDefEqProofs [go_sem, hmr, hlr]
  generalize linksW w = L at cI hk
  refine callE_frame [2] cI rfl rfl (by simp) (by simp +decide -dsimp -implicitDefEqProofs [go_sem, hlr]) (by simp +decide -dsimp -implicitDefEqProofs [go_sem]) ?_
  cases hf : L.findIdx? (fun x => decide (x.name = s)) with
  | none =>
    simp +decide -dsimp -implicitDefEqProofs [go_sem, idxI, atL_none hf, atRow]
    exact hmc _ _
  | some i =>
    obtain ⟨hi, ha⟩ := atL_some hf
    have ni : ¬ ((i : Int) < 0) := by omega
    have hlk : lkRow L[i] = [.str L[i].name, .str L[i].node, .str L[i].path] := rfl
    simp +decide -dsimp -implicitDefEqProofs [go_sem, idxI, ha, atRow, ni, hi, hlk]
    exact hmc _ _
end Go.Ab
namespace Go.Ab
open Go Go.Proofs
def c7 : AFn := ⟨(.seq (.ops [⟨(some 2), (.mov (.v (.bool false))), none⟩]) (.seq (.ops [⟨(some 19), (.mov (.t 0)), none⟩, ⟨(some 20), (.build [.nils, (.int .i64 0)] [(0, (1, (.t 19)))]), none⟩, ⟨(some 21), (.box 25 (.t 20)), none⟩, ⟨(some 3), (.mov (.t 21)), none⟩]) (.seq (.ops [⟨(some 22), (.call (.v (.fn (.func 10) [] [])) []), none⟩, ⟨(some 4), (.mov (.t 22)), none⟩]) (.seq (.seq (.ops [⟨(some 23), (.call (.v (.fn (.func 11) [] [])) []), none⟩, ⟨(some 24), (.un .not (.t 23)), none⟩, ⟨(some 25), (.mov (.t 24)), none⟩, ⟨(some 26), (.mov (.t 4)), (some (25, false))⟩, ⟨(some 27), (.ext (.pnil false) [(.t 26)]), (some (25, false))⟩, ⟨(some 28), (.pick (.t 25) (.v (.bool true)) (.t 27)), none⟩]) (.cond (.t 28) (.seq (.ops [⟨(some 2), (.mov (.v (.bool false))), none⟩]) .ret) .skip)) (.seq (.seq (.ops [⟨(some 29), (.mov (.t 3)), none⟩, ⟨(some 30), (.call (.v (.fn (.func 14) [] [])) [(.t 29), (.v (.int .i64 9))]), none⟩, ⟨(some 5), (.mov (.t 30)), none⟩]) (.block 0 (.loop (.seq (.seq (.ops [⟨(some 31), (.mov (.t 5)), none⟩, ⟨(some 32), (.bin .gtr (.t 31) (.v (.int .i64 0))), none⟩]) (.cond (.t 32) .skip (.exit 0))) (.seq (.block 1 (.ops [⟨(some 35), (.mov (.t 4)), none⟩, ⟨(some 36), (.mov (.t 3)), none⟩, ⟨(some 37), (.call (.v (.fn (.func 12) [] [])) [(.t 36)]), none⟩, ⟨(some 38), (.call (.v (.fn (.func 20) [] [])) [(.t 35), (.t 37)]), none⟩])) (.ops [⟨(some 33), (.mov (.t 5)), none⟩, ⟨(some 34), (.bin .sub (.t 33) (.v (.int .i64 1))), none⟩, ⟨(some 5), (.mov (.t 34)), none⟩])))))) (.seq (.ops [⟨(some 39), (.mov (.t 4)), none⟩, ⟨(some 40), (.call (.v (.fn (.func 19) [] [])) [(.t 39)]), none⟩, ⟨(some 41), (.mov (.t 4)), none⟩, ⟨(some 42), (.call (.v (.fn (.func 21) [] [])) [(.t 41)]), none⟩, ⟨(some 6), (.mov (.t 40)), none⟩, ⟨(some 7), (.mov (.t 42)), none⟩]) (.seq (.ops [⟨(some 8), (.mov (.v .nils)), none⟩]) (.seq (.seq (.ops [⟨(some 9), (.mov (.v (.int .i64 0))), none⟩]) (.block 2 (.loop (.seq (.seq (.ops [⟨(some 43), (.mov (.t 9)), none⟩, ⟨(some 44), (.mov (.t 7)), none⟩, ⟨(some 45), (.len .sl (.t 44)), none⟩, ⟨(some 46), (.bin .lss (.t 43) (.t 45)), none⟩]) (.cond (.t 46) .skip (.exit 2))) (.seq (.block 3 (.seq (.ops [⟨(some 10), (.mov (.v (.bool false))), none⟩]) (.seq (.seq (.ops [⟨(some 11), (.mov (.v (.int .i64 0))), none⟩]) (.block 4 (.loop (.seq (.seq (.ops [⟨(some 49), (.mov (.t 11)), none⟩, ⟨(some 50), (.mov (.t 6)), none⟩, ⟨(some 51), (.len .sl (.t 50)), none⟩, ⟨(some 52), (.bin .lss (.t 49) (.t 51)), none⟩]) (.cond (.t 52) .skip (.exit 4))) (.seq (.block 5 (.draw [⟨(some 55), (.mov (.t 10)), none⟩, ⟨(some 56), (.mov (.t 55)), none⟩, ⟨(some 57), (.mov (.t 7)), (some (56, false))⟩, ⟨(some 58), (.mov (.t 9)), (some (56, false))⟩, ⟨(some 59), (.iaddr none 4 (.t 57) (.t 58)), (some (56, false))⟩, ⟨(some 60), (.faddr 0 (.t 59)), (some (56, false))⟩, ⟨(some 61), (.load none (.t 60)), (some (56, false))⟩, ⟨(some 62), (.mov (.t 6)), (some (56, false))⟩, ⟨(some 63), (.mov (.t 11)), (some (56, false))⟩, ⟨(some 64), (.iaddr none 1 (.t 62) (.t 63)), (some (56, false))⟩, ⟨(some 65), (.load none (.t 64)), (some (56, false))⟩, ⟨(some 66), (.bin .eql (.t 61) (.t 65)), (some (56, false))⟩, ⟨(some 67), (.pick (.t 56) (.v (.bool true)) (.t 66)), none⟩, ⟨(some 68), (.mov (.t 67)), none⟩, ⟨(some 69), (.mov (.t 7)), (some (68, false))⟩, ⟨(some 70), (.mov (.t 9)), (some (68, false))⟩, ⟨(some 71), (.iaddr none 4 (.t 69) (.t 70)), (some (68, false))⟩, ⟨(some 72), (.faddr 0 (.t 71)), (some (68, false))⟩, ⟨(some 73), (.load none (.t 72)), (some (68, false))⟩, ⟨(some 74), (.mov (.t 6)), (some (68, false))⟩, ⟨(some 75), (.mov (.t 11)), (some (68, false))⟩, ⟨(some 76), (.iaddr none 1 (.t 74) (.t 75)), (some (68, false))⟩, ⟨(some 77), (.load none (.t 76)), (some (68, false))⟩, ⟨(some 78), (.call (.v (.fn (.func 23) [] [])) [(.t 73), (.t 77)]), (some (68, false))⟩, ⟨(some 79), (.pick (.t 68) (.v (.bool true)) (.t 78)), none⟩, ⟨(some 80), (.mov (.t 79)), none⟩, ⟨(some 81), (.mov (.t 6)), (some (80, false))⟩, ⟨(some 82), (.mov (.t 11)), (some (80, false))⟩, ⟨(some 83), (.iaddr none 1 (.t 81) (.t 82)), (some (80, false))⟩, ⟨(some 84), (.load none (.t 83)), (some (80, false))⟩, ⟨(some 85), (.mov (.t 7)), (some (80, false))⟩, ⟨(some 86), (.mov (.t 9)), (some (80, false))⟩, ⟨(some 87), (.iaddr none 4 (.t 85) (.t 86)), (some (80, false))⟩, ⟨(some 88), (.faddr 0 (.t 87)), (some (80, false))⟩, ⟨(some 89), (.load none (.t 88)), (some (80, false))⟩, ⟨(some 90), (.call (.v (.fn (.func 23) [] [])) [(.t 84), (.t 89)]), (some (80, false))⟩, ⟨(some 91), (.pick (.t 80) (.v (.bool true)) (.t 90)), none⟩, ⟨(some 10), (.mov (.t 91)), none⟩] [0, 1, 3, 3, 15, 31, 63, 3, 3, 387, 899, 2047, 4095, 8191, 16383, 16383, 65535, 131071, 262143, 16383, 16383, 1589247, 3686399, 8388607, 16777215, 33554431, 67108863, 67108863, 268435455, 536870911, 67108863, 67108863, 3288334335, 7583301631, 16173236223, 34359738367, 68719476735, 137438953471])) (.ops [⟨(some 53), (.mov (.t 11)), none⟩, ⟨(some 54), (.bin .add (.t 53) (.v (.int .i64 1))), none⟩, ⟨(some 11), (.mov (.t 54)), none⟩])))))) (.seq (.seq (.ops [⟨(some 93), (.mov (.t 4)), none⟩, ⟨(some 94), (.mov (.t 7)), none⟩, ⟨(some 95), (.mov (.t 9)), none⟩, ⟨(some 96), (.iaddr none 4 (.t 94) (.t 95)), none⟩, ⟨(some 97), (.faddr 0 (.t 96)), none⟩, ⟨(some 98), (.load none (.t 97)), none⟩, ⟨(some 99), (.call (.v (.fn (.func 30) [] [])) [(.t 93), (.t 98)]), none⟩, ⟨(some 92), (.mov (.t 99)), none⟩, ⟨(some 100), (.extract (.t 92) 0), none⟩, ⟨(some 101), (.extract (.t 92) 1), none⟩, ⟨(some 12), (.alloc 50 [(.str []), (.str []), (.str [])]), none⟩, ⟨none, (.store (some 3) (.t 12) (.t 100)), none⟩, ⟨(some 13), (.mov (.t 101)), none⟩]) (.seq (.ops [⟨(some 102), (.mov (.t 13)), none⟩, ⟨(some 103), (.mov (.t 102)), none⟩, ⟨(some 104), (.mov (.t 10)), (some (103, true))⟩, ⟨(some 105), (.pick (.t 103) (.t 104) (.v (.bool false))), none⟩]) (.cond (.t 105) (.seq (.ops [⟨(some 2), (.mov (.v (.bool false))), none⟩]) .ret) .skip))) (.seq (.ops [⟨(some 106), (.mov (.t 10)), none⟩, ⟨(some 107), (.un .not (.t 106)), none⟩]) (.cond (.t 107) (.ops [⟨(some 108), (.mov (.t 8)), none⟩, ⟨(some 109), (.mov (.t 7)), none⟩, ⟨(some 110), (.mov (.t 9)), none⟩, ⟨(some 111), (.iaddr none 4 (.t 109) (.t 110)), none⟩, ⟨(some 112), (.faddr 0 (.t 111)), none⟩, ⟨(some 113), (.load none (.t 112)), none⟩, ⟨(some 114), (.bslice 9 1 false [(.t 113)]), none⟩, ⟨(some 115), (.append 9 1 16 (.t 108) (.t 114)), none⟩, ⟨(some 8), (.mov (.t 115)), none⟩]) .skip)))))) (.ops [⟨(some 47), (.mov (.t 9)), none⟩, ⟨(some 48), (.bin .add (.t 47) (.v (.int .i64 1))), none⟩, ⟨(some 9), (.mov (.t 48)), none⟩])))))) (.seq (.seq (.ops [⟨(some 14), (.mov (.v (.int .i64 0))), none⟩]) (.block 6 (.loop (.seq (.seq (.ops [⟨(some 116), (.mov (.t 14)), none⟩, ⟨(some 117), (.mov (.t 8)), none⟩, ⟨(some 118), (.len .sl (.t 117)), none⟩, ⟨(some 119), (.bin .lss (.t 116) (.t 118)), none⟩]) (.cond (.t 119) .skip (.exit 6))) (.seq (.block 7 (.seq (.ops [⟨(some 15), (.mov (.v (.bool false))), none⟩]) (.seq (.seq (.ops [⟨(some 16), (.mov (.v (.int .i64 0))), none⟩]) (.block 8 (.loop (.seq (.seq (.ops [⟨(some 122), (.mov (.t 16)), none⟩, ⟨(some 123), (.mov (.t 8)), none⟩, ⟨(some 124), (.len .sl (.t 123)), none⟩, ⟨(some 125), (.bin .lss (.t 122) (.t 124)), none⟩]) (.cond (.t 125) .skip (.exit 8))) (.seq (.block 9 (.draw [⟨(some 128), (.mov (.t 15)), none⟩, ⟨(some 129), (.mov (.t 128)), none⟩, ⟨(some 130), (.mov (.t 8)), (some (129, false))⟩, ⟨(some 131), (.mov (.t 14)), (some (129, false))⟩, ⟨(some 132), (.iaddr none 1 (.t 130) (.t 131)), (some (129, false))⟩, ⟨(some 133), (.load none (.t 132)), (some (129, false))⟩, ⟨(some 134), (.mov (.t 8)), (some (129, false))⟩, ⟨(some 135), (.mov (.t 16)), (some (129, false))⟩, ⟨(some 136), (.iaddr none 1 (.t 134) (.t 135)), (some (129, false))⟩, ⟨(some 137), (.load none (.t 136)), (some (129, false))⟩, ⟨(some 138), (.call (.v (.fn (.func 23) [] [])) [(.t 133), (.t 137)]), (some (129, false))⟩, ⟨(some 139), (.pick (.t 129) (.v (.bool true)) (.t 138)), none⟩, ⟨(some 15), (.mov (.t 139)), none⟩] [0, 1, 3, 3, 15, 31, 3, 3, 195, 451, 1023, 2047, 4095])) (.ops [⟨(some 126), (.mov (.t 16)), none⟩, ⟨(some 127), (.bin .add (.t 126) (.v (.int .i64 1))), none⟩, ⟨(some 16), (.mov (.t 127)), none⟩])))))) (.seq (.ops [⟨(some 141), (.mov (.t 4)), none⟩, ⟨(some 142), (.mov (.t 8)), none⟩, ⟨(some 143), (.mov (.t 14)), none⟩, ⟨(some 144), (.iaddr none 1 (.t 142) (.t 143)), none⟩, ⟨(some 145), (.load none (.t 144)), none⟩, ⟨(some 146), (.call (.v (.fn (.func 30) [] [])) [(.t 141), (.t 145)]), none⟩, ⟨(some 140), (.mov (.t 146)), none⟩, ⟨(some 147), (.extract (.t 140) 0), none⟩, ⟨(some 148), (.extract (.t 140) 1), none⟩, ⟨(some 17), (.alloc 50 [(.str []), (.str []), (.str [])]), none⟩, ⟨none, (.store (some 3) (.t 17) (.t 147)), none⟩, ⟨(some 18), (.mov (.t 148)), none⟩]) (.seq (.ops [⟨(some 149), (.mov (.t 18)), none⟩, ⟨(some 150), (.mov (.t 15)), none⟩, ⟨(some 151), (.binb false (.t 149) (.t 150)), none⟩]) (.cond (.t 151) (.seq (.ops [⟨(some 2), (.mov (.v (.bool false))), none⟩]) .ret) .skip)))))) (.ops [⟨(some 120), (.mov (.t 14)), none⟩, ⟨(some 121), (.bin .add (.t 120) (.v (.int .i64 1))), none⟩, ⟨(some 14), (.mov (.t 121)), none⟩])))))) (.seq (.ops [⟨(some 2), (.mov (.v (.bool true))), none⟩]) .ret)))))))))), 152, [(.tmp 2)]⟩
theorem c7_ok : compileF Tryz.prog [] 7 = some c7 := by kernel_rfl
end Go.Ab
namespace Go.Ab
open Go Go.Proofs Go.Sort
set_option maxRecDepth 20000
theorem bestM_ex {O : List Cl} (_h : okCl placeB O) : ∃ m, BestM (lt := ltP) O m := by
  have key : ∀ n, n ≤ O.length → ∃ m, BestM (lt := ltP) (O.take n) m := fun n => by
    induction n with
    | zero => exact fun _ => ⟨[], by simpa using BestM.nil (lt := ltP)⟩
    | succ n ih =>
      intro hn
      obtain ⟨m, hm⟩ := ih (by omega)
      rw [List.take_succ_eq_append_getElem (by omega)]
      cases hg : getS O[n].link m with
      | none => exact ⟨_, hm.new pord hg⟩
      | some old =>
        cases hb : betB ltP O[n] old with
        | true => exact ⟨_, hm.won pord hg hb⟩
        | false => exact ⟨_, hm.lost hg hb⟩
  obtain ⟨m, hm⟩ := key O.length (Nat.le_refl _)
  rw [List.take_length] at hm
  exact ⟨m, hm⟩
theorem atL_isSome {l : List Lk} {s : Txt} : (atL l s).isSome = true ↔ ∃ x ∈ l, x.name = s := by
  simp [atL]
theorem live_void {N : List Txt} {C : List Cl} {L : List Lk} (h : ResOf ltP (opn N C) L) {c : Cl} (hv : voidB N c = true) : (atL L c.link).isSome = false := by
  rw [Bool.eq_false_iff]
  intro h1
  obtain ⟨x, hx, hn⟩ := atL_isSome.1 h1
  obtain ⟨d, hd, rfl, _⟩ := (h.mem x).1 hx
  have h2 := (List.mem_filter.1 hd.1).2
  have e : voidB N d = voidB N c := by unfold voidB; rw [show d.link = c.link from hn]
  rw [e, hv] at h2; cases h2
theorem live_open {N : List Txt} {C : List Cl} {L : List Lk} (h : ResOf ltP (opn N C) L) (hk : okCl placeB C) {s : Txt} (hs : s ∈ (opn N C).map (·.link)) : (atL L s).isSome = !((opn N C).map (·.link)).any fun y => benB s y := by
  obtain ⟨c, hc, rfl⟩ := List.mem_map.1 hs
  obtain ⟨m, hm⟩ := bestM_ex (hk.sub (O' := opn N C) List.filter_sublist)
  obtain ⟨b, hb⟩ := Option.isSome_iff_exists.1 (hm.a c hc)
  obtain ⟨h1, h2⟩ := hm.b _ _ hb
  rw [Bool.eq_iff_iff, atL_isSome]
  simp only [Bool.not_eq_true', List.any_eq_false, List.mem_map, Bool.not_eq_true, forall_exists_index, and_imp, forall_apply_eq_imp_iff₂]
  constructor
  · rintro ⟨x, hx, hn⟩ d hd
    obtain ⟨e, he, rfl, h4⟩ := (h.mem x).1 hx
    have := h4 d hd
    rwa [show e.link = c.link from hn] at this
  · intro h3
    exact ⟨toLk b, (h.mem _).2 ⟨b, h1, rfl, fun d hd => by rw [h2]; exact h3 d hd⟩, h2⟩
theorem any_take {α : Type} {l : List α} {p : α → Bool} {k : Nat} (h : k < l.length) : (l.take (k + 1)).any p = ((l.take k).any p || p l[k]) := by
  rw [List.take_succ_eq_append_getElem h, List.any_append]; simp only [List.any_cons, List.any_nil, Bool.or_false]
theorem atRow_ex (o : Option Lk) : ∃ a b c : Txt, atRow o = [.str a, .str b, .str c] := by
  cases o with
  | none => exact ⟨[], [], [], rfl⟩
  | some x => exact ⟨_, _, _, rfl⟩
set_option maxHeartbeats 16000000 in
theorem LinkLive_c (l : List Int) : ACalls Tryz.prog 7 [tapeVs l] [] (.bool true) [] := by
  have b0 := fold_bd (tapeV l 0) 9 (by omega)
  obtain ⟨n, hn⟩ : ∃ n : Nat, fold (tapeV l 0) 9 = n := ⟨_, (Int.toNat_of_nonneg b0.1).symm⟩
  have c0 := Next_c l 0 9 (by omega) (by omega)
  rw [hn] at b0 c0
  have hmc := own_clm
  have hmr := own_renK
  have hlr := renLL_lkRows
  have hlc := closedLL_lkRows
  have hlc2 := closedLL_clRows
  have hcr2 := renLL_clRows
  have hck : ∀ x : Cl, clRow x = [.str x.link, .str x.path, .str x.node, .int .i64 x.prio] := fun _ => rfl
  have hlk : ∀ x : Lk, lkRow x = [.str x.name, .str x.node, .str x.path] := fun _ => rfl
  refine acalls_F c7_ok rfl ?_
  unfold c7 tapeVs
  simp +decide -dsimp -implicitDefEqProofs [go_sem]
  rw [tape0]
  refine callE_grow [] 2 new_c rfl (fun v G h => by rw [h.2]; rfl) (by show (List.range' 1 2).Nodup; decide) rfl (by simp) ?_
  rintro _ _ ⟨rfl, rfl⟩
  unfold tbO
  simp +decide -dsimp -implicitDefEqProofs [go_sem, hmr, show List.range' 1 2 = [1, 2] from rfl]
  refine callE_pure known_c rfl rfl ?_
  simp +decide -dsimp -implicitDefEqProofs [go_sem]
  refine callE_frame [0] c0 rfl rfl (by simp) (by simp +decide -dsimp -implicitDefEqProofs [go_sem]) (by simp +decide -dsimp -implicitDefEqProofs [go_sem, tapeO_ren]) ?_
  simp +decide -dsimp -implicitDefEqProofs [go_sem, tapeO_ren]
  refine loop_of (S := RT) (fun s => ⟨tmps 152 [(3, .ptr 0 0), (4, .ptr 2 0), (5, .int .i64 ((n - s.i : Nat) : Int))], [tapeO l s.k, .map (smK ownV s.m), .box 68 [.map 1]]⟩) (fun s => n - s.i) (RT.ok n) ⟨0, 1, [], []⟩ ⟨by simp, by simp, .nil⟩ (cut_of (by simp) ?_) ?_
  · simp +decide -dsimp -implicitDefEqProofs [go_sem, tapeO]
  rintro ⟨i, k, m, w⟩ ⟨hi, hk, hT⟩
  simp only at hi hk hT
  by_cases h : i < n
  · have h' : 0 < n - i := by omega
    have wi : IntKind.i64.wrap (((n - i : Nat) : Int) - 1) = ((n - (i + 1) : Nat) : Int) := by rw [w64 (by omega) (by omega)]; omega
    simp +decide -dsimp -implicitDefEqProofs [go_sem, h']
    refine callE_frameR [0] (some_c l k (by omega)) rfl (fun v G ⟨_, _, _, hG, _⟩ => by rw [hG]; rfl) (by simp) (by simp +decide -dsimp -implicitDefEqProofs [go_sem]) (by simp +decide -dsimp -implicitDefEqProofs [go_sem, tapeO_ren]) ?_
    rintro _ _ ⟨c, k', rfl, rfl, hc, hk'⟩
    have cd := do_c few_s hT (by omega) c hc
    have hcr : ∀ is, renL is (calRow c) = calRow c := fun is => by simp [calRow, renL, ren, renLL_sRows]
    unfold tbO at cd
    simp +decide -dsimp -implicitDefEqProofs [go_sem, tapeO_ren, hcr]
    refine callE_frameR [1, 2] cd rfl (fun v G ⟨_, _, hG, _⟩ => by rw [hG]; rfl) (by simp) (by simp +decide -dsimp -implicitDefEqProofs [go_sem, hcr]) (by simp +decide -dsimp -implicitDefEqProofs [go_sem, hmr]) ?_
    rintro _ _ ⟨m', rfl, rfl, hT'⟩
    unfold tbO
    simp +decide -dsimp -implicitDefEqProofs [go_sem, hmr, wi]
    refine next_of ⟨i + 1, k', m', calW w c⟩ ⟨by show i + 1 ≤ n; omega, by show k' ≤ 1 + 20 * (i + 1); omega, hT'⟩ (by show n - (i + 1) < n - i; omega) (cut_of (by simp) ?_)
    simp +decide -dsimp -implicitDefEqProofs [go_sem, tapeO]
    exact hmc _ _
  have e : i = n := by omega
  subst e
  have hR := hT.res
  have hml := hT.ml
  have cN := Nodes_c hT.t (by omega)
  have hwl := hT.wl few_s
  have hll := hT.ll few_s
  have cC := Claims_c hT.t (by omega) hwl (fun d hd => by have := hll d hd; omega)
  have hCl : (clm w).length ≤ 12 * 12 := Nat.le_trans (clm_len hll) (Nat.mul_le_mul_right _ hwl)
  have hok := clm_ok pord hT.t.toTabW
  have hnl := nodesW_len (w := w)
  have hus : ∀ c ∈ clm w, c.link.length ≤ 1000 := fun c hc => by
    obtain ⟨d, hd, h3, _⟩ := clm_mem.1 hc
    exact few_s.us _ (hT.u d hd _ h3)
  have hns : ∀ x ∈ nodesW w, x.length ≤ 1000 := fun x hx => by
    obtain ⟨d, hd, rfl⟩ := nodesW_mem.1 hx
    exact hT.nl d hd
  have cW := fun s => Where_c few_s hT (by omega) s
  unfold tbO at cN cC cW
  simp +decide -dsimp -implicitDefEqProofs [go_sem]
  refine callE_frame [1, 2] cN rfl rfl (by simp) (by simp +decide -dsimp -implicitDefEqProofs [go_sem]) (by simp +decide -dsimp -implicitDefEqProofs [go_sem, hmr]) ?_
  simp +decide -dsimp -implicitDefEqProofs [go_sem, hmr]
  refine callE_frame [1, 2] cC rfl rfl (by simp) (by simp +decide -dsimp -implicitDefEqProofs [go_sem]) (by simp +decide -dsimp -implicitDefEqProofs [go_sem, hmr]) ?_
  simp +decide -dsimp -implicitDefEqProofs [go_sem, hmr, hcr2]
  generalize linksW w = L at hR cW
  generalize nodesW w = N at hR hnl hns
  generalize clm w = C at hR hok hCl hus
  have hC2 : C.length ≤ 144 := hCl
  have hN2 : N.length ≤ 12 := by omega
  obtain ⟨op, hop⟩ : ∃ op : Nat → List Txt, ∀ i, op i = (opn N (C.take i)).map (·.link) := ⟨_, fun _ => rfl⟩
  have op0 : op 0 = [] := by rw [hop]; rfl
  have opl : ∀ i, (op i).length ≤ 144 := fun i => by
    rw [hop, List.length_map]
    have := List.length_filter_le (fun c => !voidB N c) (C.take i)
    rw [List.length_take] at this
    unfold opn; omega
  have ops : ∀ (i : Nat) (h : i < C.length), op (i + 1) = op i ++ (if voidB N C[i] = true then [] else [C[i].link]) := fun i h => by
    rw [hop, hop, List.take_succ_eq_append_getElem h, opn_snoc, List.map_append]
    congr 1
    split <;> rfl
  refine loop_of (S := Nat) (fun i => ⟨tmps 152 [(4, .ptr 2 0), (6, .imm (N.map sRow)), (7, .imm (C.map clRow)), (8, .own 3 (op i).length), (9, .int .i64 i)], [tapeO l k, .map (smK ownV m), .box 68 [.map 1], .reg 9 1 ((op i).map sRow)]⟩) (fun i => C.length - i) (fun i => i ≤ C.length) 0 (by simp) ((Wk.nilT 8 9 1 rfl (by simp)).trans (cut_of (by simp) ?_)) ?_
  · simp +decide -dsimp -implicitDefEqProofs [go_sem, hlc2, op0, tapeO]
    exact hmc _ _
  intro a ha
  by_cases h : a < C.length
  · have wa : IntKind.i64.wrap ((a : Int) + 1) = a + 1 := w64 (by omega) (by omega)
    have hCa : C[a] ∈ C := List.getElem_mem h
    simp +decide -dsimp -implicitDefEqProofs [go_sem, h]
    refine loop_of (S := Nat) (fun k' => ⟨tmps 152 [(4, .ptr 2 0), (6, .imm (N.map sRow)), (7, .imm (C.map clRow)), (8, .own 3 (op a).length), (9, .int .i64 a), (10, .bool ((N.take k').any fun n => nearB n C[a].link)), (11, .int .i64 k')], [tapeO l k, .map (smK ownV m), .box 68 [.map 1], .reg 9 1 ((op a).map sRow)]⟩) (fun k => N.length - k) (fun k => k ≤ N.length) 0 (by simp) (cut_of (by simp) ?_) ?_
    · simp +decide -dsimp -implicitDefEqProofs [go_sem, hlc2, tapeO]
      exact hmc _ _
    intro b hb
    by_cases h2 : b < N.length
    · have wb : IntKind.i64.wrap ((b : Int) + 1) = b + 1 := w64 (by omega) (by omega)
      have ev := any_take (p := fun n => nearB n C[a].link) h2
      have cb1 := beneath_c C[a].link N[b] (by have := hus _ hCa; omega)
      have cb2 := beneath_c N[b] C[a].link (by have := hns _ (List.getElem_mem h2); omega)
      have fin : b + 1 ≤ N.length ∧ N.length - (b + 1) < N.length - b := ⟨by omega, by omega⟩
      cases hv : (N.take b).any (fun n => nearB n C[a].link) with
      | true =>
        rw [hv, Bool.true_or] at ev
        simp +decide -dsimp -implicitDefEqProofs [go_sem, h2, wb]
        refine next_of (b + 1) fin.1 fin.2 (cut_of (by simp) ?_)
        simp +decide -dsimp -implicitDefEqProofs [go_sem, hlc2, ev, tapeO]
        exact hmc _ _
      | false =>
        rw [hv, Bool.false_or] at ev
        by_cases q1 : C[a].link = N[b]
        · have e1 : nearB N[b] C[a].link = true := by simp [nearB, q1]
          rw [e1] at ev
          simp +decide -dsimp -implicitDefEqProofs [go_sem, h, h2, hck, q1, wb]
          refine next_of (b + 1) fin.1 fin.2 (cut_of (by simp) ?_)
          simp +decide -dsimp -implicitDefEqProofs [go_sem, hlc2, ev, tapeO]
          exact hmc _ _
        · have q1' : ¬ N[b] = C[a].link := fun e => q1 e.symm
          simp +decide -dsimp -implicitDefEqProofs [go_sem, h, h2, hck, q1]
          refine callDE_pure cb1 rfl rfl ?_
          cases q2 : benB C[a].link N[b] with
          | true =>
            have e1 : nearB N[b] C[a].link = true := by simp [nearB, q2]
            rw [e1] at ev
            simp +decide -dsimp -implicitDefEqProofs [go_sem, wb]
            refine next_of (b + 1) fin.1 fin.2 (cut_of (by simp) ?_)
            simp +decide -dsimp -implicitDefEqProofs [go_sem, hlc2, ev, tapeO]
            exact hmc _ _
          | false =>
            simp +decide -dsimp -implicitDefEqProofs [go_sem, h, h2, hck, q1]
            refine callDE_pure cb2 rfl rfl ?_
            have e1 : nearB N[b] C[a].link = benB N[b] C[a].link := by simp [nearB, q1', q2]
            rw [e1] at ev
            simp +decide -dsimp -implicitDefEqProofs [go_sem, wb]
            refine next_of (b + 1) fin.1 fin.2 (cut_of (by simp) ?_)
            simp +decide -dsimp -implicitDefEqProofs [go_sem, hlc2, ev, tapeO]
            exact hmc _ _
    · have e2 : b = N.length := by omega
      subst e2
      rw [List.take_length]
      have hvd : (N.any fun n => nearB n C[a].link) = voidB N C[a] := rfl
      rw [hvd]
      have cWa := cW C[a].link
      obtain ⟨r1, r2, r3, hr⟩ := atRow_ex (atL L C[a].link)
      rw [hr] at cWa
      have os := ops a h
      have ol := opl a
      simp +decide -dsimp -implicitDefEqProofs [go_sem, h, hck, tapeO]
      refine callE_frame [1, 2] cWa rfl rfl (by simp) (by simp +decide -dsimp -implicitDefEqProofs [go_sem]) (by simp +decide -dsimp -implicitDefEqProofs [go_sem, hmr]) ?_
      cases hv : voidB N C[a] with
      | true =>
        have hA := live_void hR hv
        rw [hv, if_pos rfl, List.append_nil] at os
        simp +decide -dsimp -implicitDefEqProofs [go_sem, hmr, hA, wa]
        refine next_of (a + 1) (by show a + 1 ≤ C.length; omega) (by show C.length - (a + 1) < C.length - a; omega) (cut_of (by simp) ?_)
        simp +decide -dsimp -implicitDefEqProofs [go_sem, hlc2, os, tapeO]
        exact hmc _ _
      | false =>
        rw [hv, if_neg (by decide)] at os
        have om : (op (a + 1)).map sRow = (op a).map sRow ++ [[.str C[a].link]] := by rw [os, List.map_append]; rfl
        have ol2 : (op (a + 1)).length = (op a).length + 1 := by rw [os]; simp
        cases hA : (atL L C[a].link).isSome with
        | true =>
          simp +decide -dsimp -implicitDefEqProofs [go_sem, hmr, h, hck, maxLen, wa]
          refine ⟨⟨by omega, by omega⟩, ?_⟩
          refine next_of (a + 1) (by show a + 1 ≤ C.length; omega) (by show C.length - (a + 1) < C.length - a; omega) (cut_of (by simp) ?_)
          simp +decide -dsimp -implicitDefEqProofs [go_sem, hlc2, om, ol2, tapeO]
          exact hmc _ _
        | false =>
          simp +decide -dsimp -implicitDefEqProofs [go_sem, hmr, h, hck, maxLen, wa]
          refine ⟨⟨by omega, by omega⟩, ?_⟩
          refine next_of (a + 1) (by show a + 1 ≤ C.length; omega) (by show C.length - (a + 1) < C.length - a; omega) (cut_of (by simp) ?_)
          simp +decide -dsimp -implicitDefEqProofs [go_sem, hlc2, om, ol2, tapeO]
          exact hmc _ _
  have e2 : a = C.length := by omega
  subst e2
  have hO : op C.length = (opn N C).map (·.link) := by rw [hop, List.take_length]
  have hO2 := opl C.length
  have hlive := fun s hs => live_open hR hok (s := s) hs
  rw [← hO] at hlive
  have hou : ∀ s ∈ op C.length, s.length ≤ 1000 := fun s hs => by
    rw [hO] at hs
    obtain ⟨c, hc, rfl⟩ := List.mem_map.1 hs
    exact hus c (List.mem_filter.1 hc).1
  generalize op C.length = O at hO2 hlive hou
  simp +decide -dsimp -implicitDefEqProofs [go_sem]
  refine loop_of (S := Nat) (fun i => ⟨tmps 152 [(4, .ptr 2 0), (8, .own 3 O.length), (14, .int .i64 i)], [tapeO l k, .map (smK ownV m), .box 68 [.map 1], .reg 9 1 (O.map sRow)]⟩) (fun i => O.length - i) (fun i => i ≤ O.length) 0 (by simp) (cut_of (by simp) ?_) ?_
  · simp +decide -dsimp -implicitDefEqProofs [go_sem, tapeO]
    exact hmc _ _
  intro a ha
  by_cases h : a < O.length
  · have wa : IntKind.i64.wrap ((a : Int) + 1) = a + 1 := w64 (by omega) (by omega)
    have hOa : O[a] ∈ O := List.getElem_mem h
    have hata : (O.map sRow)[a]? = some (sRow O[a]) := by simp [h]
    simp +decide -dsimp -implicitDefEqProofs [go_sem, h]
    refine loop_of (S := Nat) (fun k' => ⟨tmps 152 [(4, .ptr 2 0), (8, .own 3 O.length), (14, .int .i64 a), (15, .bool ((O.take k').any fun y => benB O[a] y)), (16, .int .i64 k')], [tapeO l k, .map (smK ownV m), .box 68 [.map 1], .reg 9 1 (O.map sRow)]⟩) (fun k => O.length - k) (fun k => k ≤ O.length) 0 (by simp) (cut_of (by simp) ?_) ?_
    · simp +decide -dsimp -implicitDefEqProofs [go_sem, tapeO]
      exact hmc _ _
    intro b hb
    by_cases h2 : b < O.length
    · have wb : IntKind.i64.wrap ((b : Int) + 1) = b + 1 := w64 (by omega) (by omega)
      have ev := any_take (p := fun y => benB O[a] y) h2
      have cb1 := beneath_c O[a] O[b] (by have := hou _ hOa; omega)
      have hatb : (O.map sRow)[b]? = some (sRow O[b]) := by simp [h2]
      have fin : b + 1 ≤ O.length ∧ O.length - (b + 1) < O.length - b := ⟨by omega, by omega⟩
      cases hv : (O.take b).any (fun y => benB O[a] y) with
      | true =>
        rw [hv, Bool.true_or] at ev
        simp +decide -dsimp -implicitDefEqProofs [go_sem, h2, wb]
        refine next_of (b + 1) fin.1 fin.2 (cut_of (by simp) ?_)
        simp +decide -dsimp -implicitDefEqProofs [go_sem, ev, tapeO]
        exact hmc _ _
      | false =>
        rw [hv, Bool.false_or] at ev
        simp +decide -dsimp -implicitDefEqProofs [go_sem, h, h2]
        refine callDE_pure cb1 rfl rfl ?_
        simp +decide -dsimp -implicitDefEqProofs [go_sem, wb]
        refine next_of (b + 1) fin.1 fin.2 (cut_of (by simp) ?_)
        simp +decide -dsimp -implicitDefEqProofs [go_sem, ev, tapeO]
        exact hmc _ _
    · have e2 : b = O.length := by omega
      subst e2
      rw [List.take_length]
      have cWa := cW O[a]
      obtain ⟨r1, r2, r3, hr⟩ := atRow_ex (atL L O[a])
      rw [hr, hlive _ hOa] at cWa
      simp +decide -dsimp -implicitDefEqProofs [go_sem, h, tapeO]
      refine callE_frame [1, 2] cWa rfl rfl (by simp) (by simp +decide -dsimp -implicitDefEqProofs [go_sem]) (by simp +decide -dsimp -implicitDefEqProofs [go_sem, hmr]) ?_
      cases hv : O.any (fun y => benB O[a] y) with
      | true =>
        simp +decide -dsimp -implicitDefEqProofs [go_sem, hmr, wa]
        refine next_of (a + 1) (by show a + 1 ≤ O.length; omega) (by show O.length - (a + 1) < O.length - a; omega) (cut_of (by simp) ?_)
        simp +decide -dsimp -implicitDefEqProofs [go_sem, tapeO]
        exact hmc _ _
      | false =>
        simp +decide -dsimp -implicitDefEqProofs [go_sem, hmr, wa]
        refine next_of (a + 1) (by show a + 1 ≤ O.length; omega) (by show O.length - (a + 1) < O.length - a; omega) (cut_of (by simp) ?_)
        simp +decide -dsimp -implicitDefEqProofs [go_sem, tapeO]
        exact hmc _ _
  have e2 : a = O.length := by omega
  subst e2
  simp +decide -dsimp -implicitDefEqProofs [go_sem]
end Go.Ab
