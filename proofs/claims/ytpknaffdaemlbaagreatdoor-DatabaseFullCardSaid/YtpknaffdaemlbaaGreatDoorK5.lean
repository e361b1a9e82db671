/- A layer of abstract values over the model, and what is proved with it: part K5. -/
import Derived.Test.YtpknaffdaemlbaaGreatDoorCX
import Derived.Shelf.Strings.Builder1
import Derived.Shelf.Strings.Builder2
import Derived.Shelf.Strings.OnBuilder
import Derived.Shelf.Small.Utf8
import Derived.Shelf.Small.Bits
import Derived.Shelf.Small.Strs
import Derived.Shelf.Small.Wraps
import Derived.Shelf.Strings.BuilderF
import Derived.Shelf.Utf8.RuneCount
import Derived.Shelf.Strconv.Itoa0
import Derived.Shelf.Strconv.Itoa1
import Derived.Shelf.LaysM
import Derived.Shelf.Strconv.Itoa2
import Derived.Shelf.Strconv.Itoa3
import Derived.Shelf.Strconv.Itoa4
import Derived.Shelf.Strconv.Clone
import Derived.Shelf.Strconv.SyntaxError
import Derived.Shelf.LaysC
import Derived.Shelf.Strconv.ToError
import Derived.Shelf.Strconv.RangeError
import Derived.Shelf.Strconv.ToErrorRange
import Derived.Shelf.Strings.Search1
import Derived.Shelf.Strings.Search2
import Derived.Shelf.Strings.Search3
import Derived.Shelf.Strings.Cut
import Derived.Shelf.Strings.Count
import Derived.Shelf.Strings.Shaped
import Derived.Shelf.Strings.Prefix
import Derived.Shelf.Strings.Split
import Derived.Shelf.Strings.SplitShaped
import Derived.Shelf.Unicode.Latin
import Derived.Shelf.Unicode.Decode
import Derived.Shelf.Strings.Runes
import Derived.Shelf.Strings.RuneCount
import Derived.Shelf.Strings.IndexAny
import Derived.Shelf.Strings.AsciiSet
import Derived.Shelf.Strings.IndexAnyAll
import Derived.Shelf.Strings.Explode
import Derived.Shelf.Bits.Mul64
import Derived.Shelf.Strings.Repeat
import Derived.Shelf.Unicode.DecodeSlow
import Derived.Shelf.Unicode.DecodeAny
import Derived.Shelf.Unicode.CaseLookup
import Derived.Shelf.Unicode.CaseConvert
import Derived.Shelf.Unicode.CaseTo
import Derived.Shelf.Unicode.CaseLaid
import Derived.Ground.SlgmProg
import Derived.Shelf.SortM.Plain
import Derived.Shelf.SortM.SortNone
import Derived.Test.YtpknaffdaemlbaaGreatDoorProg
import Derived.Test.YtpknaffdaemlbaaGreatDoorAA
import Derived.Test.YtpknaffdaemlbaaGreatDoorSK
import Derived.Test.YtpknaffdaemlbaaGreatDoorK3
namespace Go.Ab
open Go Go.Proofs
def c5 : AFn := ⟨(.seq (.ops [⟨(some 4), (.mov (.v (.bool false))), none⟩]) (.seq (.ops [⟨(some 5), (.mov (.v .nils)), none⟩]) (.seq (.seq (.ops [⟨(some 6), (.mov (.v (.int .i64 0))), none⟩]) (.block 0 (.loop (.seq (.seq (.ops [⟨(some 9), (.mov (.t 6)), none⟩, ⟨(some 10), (.bin .lss (.t 9) (.v (.int .i64 515))), none⟩]) (.cond (.t 10) .skip (.exit 0))) (.seq (.block 1 (.draw [⟨(some 13), (.mov (.t 5)), none⟩, ⟨(some 14), (.mov (.t 6)), none⟩, ⟨(some 15), (.bin .quo (.t 14) (.v (.int .i64 26))), none⟩, ⟨(some 16), (.bin .add (.v (.int .i64 1)) (.t 15)), none⟩, ⟨(some 17), (.call (.v (.fn (.func 25) [] [])) [(.v (.str [97])), (.t 16)]), none⟩, ⟨(some 18), (.bin .add (.v (.str [95, 50, 102])) (.t 17)), none⟩, ⟨(some 19), (.mov (.t 6)), none⟩, ⟨(some 20), (.bin .rem (.t 19) (.v (.int .i64 26))), none⟩, ⟨(some 21), (.bin .add (.v (.int .i64 97)) (.t 20)), none⟩, ⟨(some 22), (.conv .u8 (.t 21)), none⟩, ⟨(some 23), (.bslice 5 1 false [(.t 22)]), none⟩, ⟨(some 24), (.ext .b2s [(.t 23)]), none⟩, ⟨(some 25), (.bin .add (.t 18) (.t 24)), none⟩, ⟨(some 26), (.build [(.str []), (.str [])] [(0, (1, (.t 25)))]), none⟩, ⟨(some 27), (.bslice 53 2 false [(.t 26)]), none⟩, ⟨(some 28), (.append 53 2 32 (.t 13) (.t 27)), none⟩, ⟨(some 5), (.mov (.t 28)), none⟩] [0, 0, 2, 6, 14, 30, 0, 64, 192, 448, 960, 1984, 4094, 8190, 16382, 32767, 65535])) (.ops [⟨(some 11), (.mov (.t 6)), none⟩, ⟨(some 12), (.bin .add (.t 11) (.v (.int .i64 1))), none⟩, ⟨(some 6), (.mov (.t 12)), none⟩])))))) (.seq (.ops [⟨(some 29), (.mov (.t 0)), none⟩, ⟨(some 30), (.call (.v (.fn (.func 26) [] [])) [(.t 29), (.v (.int .i64 6))]), none⟩, ⟨(some 31), (.bin .add (.v (.int .i64 510)) (.t 30)), none⟩, ⟨(some 0), (.mov (.t 31)), none⟩]) (.seq (.ops [⟨(some 32), (.mov (.t 5)), none⟩, ⟨(some 33), (.mov (.t 0)), none⟩, ⟨(some 34), (.mov (.t 5)), none⟩, ⟨(some 35), (.len .sl (.t 34)), none⟩, ⟨(some 36), (.ext .least [(.t 33), (.t 35)]), none⟩, ⟨(some 37), (.slice .sl 2 (.t 32) none (some (.t 36))), none⟩, ⟨(some 38), (.call (.v (.fn (.func 27) [] [])) [(.t 37)]), none⟩, ⟨(some 7), (.mov (.t 38)), none⟩]) (.seq (.seq (.ops [⟨(some 39), (.mov (.t 7)), none⟩, ⟨(some 40), (.ext (.pnil false) [(.t 39)]), none⟩, ⟨(some 41), (.mov (.t 40)), none⟩, ⟨(some 42), (.mov (.t 7)), (some (41, false))⟩, ⟨(some 43), (.call (.v (.fn (.func 24) [] [])) [(.t 42)]), (some (41, false))⟩, ⟨(some 44), (.len .sl (.t 43)), (some (41, false))⟩, ⟨(some 45), (.mov (.t 0)), (some (41, false))⟩, ⟨(some 46), (.ext .least [(.t 45), (.v (.int .i64 512))]), (some (41, false))⟩, ⟨(some 47), (.bin .neq (.t 44) (.t 46)), (some (41, false))⟩, ⟨(some 48), (.pick (.t 41) (.v (.bool true)) (.t 47)), none⟩]) (.cond (.t 48) (.seq (.ops [⟨(some 4), (.mov (.v (.bool false))), none⟩]) .ret) .skip)) (.seq (.ops [⟨(some 8), (.mov (.v (.int .i64 0))), none⟩]) (.seq (.seq (.ops [⟨(some 49), (.mov (.t 0)), none⟩, ⟨(some 50), (.bin .geq (.t 49) (.v (.int .i64 512))), none⟩]) (.cond (.t 50) (.ops [⟨(some 8), (.mov (.v (.int .i64 261))), none⟩]) .skip)) (.seq (.seq (.ops [⟨(some 51), (.mov (.t 1)), none⟩]) (.cond (.t 51) (.seq (.ops [⟨(some 52), (.mov (.t 7)), none⟩, ⟨(some 53), (.build [(.str []), (.int .i64 0), .nils, .nils, .nils, .nils, .nils, (.str []), (.int .i64 0), (.str []), (.str []), (.int .i64 0)] [(0, (1, (.v (.str [47, 110, 101, 119])))), (1, (1, (.v (.int .i64 1))))]), none⟩, ⟨(some 54), (.call (.v (.fn (.func 18) [] [])) [(.t 52), (.t 53)]), none⟩, ⟨(some 55), (.mov (.t 8)), none⟩, ⟨(some 56), (.bin .eql (.t 54) (.t 55)), none⟩, ⟨(some 57), (.mov (.t 56)), none⟩, ⟨(some 58), (.call (.v (.fn (.func 22) [] [])) []), (some (57, true))⟩, ⟨(some 59), (.pick (.t 57) (.t 58) (.v (.bool false))), none⟩, ⟨(some 4), (.mov (.t 59)), none⟩]) .ret) .skip)) (.seq (.ops [⟨(some 60), (.mov (.t 7)), none⟩, ⟨(some 61), (.call (.v (.fn (.func 16) [] [])) [(.t 60), (.v (.str [47, 97, 97]))]), none⟩, ⟨(some 62), (.bin .eql (.t 61) (.v (.int .i64 0))), none⟩, ⟨(some 63), (.mov (.t 62)), none⟩, ⟨(some 64), (.mov (.t 7)), (some (63, true))⟩, ⟨(some 65), (.build [(.str []), (.int .i64 0), .nils, .nils, .nils, .nils, .nils, (.str []), (.int .i64 0), (.str []), (.str []), (.int .i64 0)] [(0, (1, (.v (.str [47, 110, 101, 119])))), (1, (1, (.v (.int .i64 1))))]), (some (63, true))⟩, ⟨(some 66), (.call (.v (.fn (.func 18) [] [])) [(.t 64), (.t 65)]), (some (63, true))⟩, ⟨(some 67), (.bin .eql (.t 66) (.v (.int .i64 0))), (some (63, true))⟩, ⟨(some 68), (.pick (.t 63) (.t 67) (.v (.bool false))), none⟩, ⟨(some 69), (.mov (.t 68)), none⟩, ⟨(some 70), (.mov (.t 7)), (some (69, true))⟩, ⟨(some 71), (.call (.v (.fn (.func 24) [] [])) [(.t 70)]), (some (69, true))⟩, ⟨(some 72), (.len .sl (.t 71)), (some (69, true))⟩, ⟨(some 73), (.mov (.t 0)), (some (69, true))⟩, ⟨(some 74), (.ext .least [(.t 73), (.v (.int .i64 512))]), (some (69, true))⟩, ⟨(some 75), (.bin .eql (.t 72) (.t 74)), (some (69, true))⟩, ⟨(some 76), (.pick (.t 69) (.t 75) (.v (.bool false))), none⟩, ⟨(some 77), (.mov (.t 76)), none⟩, ⟨(some 78), (.call (.v (.fn (.func 22) [] [])) []), (some (77, true))⟩, ⟨(some 79), (.pick (.t 77) (.t 78) (.v (.bool false))), none⟩, ⟨(some 4), (.mov (.t 79)), none⟩]) .ret)))))))))), 80, [(.tmp 4)]⟩
theorem c5_ok : compileF Tryz.prog [] 5 = some c5 := by kernel_rfl
end Go.Ab
namespace Go.Proofs
open Go.Shelf Go.RowKit Go.Lib Go.Sort
def Tryz.lays105_ren : Go.Shelf.Ren := ⟨fun | 105 => 25 | 212 => 53 | 99 => 54 | 165 => 55 | 166 => 56 | 170 => 57 | 169 => 58 | 263 => 89 | 264 => 90 | 206 => 91 | 240 => 92 | 241 => 93 | 276 => 127 | 277 => 128 | n => n, fun | 9 => 9 | 3 => 3 | 4 => 4 | 20 => 20 | 0 => 0 | 46 => 98 | 109 => 99 | 5 => 5 | 72 => 104 | 76 => 107 | 51 => 142 | 146 => 143 | 53 => 145 | 148 => 146 | 70 => 102 | 37 => 51 | 75 => 106 | 127 => 148 | 164 => 178 | 80 => 109 | n => n, fun | n => n⟩
theorem Tryz.lays105 : Go.Proofs.Lays.n105 Tryz.prog Tryz.lays105_ren := {
  mixed := by kernel_rfl
  f99 := Tryz.func54.trans (congrArg some (by kernel_rfl))
  f105 := Tryz.func25.trans (congrArg some (by kernel_rfl))
  f165 := Tryz.func55.trans (congrArg some (by kernel_rfl))
  f166 := Tryz.func56.trans (congrArg some (by kernel_rfl))
  f169 := Tryz.func58.trans (congrArg some (by kernel_rfl))
  f170 := Tryz.func57.trans (congrArg some (by kernel_rfl))
  f206 := Tryz.func91.trans (congrArg some (by kernel_rfl))
  f212 := Tryz.func53.trans (congrArg some (by kernel_rfl))
  f240 := Tryz.func92.trans (congrArg some (by kernel_rfl))
  f241 := Tryz.func93.trans (congrArg some (by kernel_rfl))
  f263 := Tryz.func89.trans (congrArg some (by kernel_rfl))
  f264 := Tryz.func90.trans (congrArg some (by kernel_rfl))
  f276 := Tryz.func127.trans (congrArg some (by kernel_rfl))
  f277 := Tryz.func128.trans (congrArg some (by kernel_rfl))
  t0 := Tryz.underlying0
  a0 := Tryz.isAgg0
  z0 := Tryz.sizeOf0
  v0 := Tryz.zeroValue0
  t3 := Tryz.underlying3
  a3 := Tryz.isAgg3
  z3 := Tryz.sizeOf3
  v3 := Tryz.zeroValue3
  t4 := Tryz.underlying4
  a4 := Tryz.isAgg4
  z4 := Tryz.sizeOf4
  v4 := Tryz.zeroValue4
  t5 := Tryz.underlying5
  a5 := Tryz.isAgg5
  z5 := Tryz.sizeOf5
  v5 := Tryz.zeroValue5
  t9 := Tryz.underlying9
  a9 := Tryz.isAgg9
  z9 := Tryz.sizeOf9
  v9 := Tryz.zeroValue9
  t20 := Tryz.underlying20
  a20 := Tryz.isAgg20
  z20 := Tryz.sizeOf20
  v20 := Tryz.zeroValue20
  t37 := Tryz.underlying51
  a37 := Tryz.isAgg51
  z37 := Tryz.sizeOf51
  v37 := Tryz.zeroValue51
  t46 := Tryz.underlying98
  a46 := Tryz.isAgg98
  z46 := Tryz.sizeOf98
  v46 := Tryz.zeroValue98
  t51 := Tryz.underlying142
  a51 := Tryz.isAgg142
  z51 := Tryz.sizeOf142
  v51 := Tryz.zeroValue142
  t53 := Tryz.underlying145
  a53 := Tryz.isAgg145
  z53 := Tryz.sizeOf145
  v53 := Tryz.zeroValue145
  t70 := Tryz.underlying102
  a70 := Tryz.isAgg102
  z70 := Tryz.sizeOf102
  v70 := Tryz.zeroValue102
  t72 := Tryz.underlying104
  a72 := Tryz.isAgg104
  z72 := Tryz.sizeOf104
  v72 := Tryz.zeroValue104
  t75 := Tryz.underlying106
  a75 := Tryz.isAgg106
  z75 := Tryz.sizeOf106
  v75 := Tryz.zeroValue106
  t76 := Tryz.underlying107
  a76 := Tryz.isAgg107
  z76 := Tryz.sizeOf107
  v76 := Tryz.zeroValue107
  t109 := Tryz.underlying99
  a109 := Tryz.isAgg99
  z109 := Tryz.sizeOf99
  v109 := Tryz.zeroValue99
  t127 := Tryz.underlying148
  a127 := Tryz.isAgg148
  z127 := Tryz.sizeOf148
  v127 := Tryz.zeroValue148
  t146 := Tryz.underlying143
  a146 := Tryz.isAgg143
  z146 := Tryz.sizeOf143
  v146 := Tryz.zeroValue143
  t148 := Tryz.underlying146
  a148 := Tryz.isAgg146
  z148 := Tryz.sizeOf146
  v148 := Tryz.zeroValue146
  t164 := Tryz.underlying178
  a164 := Tryz.isAgg178
  z164 := Tryz.sizeOf178
  v164 := Tryz.zeroValue178 }
theorem Tryz.Builder_Extra_105 : Builder.Extra Tryz.prog Tryz.lays105_ren := {
  sizeBuilder := by kernel_rfl
  liesBuilder := by kernel_rfl
  t5 := Tryz.underlying5
  a5 := Tryz.isAgg5
  z5 := Tryz.sizeOf5
  v5 := Tryz.zeroValue5
  infoByte := by kernel_rfl
  cellsByte := by kernel_rfl
  sizeByte := by kernel_rfl
  neB5 := by decide }
theorem Tryz.strings_Repeat_main (s : ByteArray) (c : Nat) (w : World) (hc2 : 2 ≤ c) (hc : c ≤ 9223372036854775807) (hlen : s.size * c ≤ 140737488355328) (h0 : 0 < s.size) :
    Calls Tryz.prog 25 #[.string s, .int .i64 c] w fun e w' => e = .returned (.string ⟨(Lib.repeatL s.data.toList c).toArray⟩) ∧ Below w.heap.size w w' := Any.strings_Repeat_main Tryz.lays105 Tryz.Builder_Extra_105 s c w hc2 hc hlen h0
theorem Tryz.strings_Repeat_one (s : ByteArray) (w : World) :
    Calls Tryz.prog 25 #[.string s, .int .i64 1] w fun e w' => e = .returned (.string s) ∧ w' = w := Any.strings_Repeat_one Tryz.lays105 s w
end Go.Proofs
namespace Go.Ab
open Go Go.Proofs
theorem renLL_eR (is : List Nat) (l : List (List UInt8 × List UInt8)) : renLL is (l.map eRow) = l.map eRow := by
  induction l with
  | nil => rfl
  | cons x r ih => simp [renLL, ih, eRow, renL, ren]
/-- The name of the i-th entry. -/
def nmF (i : Nat) : List UInt8 := [95, 50, 102] ++ (List.replicate (1 + i / 26) 97 ++ [UInt8.ofNat (97 + i % 26)])
theorem nmF_len (i : Nat) : (nmF i).length = 5 + i / 26 := by simp [nmF]; omega
theorem nmF_inj {i j : Nat} (h : nmF i = nmF j) : i = j := by
  have h1 := congrArg List.length h
  rw [nmF_len, nmF_len] at h1
  have h2 : i / 26 = j / 26 := by omega
  have h3 := congrArg List.getLast? h
  simp only [nmF, ← List.append_assoc, List.getLast?_concat, Option.some.injEq] at h3
  have h4 := congrArg UInt8.toNat h3
  have a : i % 26 < 26 := Nat.mod_lt _ (by omega)
  have b : j % 26 < 26 := Nat.mod_lt _ (by omega)
  rw [UInt8.toNat_ofNat', UInt8.toNat_ofNat'] at h4
  have e1 := Nat.div_add_mod i 26
  have e2 := Nat.div_add_mod j 26
  omega
def fullM (k : Nat) : TMap := (List.range k).map fun i => some (nmF i, [])
def rawE (i : Nat) : List UInt8 × List UInt8 := (nmF i, [])
theorem fullM_succ (k : Nat) : fullM (k + 1) = fullM k ++ [some (nmF k, [])] := by simp [fullM, List.range_succ]
theorem set_new {β : Type} {k : List UInt8} {v : β} : ∀ {m : SMap β}, getS k m = none → setS k v m = m ++ [some (k, v)]
  | [], _ => rfl
  | none :: r, h => by simp only [setS, List.cons_append, set_new (m := r) (by simpa [getS] using h)]
  | some p :: r, h => by
    simp only [getS] at h
    split at h
    · cases h
    · rename_i hne
      simp only [setS, if_neg hne, List.cons_append, set_new (m := r) h]
theorem get_app {β : Type} {k : List UInt8} : ∀ {m m' : SMap β}, getS k (m ++ m') = (getS k m).or (getS k m')
  | [], _ => by simp [getS]
  | none :: r, m' => by simp only [List.cons_append, getS, get_app (m := r)]
  | some p :: r, m' => by
    simp only [List.cons_append, getS]
    split
    · rfl
    · exact get_app (m := r)
theorem fullM_get (k : Nat) (x : List UInt8) : getS x (fullM k) = if ∃ i, i < k ∧ nmF i = x then some [] else none := by
  induction k with
  | zero => simp [fullM, getS]
  | succ k ih =>
    rw [fullM_succ, get_app, ih]
    by_cases h : ∃ i, i < k ∧ nmF i = x
    · obtain ⟨i, hi, he⟩ := h
      rw [if_pos ⟨i, hi, he⟩, if_pos ⟨i, by omega, he⟩]; rfl
    · rw [if_neg h]
      by_cases h2 : nmF k = x
      · rw [if_pos ⟨k, by omega, h2⟩]; simp [getS, h2]
      · have : ¬ ∃ i, i < k + 1 ∧ nmF i = x := fun ⟨i, hi, he⟩ => by
          by_cases h3 : i = k
          · exact h2 (h3 ▸ he)
          · exact h ⟨i, by omega, he⟩
        rw [if_neg this]; simp [getS, h2]
theorem fullM_new (k : Nat) : getS (nmF k) (fullM k) = none := by
  rw [fullM_get, if_neg]
  rintro ⟨i, hi, he⟩
  have := nmF_inj he
  omega
theorem fullM_fine (k : Nat) (hk : k ≤ 600) : Fine (fullM k) k := by
  induction k with
  | zero => exact .nil
  | succ k ih =>
    have h := (ih (by omega)).set (k := nmF k) (v := []) (by rw [nmF_len]; have := Nat.div_le_self k 26; omega) (by simp)
    rwa [set_new (fullM_new k), ← fullM_succ] at h
theorem cnt_app {β : Type} : ∀ (m m' : SMap β), cntS (m ++ m') = cntS m + cntS m'
  | [], m' => by simp [cntS]
  | none :: r, m' => by simp only [List.cons_append, cntS, cnt_app r]
  | some p :: r, m' => by simp only [List.cons_append, cntS, cnt_app r]; omega
theorem fullM_cnt (k : Nat) : cntS (fullM k) = k := by
  induction k with
  | zero => rfl
  | succ k ih => rw [fullM_succ, cnt_app, ih]; rfl
theorem loadM_full (n : Nat) : loadM ((List.range n).map rawE) = fullM (min n 512) := by
  induction n with
  | zero => rfl
  | succ n ih =>
    unfold loadM at ih ⊢
    rw [List.range_succ, List.map_append, List.foldl_append, ih]
    show loadE (fullM (min n 512)) (rawE n) = _
    unfold loadE rawE
    by_cases h : n < 512
    · have e1 : min n 512 = n := by omega
      have e2 : min (n + 1) 512 = n + 1 := by omega
      rw [e1, e2, if_pos (.inr (by rw [fullM_cnt]; exact h)), set_new (fullM_new n), fullM_succ]
    · have e1 : min n 512 = 512 := by omega
      have e2 : min (n + 1) 512 = 512 := by omega
      rw [e1, e2, if_neg]
      rintro (h1 | h1)
      · rw [fullM_get, if_neg] at h1
        · cases h1
        · rintro ⟨i, hi, he⟩
          have := nmF_inj he
          omega
      · rw [fullM_cnt] at h1; omega
def newP : List UInt8 := [47, 110, 101, 119]
theorem newP_place : placeB newP = true := by decide +kernel
theorem entNew : entL newP = [95, 50, 102, 110, 101, 119] := by decide +kernel
theorem entAa : entL [47, 97, 97] = nmF 0 := by decide +kernel
theorem newP_not (k : Nat) : getS (entL newP) (fullM k) = none := by
  rw [fullM_get, if_neg]
  rintro ⟨i, _, he⟩
  rw [entNew] at he
  have h3 := congrArg (fun l : List UInt8 => l[3]?) he
  simp only [nmF, List.cons_append, List.nil_append, List.getElem?_cons_succ] at h3
  rw [show 1 + i / 26 = i / 26 + 1 by omega, List.replicate_succ] at h3
  simp at h3
theorem ents_len {m : TMap} : (entsL m).length = cntS m := by unfold entsL; rw [List.length_map, srtK_len, ksS_len]
theorem cnt_del_has {k : List UInt8} : ∀ {m : TMap}, getS k m ≠ none → cntS (delS k m) + 1 = cntS m
  | [], h => absurd rfl h
  | none :: r, h => by simp only [delS, cntS]; exact cnt_del_has (m := r) (by simpa [getS] using h)
  | some p :: r, h => by
    simp only [getS] at h
    simp only [delS]
    split
    · rfl
    · rename_i hne
      rw [if_neg hne] at h
      simp only [cntS]
      have := cnt_del_has (m := r) h
      omega
theorem cnt_set_new {k : List UInt8} {v : List UInt8} {m : TMap} (h : getS k m = none) : cntS (setS k v m) = cntS m + 1 := by
  rw [set_new h, cnt_app]; rfl
theorem rep_c (c : Nat) (h1 : 1 ≤ c) (h2 : c ≤ 100000) : ACalls Tryz.prog 25 [.str [97], .int .i64 c] [] (.str (List.replicate c 97)) [] := by
  refine .of_below (by kernel_rfl) fun cx vs hv hg => ?_
  simp only [Vals, Val] at hv
  obtain ⟨v, vs', rfl, rfl, v2, vs2, rfl, rfl, rfl⟩ := hv
  have hr : ∀ c, Lib.repeatL [97] c = List.replicate c 97 := fun c => by
    induction c with
    | zero => rfl
    | succ c ih => rw [Lib.repeatL, ih]; rfl
  by_cases h : c = 1
  · subst h
    refine (Tryz.strings_Repeat_one _ cx.w).mono fun e w' hq => ?_
    obtain ⟨rfl, rfl⟩ := hq
    exact ⟨_, rfl, Go.RowKit.Below.refl _ _, fun c' => by simp only [Val]; rfl⟩
  · refine (Tryz.strings_Repeat_main ⟨#[97]⟩ c cx.w (by omega) (by omega) (by show 1 * c ≤ _; omega) (by show 0 < 1; omega)).mono fun e w' hq => ?_
    obtain ⟨rfl, hb⟩ := hq
    exact ⟨_, rfl, hb, fun c' => by simp only [Val]; rw [← hr]⟩
set_option maxRecDepth 20000 in
set_option maxHeartbeats 2000000 in
theorem PutFull_c (dur seen : TMap) (pend : List Wr) (r : Rcd) (hS : soundB r = true) (hg : getS (entL r.path) seen = none) (hc : 512 ≤ cntS seen) :
    ACalls Tryz.prog 18 [.ptr 0 0, .agg (rRow r)] (dbO dur seen pend) (.int .i64 261) (dbO dur seen pend) := by
  have hsm := small_of hS
  have ce := Encode_c r hsm.few
  rw [(chk_ok hS).1, (chk_ok hS).2] at ce
  have cn := Entry_c r.path (by have := hsm.path; omega)
  unfold entV at cn
  simp only [sound_place hS, if_true] at cn
  have hk := keys_smK AV.str (entL r.path) seen
  have hf := find_smK AV.str (entL r.path) seen
  have hl := live_smK AV.str seen
  have hcl := wRows_cl
  have hsc : ∀ (m : TMap) (k : Nat) (a b : AV), (a, b) ∈ smK .str m → closed k a = true ∧ closed k b = true := fun m k => smK_clm (k := k) fun _ => rfl
  have hlt : (512 : Int) ≤ (cntS seen : Int) := by omega
  rw [hg] at hf
  refine acalls_F c18_ok rfl ?_
  unfold c18
  unfold dbO dbB mO
  simp +decide -dsimp -implicitDefEqProofs [go_sem, rRow_len, rRow_take]
  refine callE_pure ce (by simp +decide -dsimp -implicitDefEqProofs [go_sem, rRow_cl]) rfl ?_
  unfold rRow
  simp +decide -dsimp -implicitDefEqProofs [go_sem]
  refine callE_pure cn rfl rfl ?_
  simp +decide -dsimp -implicitDefEqProofs [go_sem, hk, hf, hl, hlt, hcl]
  (repeat' apply And.intro) <;> first | exact hsc _ _ | exact hcl _ _ | rfl
end Go.Ab
namespace Go.Ab
open Go Go.Proofs
def fRow (j : Nat) : List AV := [.str (nmF j), .str []]
theorem fRows (n : Nat) : (List.range n).map fRow = ((List.range n).map rawE).map eRow := by rw [List.map_map]; rfl
set_option maxRecDepth 20000 in
set_option maxHeartbeats 8000000 in
theorem DatabaseFull_c (n : Int) (more : Bool) : ACalls Tryz.prog 5 [.int .i64 n, .bool more] [] (.bool true) [] := by
  have hcl := wRows_cl
  have hwr := wRows_ren
  have hsr := smK_renS
  have hn0 : ∀ (is : List Nat), renLL is [] = [] := fun _ => rfl
  have hwc : ∀ (w : Wr) (r : List (List AV)) (is : List Nat), renLL is (wRow w :: r) = wRow w :: renLL is r := fun w r is => by rw [renLL]; simp [wRow, renL, wAV_ren]
  have hfr : ∀ (k n : Nat), closedLL k ((List.range n).map fRow) = true := fun k n => closedLL_map fun _ _ => rfl
  refine acalls_F c5_ok rfl ?_
  unfold c5
  simp +decide -dsimp -implicitDefEqProofs [go_sem]
  refine loop_ofW (S := Nat) (fun i => ⟨tmps 80 [(0, .int .i64 n), (1, .bool more), (5, .own 0 i), (6, .int .i64 i)], [.reg 53 2 ((List.range i).map fRow)]⟩) (fun i => 515 - i) (fun i => i ≤ 515) 0 (by simp) ((Wk.nilT 5 53 2 rfl (by simp)).trans (cut_of (by simp) ?_)) ?_
  · simp +decide -dsimp -implicitDefEqProofs [go_sem]
  intro i hi
  by_cases h : i < 515
  · have h' : (i : Int) < 515 := by omega
    have w : IntKind.i64.wrap ((i : Int) + 1) = i + 1 := w64 (by omega) (by omega)
    have hdv := Nat.div_le_self i 26
    have q1 : IntKind.i64.wrap ((i : Int) / 26) = (i : Int) / 26 := w64 (by omega) (by omega)
    have q2 : IntKind.i64.wrap (1 + (i : Int) / 26) = 1 + (i : Int) / 26 := w64 (by omega) (by omega)
    have cr := rep_c (1 + i / 26) (by omega) (by omega)
    rw [show ((1 + i / 26 : Nat) : Int) = 1 + (i : Int) / 26 by omega] at cr
    simp +decide -dsimp -implicitDefEqProofs [go_sem, h', q1, q2]
    have hub : unb [[AV.int .u8 (IntKind.u8.wrap (IntKind.i64.wrap (97 + (i : Int).tmod 26)))]] = some [UInt8.ofNat (97 + i % 26)] := by
      have hm : i % 26 < 26 := Nat.mod_lt _ (by omega)
      have e26 : (i : Int).tmod 26 = ((i % 26 : Nat) : Int) := by rw [Int.natCast_emod]; exact Int.tmod_eq_emod_of_nonneg (by omega)
      have e1 : IntKind.i64.wrap (97 + (i : Int).tmod 26) = ((97 + i % 26 : Nat) : Int) := by rw [e26, w64 (by omega) (by omega)]; omega
      have e2 : IntKind.u8.wrap ((97 + i % 26 : Nat) : Int) = ((97 + i % 26 : Nat) : Int) := by
        simp only [IntKind.wrap, IntKind.bits, IntKind.signed]
        simp
        omega
      rw [e1, e2]
      exact unb_one (by omega)
    obtain ⟨bb, hbb⟩ : ∃ b, b = UInt8.ofNat (97 + i % 26) := ⟨_, rfl⟩
    have hap : (List.range i).map fRow ++ [[AV.str (95 :: 50 :: 102 :: (List.replicate (1 + i / 26) 97 ++ [bb])), .str []]] = (List.range (i + 1)).map fRow := by
      rw [hbb, List.range_succ, List.map_append]; rfl
    rw [← hbb] at hub
    refine callDE_pure cr rfl rfl ?_
    simp +decide -dsimp -implicitDefEqProofs [go_sem, w, hub, maxLen]
    refine ⟨by omega, by omega, ⟨by omega, by omega⟩, ?_⟩
    rw [hap]
    refine next_of (i + 1) (by show i + 1 ≤ 515; omega) (by show 515 - (i + 1) < 515 - i; omega) (cut_of (by simp) ?_)
    simp +decide -dsimp -implicitDefEqProofs [go_sem, hfr]
    rfl
  · have h' : ¬ (i : Int) < 515 := by omega
    have hi5 : (i : Int) = 515 := by omega
    have cf := Fold_c n 6 (by omega)
    have bf := fold_bd n 6 (by omega)
    obtain ⟨g, hg⟩ : ∃ g : Nat, fold n 6 = g := ⟨_, (Int.toNat_of_nonneg bf.1).symm⟩
    rw [hg] at cf bf
    have wg : IntKind.i64.wrap (510 + (g : Int)) = 510 + g := w64 (by omega) (by omega)
    have hlt : ¬ (515 : Int) < 510 + g := by omega
    have cL := Load_c ((List.range (510 + g)).map rawE) (by simp; omega)
    rw [loadM_full, ← fRows] at cL
    simp +decide -dsimp -implicitDefEqProofs [go_sem, h']
    refine wk_of ⟨tmps 80 [(0, .int .i64 n), (1, .bool more), (5, .imm ((List.range i).map fRow))], []⟩ (cut_of (by simp) ?_) ?_
    · simp +decide -dsimp -implicitDefEqProofs [go_sem, hfr]
    simp +decide -dsimp -implicitDefEqProofs [go_sem]
    refine callE_pure cf rfl rfl ?_
    have htk : List.take (510 + (g : Int)).toNat (List.map fRow (List.range i)) = (List.range (510 + g)).map fRow := by
      have e1 : (510 + (g : Int)).toNat = 510 + g := by omega
      rw [e1, ← List.map_take, List.take_range, Nat.min_eq_left (by omega)]
    have hle : (510 : Int) + g ≤ 515 := by omega
    have hz : (0 : Int) ≤ 510 + g := by omega
    simp +decide -dsimp -implicitDefEqProofs [go_sem, wg, hi5, hlt, htk, hle, hz]
    refine ⟨fun _ _ => rfl, ?_⟩
    obtain ⟨K, hK⟩ : ∃ K, K = min (510 + g) 512 := ⟨_, rfl⟩
    rw [← hK] at cL
    have hFM := fullM_fine K (by omega)
    have hcn := fullM_cnt K
    have cE := hFM.ents (dur := fullM K) (pend := []) (by omega)
    have hne := newP_not K
    have hS : soundB (rX newP 1) = true := rX_sound newP_place (by decide)
    have hlen := ents_len (m := fullM K)
    rw [hcn] at hlen
    have c1 := PutFull_c (fullM K) (fullM K) [] (rX newP 1) hS hne
    have c2 := Put_c (fullM K) (fullM K) [] (rX newP 1) hS (by simp)
    rw [hcn] at c1 c2
    have haa : getS (entL [47, 97, 97]) (fullM K) ≠ none := by
      rw [entAa, fullM_get, if_pos ⟨0, by omega, rfl⟩]; simp
    have c3 := (Delete_c (fullM K) (fullM K) [] [47, 97, 97] (by decide +kernel) (by simp) (by simp)).1 haa
    have hcd := cnt_del_has haa
    rw [hcn] at hcd
    have hFD := hFM.del (entL [47, 97, 97])
    have hnd : getS (entL newP) (delS (entL [47, 97, 97]) (fullM K)) = none := by
      rw [get_del _ _ hFM.o]; split <;> first | rfl | exact hne
    have c4 := Put_c (fullM K) (delS (entL [47, 97, 97]) (fullM K)) ([] ++ [(entL [47, 97, 97], none)]) (rX newP 1) hS (by simp) (by omega)
    have hFE := hFD.set (k := entL newP) (v := encT (rX newP 1)) (by rw [entNew]; simp) (enc_small hS)
    have c5 := hFE.ents (dur := fullM K) (pend := [] ++ [(entL [47, 97, 97], none)] ++ [(entL newP, some (encT (rX newP 1)))]) (by omega)
    have hlen2 := ents_len (m := setS (entL newP) (encT (rX newP 1)) (delS (entL [47, 97, 97]) (fullM K)))
    rw [cnt_set_new hnd] at hlen2
    have e1 : (rX newP 1).path = newP := rfl
    rw [e1] at c2 c4
    have row1 : ∀ p i, rRow (rX p i) = [.str p, .int .i64 i, .imm [], .imm [], .imm [], .imm [], .imm [], .str [], .int .i64 0, .str [], .str [], .int .i64 0] := fun p i => by simp [rRow, rX]
    rw [row1] at c1 c2 c4
    have hK2 : (if (512 : Int) < 510 + g then 512 else 510 + (g : Int)) = (K : Int) := by split <;> omega
    obtain ⟨w1, hw1⟩ : ∃ w : Wr, w = (entL newP, some (encT (rX newP 1))) := ⟨_, rfl⟩
    obtain ⟨w2, hw2⟩ : ∃ w : Wr, w = (entL [47, 97, 97], none) := ⟨_, rfl⟩
    rw [← hw1] at c2 c4 c5
    rw [← hw2] at c3 c4 c5
    clear hw1 hw2
    generalize setS (entL newP) (encT (rX newP 1)) (delS (entL [47, 97, 97]) (fullM K)) = m3 at c4 c5 hlen2
    generalize setS (entL newP) (encT (rX newP 1)) (fullM K) = m4 at c2
    generalize delS (entL [47, 97, 97]) (fullM K) = m2 at c3 c4 hlen2 hcd
    generalize hEE : entsL m3 = E2 at c5 hlen2
    clear hEE
    generalize entsL (fullM K) = E1 at cE hlen
    clear haa hne hFM hFD hFE hnd hcn
    generalize fullM K = m at *
    unfold entsV at cE c5
    simp only [dbO, dbB, mO, List.nil_append, List.map_cons, List.map_nil, List.length_nil, List.length_cons, newP] at cL cE c1 c2 c3 c4 c5
    have hE2 : (E2.length : Int) = K := by omega
    have hE1 : (E1.length : Int) = K := by omega
    have her := renLL_eR
    have hfrr : ∀ (is : List Nat) (n : Nat), renLL is ((List.range n).map fRow) = (List.range n).map fRow := fun is n => by rw [fRows, renLL_eR]
    refine callE_grow [] 4 cL rfl (fun v G h => by rw [h.2]; rfl) (by show (List.range' 0 4).Nodup; decide) (by show [AV.imm _] = renL _ [AV.imm _]; simp only [renL, ren, hfrr]) (by simp) ?_
    rintro _ _ ⟨rfl, rfl⟩
    simp +decide -dsimp -implicitDefEqProofs [go_sem, hsr, hn0]
    refine callE_frame [0, 1, 2, 3] cE rfl rfl (by simp) (by simp +decide -dsimp -implicitDefEqProofs [go_sem]) (by simp +decide -dsimp -implicitDefEqProofs [go_sem, hsr, hn0]) ?_
    by_cases hf : 512 ≤ 510 + g
    · have hf' : (512 : Int) ≤ 510 + g := by omega
      simp +decide -dsimp -implicitDefEqProofs [go_sem, hsr, hn0, her, hE1, hK2, hf']
      have c1 := c1 (by omega)
      cases more with
      | true =>
        simp only [if_true]
        refine callE_nle [.ptr 0 0, .agg [.str [47, 110, 101, 119], .int .i64 1, .imm [], .imm [], .imm [], .imm [], .imm [], .str [], .int .i64 0, .str [], .str [], .int .i64 0]] (by simp [nleL, nle]) (callE_frame [0, 1, 2, 3] c1 rfl rfl (by simp) (by simp +decide -dsimp -implicitDefEqProofs [go_sem]) (by simp +decide -dsimp -implicitDefEqProofs [go_sem, hsr, hn0]) ?_)
        simp +decide -dsimp -implicitDefEqProofs [go_sem, hsr, hn0]
        refine callE_pure known_c rfl rfl ?_
        simp +decide -dsimp -implicitDefEqProofs [go_sem]
      | false =>
        simp only [Bool.false_eq_true, if_false]
        refine callE_frame [0, 1, 2, 3] c3 rfl rfl (by simp) (by simp +decide -dsimp -implicitDefEqProofs [go_sem]) (by simp +decide -dsimp -implicitDefEqProofs [go_sem, hsr, hn0]) ?_
        simp +decide -dsimp -implicitDefEqProofs [go_sem, hsr, hn0, hwc]
        refine callE_nle [.ptr 0 0, .agg [.str [47, 110, 101, 119], .int .i64 1, .imm [], .imm [], .imm [], .imm [], .imm [], .str [], .int .i64 0, .str [], .str [], .int .i64 0]] (by simp [nleL, nle]) (callE_frame [0, 1, 2, 3] c4 rfl rfl (by simp) (by simp +decide -dsimp -implicitDefEqProofs [go_sem]) (by simp +decide -dsimp -implicitDefEqProofs [go_sem, hsr, hn0, hwc]) ?_)
        simp +decide -dsimp -implicitDefEqProofs [go_sem, hsr, hn0, hwc]
        refine callE_frame [0, 1, 2, 3] c5 rfl rfl (by simp) (by simp +decide -dsimp -implicitDefEqProofs [go_sem]) (by simp +decide -dsimp -implicitDefEqProofs [go_sem, hsr, hn0, hwc]) ?_
        simp +decide -dsimp -implicitDefEqProofs [go_sem, hsr, hn0, hwc, her, hE2, hK2]
        refine callE_pure known_c rfl rfl ?_
        simp +decide -dsimp -implicitDefEqProofs [go_sem]
    · have hf' : ¬ (512 : Int) ≤ 510 + g := by omega
      simp +decide -dsimp -implicitDefEqProofs [go_sem, hsr, hn0, her, hE1, hK2, hf']
      have c2 := c2 (by omega)
      cases more with
      | true =>
        simp only [if_true]
        refine callE_nle [.ptr 0 0, .agg [.str [47, 110, 101, 119], .int .i64 1, .imm [], .imm [], .imm [], .imm [], .imm [], .str [], .int .i64 0, .str [], .str [], .int .i64 0]] (by simp [nleL, nle]) (callE_frame [0, 1, 2, 3] c2 rfl rfl (by simp) (by simp +decide -dsimp -implicitDefEqProofs [go_sem]) (by simp +decide -dsimp -implicitDefEqProofs [go_sem, hsr, hn0]) ?_)
        simp +decide -dsimp -implicitDefEqProofs [go_sem, hsr, hn0, hwc]
        refine callE_pure known_c rfl rfl ?_
        simp +decide -dsimp -implicitDefEqProofs [go_sem]
      | false =>
        simp only [Bool.false_eq_true, if_false]
        refine callE_frame [0, 1, 2, 3] c3 rfl rfl (by simp) (by simp +decide -dsimp -implicitDefEqProofs [go_sem]) (by simp +decide -dsimp -implicitDefEqProofs [go_sem, hsr, hn0]) ?_
        simp +decide -dsimp -implicitDefEqProofs [go_sem, hsr, hn0, hwc]
        refine callE_nle [.ptr 0 0, .agg [.str [47, 110, 101, 119], .int .i64 1, .imm [], .imm [], .imm [], .imm [], .imm [], .str [], .int .i64 0, .str [], .str [], .int .i64 0]] (by simp [nleL, nle]) (callE_frame [0, 1, 2, 3] c4 rfl rfl (by simp) (by simp +decide -dsimp -implicitDefEqProofs [go_sem]) (by simp +decide -dsimp -implicitDefEqProofs [go_sem, hsr, hn0, hwc]) ?_)
        simp +decide -dsimp -implicitDefEqProofs [go_sem, hsr, hn0, hwc]
        refine callE_frame [0, 1, 2, 3] c5 rfl rfl (by simp) (by simp +decide -dsimp -implicitDefEqProofs [go_sem]) (by simp +decide -dsimp -implicitDefEqProofs [go_sem, hsr, hn0, hwc]) ?_
        simp +decide -dsimp -implicitDefEqProofs [go_sem, hsr, hn0, hwc, her, hE2, hK2]
        refine callE_pure known_c rfl rfl ?_
        simp +decide -dsimp -implicitDefEqProofs [go_sem]
end Go.Ab
