/- A layer of abstract values over the model, and what is proved with it: part C2. -/
import Derived.Shelf.Strings.Builder1
import Derived.Shelf.Strings.Builder2
import Derived.Shelf.Strings.OnBuilder
import Derived.Shelf.Small.Utf8
import Derived.Shelf.Small.Bits
import Derived.Shelf.Small.Strs
import Derived.Shelf.Small.Wraps
import Derived.Shelf.Strings.BuilderF
import Derived.Shelf.Strings.BuilderK
import Derived.Shelf.Utf8.RuneCount
import Derived.Shelf.Strings.Builder2Cap
import Derived.Shelf.Strconv.Itoa0
import Derived.Shelf.Strings.Search1
import Derived.Shelf.Strings.Search2
import Derived.Shelf.Strings.Search3
import Derived.Shelf.Strings.Count
import Derived.Shelf.LaysM
import Derived.Shelf.Strings.Shaped
import Derived.Shelf.Sort.Plain
import Derived.Ground.GgsProg
import Derived.Shelf.GgSortFunc.Insertion
import Derived.Shelf.GgSortFunc.Small
import Derived.Shelf.GgSortFunc.InsertionK
import Derived.Shelf.GgSortFunc.SmallK
import Derived.Shelf.GgSortFunc.Compose
import Derived.Shelf.GgSortFunc.LotD
import Derived.Shelf.Strings.Prefix
import Derived.Shelf.Strings.Split
import Derived.Shelf.Strings.SplitShaped
import Derived.Shelf.Unicode.Latin
import Derived.Shelf.Unicode.Decode
import Derived.Shelf.Strings.RuneCount
import Derived.Shelf.Strings.Explode
import Derived.Shelf.Unicode.DecodeSlow
import Derived.Shelf.Unicode.DecodeAny
import Derived.Shelf.Unicode.CaseLookup
import Derived.Shelf.Unicode.CaseConvert
import Derived.Shelf.Unicode.CaseTo
import Derived.Shelf.Unicode.CaseLaid
import Derived.Ground.Names2Prog
import Derived.Shelf.Slices.Clone
import Derived.Shelf.Slices.CompactS
import Derived.Shelf.Slices.Cells
import Derived.Shelf.Slices.In.SortNone
import Derived.Shelf.SlSortFunc.Xorshift
import Derived.Shelf.SlSortFuncK.ComposeK
import Derived.Shelf.SlSortFuncK.SiftDownK
import Derived.Shelf.SlSortFuncK.HeapSortK
import Derived.Shelf.SlSortFuncK.PartialInsertionK
import Derived.Shelf.SlSortFuncK.LotDK
import Derived.Shelf.SlSortFuncK.PivotK
import Derived.Shelf.SlSortFuncK.PartitionK
import Derived.Ground.SlgnProg
import Derived.Shelf.SlicesE.Clone
import Derived.Test.YtfgannpogjphoaaGreatDoorProg
import Derived.Shelf.SlIter.Nil
import Derived.Shelf.SlIter.Collect
namespace Go.Proofs
open Go.Shelf Go.RowKit Go.Lib Go.Sort
def Tryz.lays159_ren : Go.Shelf.Ren := ⟨fun | 159 => 126 | 165 => 150 | 166 => 151 | 167 => 152 | 169 => 153 | 230 => 154 | 204 => 155 | 240 => 167 | 241 => 168 | 197 => 157 | 118 => 169 | 168 => 170 | 270 => 171 | 262 => 172 | 276 => 180 | 277 => 181 | 260 => 173 | 242 => 182 | 313 => 183 | 278 => 185 | 274 => 186 | 275 => 187 | n => n, fun | 9 => 9 | 4 => 4 | 3 => 3 | 5 => 5 | 72 => 172 | 0 => 0 | 76 => 176 | 75 => 175 | 107 => 181 | 70 => 169 | 20 => 20 | 37 => 170 | 127 => 192 | 21 => 21 | 105 => 183 | 164 => 114 | 162 => 202 | 203 => 200 | 119 => 203 | 46 => 106 | 139 => 206 | 138 => 205 | 51 => 137 | 160 => 209 | 208 => 215 | 206 => 213 | 80 => 179 | n => n, fun | 13 => 1 | 3 => 2 | 4 => 3 | n => n⟩
theorem Tryz.lays159 : Go.Proofs.Lays.n159 Tryz.prog Tryz.lays159_ren := {
  mixed := by kernel_rfl
  f118 := Tryz.func169.trans (congrArg some (by kernel_rfl))
  f159 := Tryz.func126.trans (congrArg some (by kernel_rfl))
  f165 := Tryz.func150.trans (congrArg some (by kernel_rfl))
  f166 := Tryz.func151.trans (congrArg some (by kernel_rfl))
  f167 := Tryz.func152.trans (congrArg some (by kernel_rfl))
  f168 := Tryz.func170.trans (congrArg some (by kernel_rfl))
  f169 := Tryz.func153.trans (congrArg some (by kernel_rfl))
  f197 := Tryz.func157.trans (congrArg some (by kernel_rfl))
  f204 := Tryz.func155.trans (congrArg some (by kernel_rfl))
  f230 := Tryz.func154.trans (congrArg some (by kernel_rfl))
  f240 := Tryz.func167.trans (congrArg some (by kernel_rfl))
  f241 := Tryz.func168.trans (congrArg some (by kernel_rfl))
  f242 := Tryz.func182.trans (congrArg some (by kernel_rfl))
  f260 := Tryz.func173.trans (congrArg some (by kernel_rfl))
  f262 := Tryz.func172.trans (congrArg some (by kernel_rfl))
  f270 := Tryz.func171.trans (congrArg some (by kernel_rfl))
  f274 := Tryz.func186.trans (congrArg some (by kernel_rfl))
  f275 := Tryz.func187.trans (congrArg some (by kernel_rfl))
  f276 := Tryz.func180.trans (congrArg some (by kernel_rfl))
  f277 := Tryz.func181.trans (congrArg some (by kernel_rfl))
  f278 := Tryz.func185.trans (congrArg some (by kernel_rfl))
  f313 := Tryz.func183.trans (congrArg some (by kernel_rfl))
  t0 := Tryz.underlying0
  a0 := Tryz.isAgg0
  z0 := Tryz.sizeOf0
  v0 := Tryz.zeroValue0
  t3 := Tryz.underlying3
  a3 := Tryz.isAgg3
  z3 := Tryz.sizeOf3
  v3 := Tryz.zeroValue3
  t4 := Tryz.underlying4
  a4 := Tryz.isAgg4
  z4 := Tryz.sizeOf4
  v4 := Tryz.zeroValue4
  t5 := Tryz.underlying5
  a5 := Tryz.isAgg5
  z5 := Tryz.sizeOf5
  v5 := Tryz.zeroValue5
  t9 := Tryz.underlying9
  a9 := Tryz.isAgg9
  z9 := Tryz.sizeOf9
  v9 := Tryz.zeroValue9
  t20 := Tryz.underlying20
  a20 := Tryz.isAgg20
  z20 := Tryz.sizeOf20
  v20 := Tryz.zeroValue20
  t21 := Tryz.underlying21
  a21 := Tryz.isAgg21
  z21 := Tryz.sizeOf21
  v21 := Tryz.zeroValue21
  t37 := Tryz.underlying170
  a37 := Tryz.isAgg170
  z37 := Tryz.sizeOf170
  v37 := Tryz.zeroValue170
  t46 := Tryz.underlying106
  a46 := Tryz.isAgg106
  z46 := Tryz.sizeOf106
  v46 := Tryz.zeroValue106
  t51 := Tryz.underlying137
  a51 := Tryz.isAgg137
  z51 := Tryz.sizeOf137
  v51 := Tryz.zeroValue137
  t70 := Tryz.underlying169
  a70 := Tryz.isAgg169
  z70 := Tryz.sizeOf169
  v70 := Tryz.zeroValue169
  t72 := Tryz.underlying172
  a72 := Tryz.isAgg172
  z72 := Tryz.sizeOf172
  v72 := Tryz.zeroValue172
  t75 := Tryz.underlying175
  a75 := Tryz.isAgg175
  z75 := Tryz.sizeOf175
  v75 := Tryz.zeroValue175
  t76 := Tryz.underlying176
  a76 := Tryz.isAgg176
  z76 := Tryz.sizeOf176
  v76 := Tryz.zeroValue176
  t105 := Tryz.underlying183
  a105 := Tryz.isAgg183
  z105 := Tryz.sizeOf183
  v105 := Tryz.zeroValue183
  t107 := Tryz.underlying181
  a107 := Tryz.isAgg181
  z107 := Tryz.sizeOf181
  v107 := Tryz.zeroValue181
  t119 := Tryz.underlying203
  a119 := Tryz.isAgg203
  z119 := Tryz.sizeOf203
  t127 := Tryz.underlying192
  a127 := Tryz.isAgg192
  z127 := Tryz.sizeOf192
  v127 := Tryz.zeroValue192
  t138 := Tryz.underlying205
  a138 := Tryz.isAgg205
  z138 := Tryz.sizeOf205
  v138 := Tryz.zeroValue205
  t139 := Tryz.underlying206
  a139 := Tryz.isAgg206
  z139 := Tryz.sizeOf206
  v139 := Tryz.zeroValue206
  t160 := Tryz.underlying209
  a160 := Tryz.isAgg209
  z160 := Tryz.sizeOf209
  v160 := Tryz.zeroValue209
  t162 := Tryz.underlying202
  a162 := Tryz.isAgg202
  z162 := Tryz.sizeOf202
  v162 := Tryz.zeroValue202
  t164 := Tryz.underlying114
  a164 := Tryz.isAgg114
  z164 := Tryz.sizeOf114
  v164 := Tryz.zeroValue114
  t203 := Tryz.underlying200
  a203 := Tryz.isAgg200
  z203 := Tryz.sizeOf200
  v203 := Tryz.zeroValue200
  t206 := Tryz.underlying213
  a206 := Tryz.isAgg213
  z206 := Tryz.sizeOf213
  v206 := Tryz.zeroValue213
  t208 := Tryz.underlying215
  a208 := Tryz.isAgg215
  z208 := Tryz.sizeOf215
  v208 := Tryz.zeroValue215
  g3 := by kernel_rfl
  g4 := by kernel_rfl
  g13 := by kernel_rfl }
theorem Tryz.Builder_Extra_159 : Builder.Extra Tryz.prog Tryz.lays159_ren := {
  sizeBuilder := by kernel_rfl
  liesBuilder := by kernel_rfl
  t5 := Tryz.underlying5
  a5 := Tryz.isAgg5
  z5 := Tryz.sizeOf5
  v5 := Tryz.zeroValue5
  infoByte := by kernel_rfl
  cellsByte := by kernel_rfl
  sizeByte := by kernel_rfl
  neB5 := by decide }
theorem Tryz.strings_ToLower_ascii (s : ByteArray) (w : World) (hs : s.size ≤ 140737488355328) (hascii : ∀ (j : Nat) (b : UInt8), s.data.toList[j]? = some b → b.toNat < 128) :
    Calls Tryz.prog 126 #[.string s] w fun e w' => e = .returned (.string ⟨(Lib.toLowerA s.data.toList).toArray⟩) ∧ Below w.heap.size w w' := Any.strings_ToLower_ascii Tryz.lays159 Tryz.Builder_Extra_159 s w hs hascii
def Tryz.lays125_ren : Go.Shelf.Ren := ⟨fun | 125 => 69 | 128 => 100 | 129 => 101 | n => n, fun | 46 => 106 | 3 => 3 | 51 => 137 | 53 => 139 | 4 => 4 | 5 => 5 | 9 => 9 | n => n, fun | n => n⟩
theorem Tryz.lays125 : Go.Proofs.Lays.n125 Tryz.prog Tryz.lays125_ren := {
  mixed := by kernel_rfl
  f125 := Tryz.func69.trans (congrArg some (by kernel_rfl))
  f128 := Tryz.func100.trans (congrArg some (by kernel_rfl))
  f129 := Tryz.func101.trans (congrArg some (by kernel_rfl))
  t3 := Tryz.underlying3
  a3 := Tryz.isAgg3
  z3 := Tryz.sizeOf3
  v3 := Tryz.zeroValue3
  t4 := Tryz.underlying4
  a4 := Tryz.isAgg4
  z4 := Tryz.sizeOf4
  v4 := Tryz.zeroValue4
  t5 := Tryz.underlying5
  a5 := Tryz.isAgg5
  z5 := Tryz.sizeOf5
  v5 := Tryz.zeroValue5
  t9 := Tryz.underlying9
  a9 := Tryz.isAgg9
  z9 := Tryz.sizeOf9
  v9 := Tryz.zeroValue9
  t46 := Tryz.underlying106
  a46 := Tryz.isAgg106
  z46 := Tryz.sizeOf106
  v46 := Tryz.zeroValue106
  t51 := Tryz.underlying137
  a51 := Tryz.isAgg137
  z51 := Tryz.sizeOf137
  v51 := Tryz.zeroValue137
  t53 := Tryz.underlying139
  a53 := Tryz.isAgg139
  z53 := Tryz.sizeOf139
  v53 := Tryz.zeroValue139 }
theorem Tryz.bits_Len (x : Int) (w : World) (h0 : 0 ≤ x) (h1 : x ≤ 18446744073709551615) :
    Calls Tryz.prog 69 #[.int .u64 x] w fun e w' => e = .returned (.int .i64 (Lib.bitLen x.toNat)) ∧ w' = w := Any.bits_Len Tryz.lays125 x w h0 h1
def Tryz.lays106_ren : Go.Shelf.Ren := ⟨fun | 106 => 144 | 213 => 165 | 265 => 179 | n => n, fun | 9 => 9 | 3 => 3 | n => n, fun | n => n⟩
theorem Tryz.lays106 : Go.Proofs.Lays.n106 Tryz.prog Tryz.lays106_ren := {
  mixed := by kernel_rfl
  f106 := Tryz.func144.trans (congrArg some (by kernel_rfl))
  f213 := Tryz.func165.trans (congrArg some (by kernel_rfl))
  f265 := Tryz.func179.trans (congrArg some (by kernel_rfl))
  t3 := Tryz.underlying3
  a3 := Tryz.isAgg3
  z3 := Tryz.sizeOf3
  v3 := Tryz.zeroValue3
  t9 := Tryz.underlying9
  a9 := Tryz.isAgg9
  z9 := Tryz.sizeOf9
  v9 := Tryz.zeroValue9 }
theorem Tryz.strings_Compare (a b : ByteArray) (w : World) :
    Calls Tryz.prog 144 #[.string a, .string b] w fun e w' => e = .returned (.int .i64 (Lib.compareBytes a.data.toList b.data.toList)) ∧ w' = w := Any.strings_Compare Tryz.lays106 a b w
def Tryz.lays137_ren : Go.Shelf.Ren := ⟨fun | 137 => 143 | 217 => 164 | 266 => 178 | n => n, fun | 9 => 9 | 5 => 5 | 3 => 3 | n => n, fun | n => n⟩
theorem Tryz.lays137 : Go.Proofs.Lays.n137 Tryz.prog Tryz.lays137_ren := {
  mixed := by kernel_rfl
  f137 := Tryz.func143.trans (congrArg some (by kernel_rfl))
  f217 := Tryz.func164.trans (congrArg some (by kernel_rfl))
  f266 := Tryz.func178.trans (congrArg some (by kernel_rfl))
  t3 := Tryz.underlying3
  a3 := Tryz.isAgg3
  z3 := Tryz.sizeOf3
  v3 := Tryz.zeroValue3
  t5 := Tryz.underlying5
  a5 := Tryz.isAgg5
  z5 := Tryz.sizeOf5
  v5 := Tryz.zeroValue5
  t9 := Tryz.underlying9
  a9 := Tryz.isAgg9
  z9 := Tryz.sizeOf9
  v9 := Tryz.zeroValue9 }
theorem Tryz.strings_IndexByte (s : ByteArray) (c : Int) (w : World) :
    Calls Tryz.prog 143 #[.string s, .int .u8 c] w fun e w' => e = .returned (.int .i64 (Lib.indexByte s.data.toList c.toNat.toUInt8)) ∧ w' = w := Any.strings_IndexByte Tryz.lays137 s c w
def Tryz.lays190_ren : Go.Shelf.Ren := ⟨fun | 190 => 38 | 125 => 69 | 258 => 68 | 128 => 100 | 129 => 101 | 302 => 91 | 303 => 92 | 304 => 93 | 305 => 94 | 306 => 95 | 307 => 96 | 308 => 97 | 309 => 98 | 310 => 99 | 333 => 130 | 329 => 131 | 330 => 132 | 334 => 133 | 335 => 134 | 336 => 105 | 344 => 160 | n => n, fun | 31 => 29 | 9 => 9 | 3 => 3 | 46 => 106 | 0 => 0 | 51 => 137 | 53 => 139 | 4 => 4 | 183 => 130 | 182 => 129 | 131 => 134 | 5 => 5 | 218 => 154 | 222 => 158 | 228 => 185 | 229 => 186 | n => n, fun | n => n⟩
theorem Tryz.lays190 : Go.Proofs.Lays.n190 Tryz.prog Tryz.lays190_ren := {
  mixed := by kernel_rfl
  f125 := Tryz.func69.trans (congrArg some (by kernel_rfl))
  f128 := Tryz.func100.trans (congrArg some (by kernel_rfl))
  f129 := Tryz.func101.trans (congrArg some (by kernel_rfl))
  f190 := Tryz.func38.trans (congrArg some (by kernel_rfl))
  f258 := Tryz.func68.trans (congrArg some (by kernel_rfl))
  f302 := Tryz.func91.trans (congrArg some (by kernel_rfl))
  f303 := Tryz.func92.trans (congrArg some (by kernel_rfl))
  f304 := Tryz.func93.trans (congrArg some (by kernel_rfl))
  f305 := Tryz.func94.trans (congrArg some (by kernel_rfl))
  f306 := Tryz.func95.trans (congrArg some (by kernel_rfl))
  f307 := Tryz.func96.trans (congrArg some (by kernel_rfl))
  f308 := Tryz.func97.trans (congrArg some (by kernel_rfl))
  f309 := Tryz.func98.trans (congrArg some (by kernel_rfl))
  f310 := Tryz.func99.trans (congrArg some (by kernel_rfl))
  f329 := Tryz.func131.trans (congrArg some (by kernel_rfl))
  f330 := Tryz.func132.trans (congrArg some (by kernel_rfl))
  f333 := Tryz.func130.trans (congrArg some (by kernel_rfl))
  f334 := Tryz.func133.trans (congrArg some (by kernel_rfl))
  f335 := Tryz.func134.trans (congrArg some (by kernel_rfl))
  f336 := Tryz.func105.trans (congrArg some (by kernel_rfl))
  f344 := Tryz.func160.trans (congrArg some (by kernel_rfl))
  t0 := Tryz.underlying0
  a0 := Tryz.isAgg0
  z0 := Tryz.sizeOf0
  v0 := Tryz.zeroValue0
  t3 := Tryz.underlying3
  a3 := Tryz.isAgg3
  z3 := Tryz.sizeOf3
  v3 := Tryz.zeroValue3
  t4 := Tryz.underlying4
  a4 := Tryz.isAgg4
  z4 := Tryz.sizeOf4
  v4 := Tryz.zeroValue4
  t5 := Tryz.underlying5
  a5 := Tryz.isAgg5
  z5 := Tryz.sizeOf5
  v5 := Tryz.zeroValue5
  t9 := Tryz.underlying9
  a9 := Tryz.isAgg9
  z9 := Tryz.sizeOf9
  v9 := Tryz.zeroValue9
  t31 := Tryz.underlying29
  a31 := Tryz.isAgg29
  z31 := Tryz.sizeOf29
  v31 := Tryz.zeroValue29
  t46 := Tryz.underlying106
  a46 := Tryz.isAgg106
  z46 := Tryz.sizeOf106
  v46 := Tryz.zeroValue106
  t51 := Tryz.underlying137
  a51 := Tryz.isAgg137
  z51 := Tryz.sizeOf137
  v51 := Tryz.zeroValue137
  t53 := Tryz.underlying139
  a53 := Tryz.isAgg139
  z53 := Tryz.sizeOf139
  v53 := Tryz.zeroValue139
  t131 := Tryz.underlying134
  a131 := Tryz.isAgg134
  z131 := Tryz.sizeOf134
  v131 := Tryz.zeroValue134
  t182 := Tryz.underlying129
  a182 := Tryz.isAgg129
  z182 := Tryz.sizeOf129
  v182 := Tryz.zeroValue129
  t183 := Tryz.underlying130
  a183 := Tryz.isAgg130
  z183 := Tryz.sizeOf130
  v183 := Tryz.zeroValue130
  t218 := Tryz.underlying154
  a218 := Tryz.isAgg154
  z218 := Tryz.sizeOf154
  v218 := Tryz.zeroValue154
  t222 := Tryz.underlying158
  a222 := Tryz.isAgg158
  z222 := Tryz.sizeOf158
  v222 := Tryz.zeroValue158
  t228 := Tryz.underlying185
  a228 := Tryz.isAgg185
  z228 := Tryz.sizeOf185
  v228 := Tryz.zeroValue185
  t229 := Tryz.underlying186
  a229 := Tryz.isAgg186
  z229 := Tryz.sizeOf186
  v229 := Tryz.zeroValue186 }
theorem Tryz.slices_Sort_string (blk off cap : Nat) (ss : List (List UInt8)) (w : World) (hH : Holds encStr w blk off ss.toArray) (hblk : blk < w.heap.size) (hsz : ss.length < 4611686018427387904) :
    Calls Tryz.prog 38 #[.slice (some ⟨blk, off, none⟩) ss.length cap] w fun e w' =>
      e = .returned (.tuple #[]) ∧ ∃ n os, w' = grow (putRow encStr (Sort.ahead w n) blk off (ss.mergeSort fun x y => decide (x ≤ y)).toArray) os := Any.slices_Sort_string Tryz.lays190 blk off cap ss w hH hblk hsz
def Tryz.laysGg6_ren : Go.Shelf.Ren := ⟨fun | 6 => 52 | 10 => 81 | 11 => 82 | 12 => 83 | 13 => 69 | 14 => 84 | 24 => 100 | 25 => 101 | 26 => 118 | 27 => 119 | 28 => 120 | 29 => 121 | 30 => 122 | 31 => 123 | 32 => 124 | 33 => 125 | 34 => 145 | 35 => 146 | 36 => 147 | 37 => 148 | 38 => 149 | 39 => 166 | n => n, fun | 20 => 20 | 26 => 93 | 35 => 117 | 0 => 0 | 37 => 119 | 3 => 3 | 41 => 106 | 44 => 124 | 49 => 137 | 51 => 139 | 4 => 4 | 54 => 147 | 53 => 146 | 58 => 134 | 5 => 5 | 9 => 9 | 60 => 166 | 64 => 158 | 66 => 190 | 67 => 186 | 17 => 17 | 32 => 114 | 33 => 115 | 82 => 227 | 12 => 12 | 75 => 221 | 76 => 222 | 77 => 223 | 78 => 192 | 79 => 224 | 80 => 225 | n => n, fun | n => n⟩
theorem Tryz.laysGg6 : Go.Proofs.LaysGg.n6 Tryz.prog Tryz.laysGg6_ren := {
  mixed := by kernel_rfl
  f6 := Tryz.func52.trans (congrArg some (by kernel_rfl))
  f10 := Tryz.func81.trans (congrArg some (by kernel_rfl))
  f11 := Tryz.func82.trans (congrArg some (by kernel_rfl))
  f12 := Tryz.func83.trans (congrArg some (by kernel_rfl))
  f13 := Tryz.func69.trans (congrArg some (by kernel_rfl))
  f14 := Tryz.func84.trans (congrArg some (by kernel_rfl))
  f24 := Tryz.func100.trans (congrArg some (by kernel_rfl))
  f25 := Tryz.func101.trans (congrArg some (by kernel_rfl))
  f26 := Tryz.func118.trans (congrArg some (by kernel_rfl))
  f27 := Tryz.func119.trans (congrArg some (by kernel_rfl))
  f28 := Tryz.func120.trans (congrArg some (by kernel_rfl))
  f29 := Tryz.func121.trans (congrArg some (by kernel_rfl))
  f30 := Tryz.func122.trans (congrArg some (by kernel_rfl))
  f31 := Tryz.func123.trans (congrArg some (by kernel_rfl))
  f32 := Tryz.func124.trans (congrArg some (by kernel_rfl))
  f33 := Tryz.func125.trans (congrArg some (by kernel_rfl))
  f34 := Tryz.func145.trans (congrArg some (by kernel_rfl))
  f35 := Tryz.func146.trans (congrArg some (by kernel_rfl))
  f36 := Tryz.func147.trans (congrArg some (by kernel_rfl))
  f37 := Tryz.func148.trans (congrArg some (by kernel_rfl))
  f38 := Tryz.func149.trans (congrArg some (by kernel_rfl))
  f39 := Tryz.func166.trans (congrArg some (by kernel_rfl))
  t0 := Tryz.underlying0
  a0 := Tryz.isAgg0
  z0 := Tryz.sizeOf0
  v0 := Tryz.zeroValue0
  i0 := by kernel_rfl
  t3 := Tryz.underlying3
  a3 := Tryz.isAgg3
  z3 := Tryz.sizeOf3
  v3 := Tryz.zeroValue3
  i3 := by kernel_rfl
  t4 := Tryz.underlying4
  a4 := Tryz.isAgg4
  z4 := Tryz.sizeOf4
  v4 := Tryz.zeroValue4
  i4 := by kernel_rfl
  t5 := Tryz.underlying5
  a5 := Tryz.isAgg5
  z5 := Tryz.sizeOf5
  v5 := Tryz.zeroValue5
  i5 := by kernel_rfl
  t9 := Tryz.underlying9
  a9 := Tryz.isAgg9
  z9 := Tryz.sizeOf9
  v9 := Tryz.zeroValue9
  i9 := by kernel_rfl
  t12 := Tryz.underlying12
  a12 := Tryz.isAgg12
  z12 := Tryz.sizeOf12
  v12 := Tryz.zeroValue12
  i12 := by kernel_rfl
  t17 := Tryz.underlying17
  a17 := Tryz.isAgg17
  z17 := Tryz.sizeOf17
  v17 := Tryz.zeroValue17
  i17 := by kernel_rfl
  t20 := Tryz.underlying20
  a20 := Tryz.isAgg20
  z20 := Tryz.sizeOf20
  v20 := Tryz.zeroValue20
  i20 := by kernel_rfl
  t26 := Tryz.underlying93
  a26 := Tryz.isAgg93
  z26 := Tryz.sizeOf93
  v26 := Tryz.zeroValue93
  i26 := by kernel_rfl
  t32 := Tryz.underlying114
  a32 := Tryz.isAgg114
  z32 := Tryz.sizeOf114
  v32 := Tryz.zeroValue114
  i32 := by kernel_rfl
  t33 := Tryz.underlying115
  a33 := Tryz.isAgg115
  z33 := Tryz.sizeOf115
  v33 := Tryz.zeroValue115
  i33 := by kernel_rfl
  t35 := Tryz.underlying117
  a35 := Tryz.isAgg117
  z35 := Tryz.sizeOf117
  v35 := Tryz.zeroValue117
  i35 := by kernel_rfl
  t37 := Tryz.underlying119
  a37 := Tryz.isAgg119
  z37 := Tryz.sizeOf119
  v37 := Tryz.zeroValue119
  i37 := by kernel_rfl
  t41 := Tryz.underlying106
  a41 := Tryz.isAgg106
  z41 := Tryz.sizeOf106
  v41 := Tryz.zeroValue106
  i41 := by kernel_rfl
  t44 := Tryz.underlying124
  a44 := Tryz.isAgg124
  z44 := Tryz.sizeOf124
  v44 := Tryz.zeroValue124
  i44 := by kernel_rfl
  t49 := Tryz.underlying137
  a49 := Tryz.isAgg137
  z49 := Tryz.sizeOf137
  v49 := Tryz.zeroValue137
  i49 := by kernel_rfl
  t51 := Tryz.underlying139
  a51 := Tryz.isAgg139
  z51 := Tryz.sizeOf139
  v51 := Tryz.zeroValue139
  i51 := by kernel_rfl
  t53 := Tryz.underlying146
  a53 := Tryz.isAgg146
  z53 := Tryz.sizeOf146
  v53 := Tryz.zeroValue146
  i53 := by kernel_rfl
  t54 := Tryz.underlying147
  a54 := Tryz.isAgg147
  z54 := Tryz.sizeOf147
  v54 := Tryz.zeroValue147
  i54 := by kernel_rfl
  t58 := Tryz.underlying134
  a58 := Tryz.isAgg134
  z58 := Tryz.sizeOf134
  v58 := Tryz.zeroValue134
  i58 := by kernel_rfl
  t60 := Tryz.underlying166
  a60 := Tryz.isAgg166
  z60 := Tryz.sizeOf166
  v60 := Tryz.zeroValue166
  i60 := by kernel_rfl
  t64 := Tryz.underlying158
  a64 := Tryz.isAgg158
  z64 := Tryz.sizeOf158
  v64 := Tryz.zeroValue158
  i64 := by kernel_rfl
  t66 := Tryz.underlying190
  a66 := Tryz.isAgg190
  z66 := Tryz.sizeOf190
  v66 := Tryz.zeroValue190
  i66 := by kernel_rfl
  t67 := Tryz.underlying186
  a67 := Tryz.isAgg186
  z67 := Tryz.sizeOf186
  v67 := Tryz.zeroValue186
  i67 := by kernel_rfl
  t75 := Tryz.underlying221
  a75 := Tryz.isAgg221
  z75 := Tryz.sizeOf221
  v75 := Tryz.zeroValue221
  i75 := by kernel_rfl
  t76 := Tryz.underlying222
  a76 := Tryz.isAgg222
  z76 := Tryz.sizeOf222
  v76 := Tryz.zeroValue222
  i76 := by kernel_rfl
  t77 := Tryz.underlying223
  a77 := Tryz.isAgg223
  z77 := Tryz.sizeOf223
  v77 := Tryz.zeroValue223
  i77 := by kernel_rfl
  t78 := Tryz.underlying192
  a78 := Tryz.isAgg192
  z78 := Tryz.sizeOf192
  v78 := Tryz.zeroValue192
  i78 := by kernel_rfl
  t79 := Tryz.underlying224
  a79 := Tryz.isAgg224
  z79 := Tryz.sizeOf224
  v79 := Tryz.zeroValue224
  i79 := by kernel_rfl
  t80 := Tryz.underlying225
  a80 := Tryz.isAgg225
  z80 := Tryz.sizeOf225
  v80 := Tryz.zeroValue225
  i80 := by kernel_rfl
  t82 := Tryz.underlying227
  a82 := Tryz.isAgg227
  z82 := Tryz.sizeOf227
  v82 := Tryz.zeroValue227
  i82 := by kernel_rfl }
def Tryz.lays146_ren : Go.Shelf.Ren := ⟨fun | 146 => 63 | 221 => 90 | 268 => 127 | 138 => 128 | 143 => 129 | 195 => 156 | 197 => 157 | 218 => 158 | 219 => 159 | 260 => 173 | 217 => 164 | 225 => 174 | 224 => 175 | 267 => 176 | 266 => 178 | 314 => 184 | n => n, fun | 9 => 9 | 31 => 29 | 3 => 3 | 4 => 4 | 0 => 0 | 105 => 183 | 21 => 21 | 5 => 5 | 46 => 106 | 119 => 203 | 139 => 206 | 138 => 205 | 146 => 207 | 51 => 137 | n => n, fun | 1 => 0 | 3 => 2 | 4 => 3 | n => n⟩
theorem Tryz.lays146 : Go.Proofs.Lays.n146 Tryz.prog Tryz.lays146_ren := {
  mixed := by kernel_rfl
  f138 := Tryz.func128.trans (congrArg some (by kernel_rfl))
  f143 := Tryz.func129.trans (congrArg some (by kernel_rfl))
  f146 := Tryz.func63.trans (congrArg some (by kernel_rfl))
  f195 := Tryz.func156.trans (congrArg some (by kernel_rfl))
  f197 := Tryz.func157.trans (congrArg some (by kernel_rfl))
  f217 := Tryz.func164.trans (congrArg some (by kernel_rfl))
  f218 := Tryz.func158.trans (congrArg some (by kernel_rfl))
  f219 := Tryz.func159.trans (congrArg some (by kernel_rfl))
  f221 := Tryz.func90.trans (congrArg some (by kernel_rfl))
  f224 := Tryz.func175.trans (congrArg some (by kernel_rfl))
  f225 := Tryz.func174.trans (congrArg some (by kernel_rfl))
  f260 := Tryz.func173.trans (congrArg some (by kernel_rfl))
  f266 := Tryz.func178.trans (congrArg some (by kernel_rfl))
  f267 := Tryz.func176.trans (congrArg some (by kernel_rfl))
  f268 := Tryz.func127.trans (congrArg some (by kernel_rfl))
  f314 := Tryz.func184.trans (congrArg some (by kernel_rfl))
  t0 := Tryz.underlying0
  a0 := Tryz.isAgg0
  z0 := Tryz.sizeOf0
  v0 := Tryz.zeroValue0
  t3 := Tryz.underlying3
  a3 := Tryz.isAgg3
  z3 := Tryz.sizeOf3
  v3 := Tryz.zeroValue3
  t4 := Tryz.underlying4
  a4 := Tryz.isAgg4
  z4 := Tryz.sizeOf4
  v4 := Tryz.zeroValue4
  t5 := Tryz.underlying5
  a5 := Tryz.isAgg5
  z5 := Tryz.sizeOf5
  v5 := Tryz.zeroValue5
  t9 := Tryz.underlying9
  a9 := Tryz.isAgg9
  z9 := Tryz.sizeOf9
  v9 := Tryz.zeroValue9
  t21 := Tryz.underlying21
  a21 := Tryz.isAgg21
  z21 := Tryz.sizeOf21
  v21 := Tryz.zeroValue21
  t31 := Tryz.underlying29
  a31 := Tryz.isAgg29
  z31 := Tryz.sizeOf29
  v31 := Tryz.zeroValue29
  t46 := Tryz.underlying106
  a46 := Tryz.isAgg106
  z46 := Tryz.sizeOf106
  v46 := Tryz.zeroValue106
  t51 := Tryz.underlying137
  a51 := Tryz.isAgg137
  z51 := Tryz.sizeOf137
  v51 := Tryz.zeroValue137
  t105 := Tryz.underlying183
  a105 := Tryz.isAgg183
  z105 := Tryz.sizeOf183
  v105 := Tryz.zeroValue183
  t119 := Tryz.underlying203
  a119 := Tryz.isAgg203
  z119 := Tryz.sizeOf203
  t138 := Tryz.underlying205
  a138 := Tryz.isAgg205
  z138 := Tryz.sizeOf205
  v138 := Tryz.zeroValue205
  t139 := Tryz.underlying206
  a139 := Tryz.isAgg206
  z139 := Tryz.sizeOf206
  v139 := Tryz.zeroValue206
  t146 := Tryz.underlying207
  a146 := Tryz.isAgg207
  z146 := Tryz.sizeOf207
  v146 := Tryz.zeroValue207
  g1 := by kernel_rfl
  g3 := by kernel_rfl
  g4 := by kernel_rfl }
theorem Tryz.strings_Split (s sep : ByteArray) (m : Int) (w : World) (hs : s.size < 4294967281) (hm : w.cell? ⟨0, 0, none⟩ = some (.int .i64 m)) (h1 : 1 ≤ sep.size) :
    Calls Tryz.prog 63 #[.string s, .string sep] w fun e w' =>
      e = .returned (.slice (some ⟨w.heap.size, 0, none⟩) (Lib.countB s sep + 1) (Lib.countB s sep + 1)) ∧ w' = w.alloc (.cells ((Lib.splitB sep 0 (Lib.countB s sep) s).map Value.string).toArray 9) := Any.strings_Split Tryz.lays146 (by kernel_rfl) s sep m w hs hm h1
def Tryz.lays194_ren : Go.Shelf.Ren := ⟨fun | 194 => 39 | n => n, fun | 31 => 29 | 9 => 9 | 3 => 3 | 4 => 4 | 0 => 0 | n => n, fun | n => n⟩
theorem Tryz.lays194 : Go.Proofs.Lays.n194 Tryz.prog Tryz.lays194_ren := {
  mixed := by kernel_rfl
  f194 := Tryz.func39.trans (congrArg some (by kernel_rfl))
  t0 := Tryz.underlying0
  a0 := Tryz.isAgg0
  z0 := Tryz.sizeOf0
  v0 := Tryz.zeroValue0
  t3 := Tryz.underlying3
  a3 := Tryz.isAgg3
  z3 := Tryz.sizeOf3
  v3 := Tryz.zeroValue3
  t4 := Tryz.underlying4
  a4 := Tryz.isAgg4
  z4 := Tryz.sizeOf4
  v4 := Tryz.zeroValue4
  t9 := Tryz.underlying9
  a9 := Tryz.isAgg9
  z9 := Tryz.sizeOf9
  v9 := Tryz.zeroValue9
  t31 := Tryz.underlying29
  a31 := Tryz.isAgg29
  z31 := Tryz.sizeOf29
  v31 := Tryz.zeroValue29 }
theorem Tryz.slices_Compact_string (blk off cap : Nat) (zs : List (List UInt8)) (w : World) (hH : Holds encStr w blk off zs.toArray) (hsz : zs.length ≤ 9223372036854775807) (hcap : zs.length ≤ cap) :
    Calls Tryz.prog 39 #[.slice (some ⟨blk, off, none⟩) zs.length cap] w fun e w' => e = .returned (.slice (some ⟨blk, off, none⟩) (Lib.compact zs).length cap) ∧ ∃ q, w' = putRow encStr (Sort.ahead w q) blk off (Lib.compact zs ++ List.replicate (zs.length - (Lib.compact zs).length) []).toArray := Any.slices_Compact_string Tryz.lays194 blk off cap zs w hH hsz hcap
theorem Tryz.slices_Compact_string_empty (a : Option Addr) (cap : Nat) (w : World) :
    Calls Tryz.prog 39 #[.slice a 0 cap] w fun e w' => e = .returned (.slice a 0 cap) ∧ w' = w := Any.slices_Compact_string_empty Tryz.lays194 a cap w
theorem Tryz.slices_Sort_string_none (p : Option Addr) (cap : Nat) (w : World) :
    Calls Tryz.prog 38 #[.slice p 0 cap] w fun e w' => e = .returned (.tuple #[]) ∧ w' = w := Any.slices_Sort_string_none Tryz.lays190 p cap w
end Go.Proofs
namespace Go.Proofs
open Go.Shelf
def Tryz.keys42_ren : Go.Shelf.Ren := ⟨fun | 7 => 42 | 10 => 72 | n => n, fun | 23 => 66 | 26 => 9 | 3 => 72 | 28 => 79 | 0 => 0 | 27 => 78 | 33 => 69 | 4 => 4 | n => n, fun | n => n⟩
theorem Tryz.keys42 : Go.Proofs.SlLaysZ.n7 Tryz.prog Tryz.keys42_ren := {
  mixed := by kernel_rfl
  f7 := ⟨Tryz.f42.name, by decide, Tryz.func42.trans (congrArg some (by kernel_rfl))⟩
  f10 := ⟨Tryz.f72.name, by decide, Tryz.func72.trans (congrArg some (by kernel_rfl))⟩
  t0 := Tryz.underlying0
  a0 := Tryz.isAgg0
  z0 := Tryz.sizeOf0
  v0 := Tryz.zeroValue0
  t4 := Tryz.underlying4
  a4 := Tryz.isAgg4
  z4 := Tryz.sizeOf4
  v4 := Tryz.zeroValue4
  t23 := Tryz.underlying66
  a23 := Tryz.isAgg66
  z23 := Tryz.sizeOf66
  v23 := Tryz.zeroValue66
  t26 := Tryz.underlying9
  a26 := Tryz.isAgg9
  z26 := Tryz.sizeOf9
  v26 := Tryz.zeroValue9
  t27 := Tryz.underlying78
  a27 := Tryz.isAgg78
  z27 := Tryz.sizeOf78
  v27 := Tryz.zeroValue78
  t28 := Tryz.underlying79
  a28 := Tryz.isAgg79
  z28 := Tryz.sizeOf79
  v28 := Tryz.zeroValue79
  t33 := Tryz.underlying69
  a33 := Tryz.isAgg69
  z33 := Tryz.sizeOf69
  v33 := Tryz.zeroValue69 }
def Tryz.collect70_ren : Go.Shelf.Ren := ⟨fun | 8 => 70 | 11 => 102 | n => n, fun | 26 => 9 | 28 => 79 | 24 => 29 | 0 => 0 | 33 => 69 | 4 => 4 | n => n, fun | n => n⟩
theorem Tryz.collect70 : Go.Proofs.SlLaysZ.n8 Tryz.prog Tryz.collect70_ren := {
  mixed := by kernel_rfl
  f8 := ⟨Tryz.f70.name, by decide, Tryz.func70.trans (congrArg some (by kernel_rfl))⟩
  f11 := ⟨Tryz.f102.name, by decide, Tryz.func102.trans (congrArg some (by kernel_rfl))⟩
  t0 := Tryz.underlying0
  a0 := Tryz.isAgg0
  z0 := Tryz.sizeOf0
  v0 := Tryz.zeroValue0
  t24 := Tryz.underlying29
  a24 := Tryz.isAgg29
  z24 := Tryz.sizeOf29
  v24 := Tryz.zeroValue29
  t26 := Tryz.underlying9
  a26 := Tryz.isAgg9
  z26 := Tryz.sizeOf9
  v26 := Tryz.zeroValue9
  t28 := Tryz.underlying79
  a28 := Tryz.isAgg79
  z28 := Tryz.sizeOf79
  v28 := Tryz.zeroValue79
  i26 := by kernel_rfl }
end Go.Proofs
