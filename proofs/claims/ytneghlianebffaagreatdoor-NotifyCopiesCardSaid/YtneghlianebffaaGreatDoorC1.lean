/- What holds of every world that the link laws meet: one variable of the library. -/
import Derived.Test.YtneghlianebffaaGreatDoorOX
import Derived.Test.YtneghlianebffaaGreatDoorA6
import Derived.Test.YtneghlianebffaaGreatDoorProg
import Derived.Below
import Derived.Shelf.Strings.Builder1
import Derived.Shelf.Strings.Builder2
import Derived.Shelf.Strings.OnBuilder
import Derived.Shelf.Small.Utf8
import Derived.Shelf.Small.Bits
import Derived.Shelf.Small.Strs
import Derived.Shelf.Small.Wraps
import Derived.Shelf.Strings.BuilderF
import Derived.Shelf.Strings.BuilderK
import Derived.Shelf.Utf8.RuneCount
import Derived.Shelf.Strings.Builder2Cap
import Derived.Shelf.Strconv.Itoa0
import Derived.Shelf.Strings.Search1
import Derived.Shelf.Strings.Search2
import Derived.Shelf.Strings.Search3
import Derived.Shelf.Strings.Count
import Derived.Shelf.LaysM
import Derived.Shelf.Strings.Shaped
import Derived.Shelf.Strings.Prefix
import Derived.Shelf.Strings.Split
import Derived.Shelf.Strings.SplitShaped
import Derived.Shelf.Unicode.Latin
import Derived.Shelf.Unicode.Decode
import Derived.Shelf.Strings.Runes
import Derived.Shelf.Strings.RuneCount
import Derived.Shelf.Strings.IndexAny
import Derived.Shelf.Strings.AsciiSet
import Derived.Shelf.Strings.IndexAnyAll
import Derived.Shelf.Strings.Explode
import Derived.Shelf.Unicode.DecodeSlow
import Derived.Shelf.Unicode.DecodeAny
import Derived.Shelf.Unicode.CaseLookup
import Derived.Shelf.Unicode.CaseConvert
import Derived.Shelf.Unicode.CaseTo
import Derived.Shelf.Unicode.CaseLaid
import Derived.Ground.Names2Prog
import Derived.Shelf.Slices.Clone
import Derived.Ground.SlgnProg
import Derived.Shelf.SlicesE.Clone
namespace Go.Ab
open Go Go.Proofs
def GOk (w:World):Prop:=(∃ m,w.cell? ⟨0,0,none⟩ = some (.int .i64 m)) ∧ True
theorem QMt {B b off:Nat} {w w':World} (hB:b < B) (h:∀ b,b < B → w'.heap[b]? = w.heap[b]?):w'.cell? ⟨b,off,none⟩ = w.cell? ⟨b,off,none⟩:=by
 simp only [World.cell?,h b hB]
noncomputable instance gi:Glob where
 ok:=GOk
 bound:=1
 stable:=fun {w w'} ⟨⟨m,h1⟩,_⟩ k=>⟨⟨m,by rw [QMt (B:=1) (by decide) k]; exact h1⟩,trivial⟩
end Go.Ab
namespace Go.Ab
def zB:List AV:=List.replicate 256 (.bool false)
end Go.Ab
namespace Go.Ab
def QHN:List AV:=List.replicate 127 (.bool false)
def zE:List AV:=.int .u8 0 :: .bool false :: QHN
def QSl:List AV:=List.replicate 128 (.bool false)
def QVt:List AV:=.bool false :: .bool false :: QSl
end Go.Ab
namespace Go.Proofs
open Go.Shelf Go.RowKit Go.Lib
def Tryz.lays159_ren:Go.Shelf.Ren:=⟨fun | 159=>115 | 165=>160 | 166=>161 | 167=>162 | 169=>163 | 230=>164 | 204=>165 | 240=>185 | 241=>186 | 197=>187 | 118=>188 | 168=>189 | 270=>190 | 262=>191 | 276=>201 | 277=>202 | 260=>203 | 242=>204 | 313=>205 | 278=>213 | 274=>214 | 275=>215 | n=>n,fun | 9=>9 | 4=>4 | 3=>3 | 5=>5 | 72=>197 | 0=>0 | 76=>201 | 75=>200 | 107=>206 | 70=>195 | 20=>20 | 37=>42 | 127=>221 | 21=>21 | 105=>222 | 164=>233 | 162=>239 | 203=>237 | 119=>244 | 46=>147 | 139=>247 | 138=>246 | 51=>173 | 160=>248 | 208=>256 | 206=>254 | 80=>204 | n=>n,fun | 13=>1 | 3=>2 | 4=>3 | n=>n⟩
theorem Tryz.lays159:Go.Proofs.Lays.n159 Tryz.prog Tryz.lays159_ren:={
 mixed:=by kernel_rfl
 f118:=Tryz.func188.trans (congrArg some (by kernel_rfl))
 f159:=Tryz.func115.trans (congrArg some (by kernel_rfl))
 f165:=Tryz.func160.trans (congrArg some (by kernel_rfl))
 f166:=Tryz.func161.trans (congrArg some (by kernel_rfl))
 f167:=Tryz.func162.trans (congrArg some (by kernel_rfl))
 f168:=Tryz.func189.trans (congrArg some (by kernel_rfl))
 f169:=Tryz.func163.trans (congrArg some (by kernel_rfl))
 f197:=Tryz.func187.trans (congrArg some (by kernel_rfl))
 f204:=Tryz.func165.trans (congrArg some (by kernel_rfl))
 f230:=Tryz.func164.trans (congrArg some (by kernel_rfl))
 f240:=Tryz.func185.trans (congrArg some (by kernel_rfl))
 f241:=Tryz.func186.trans (congrArg some (by kernel_rfl))
 f242:=Tryz.func204.trans (congrArg some (by kernel_rfl))
 f260:=Tryz.func203.trans (congrArg some (by kernel_rfl))
 f262:=Tryz.func191.trans (congrArg some (by kernel_rfl))
 f270:=Tryz.func190.trans (congrArg some (by kernel_rfl))
 f274:=Tryz.func214.trans (congrArg some (by kernel_rfl))
 f275:=Tryz.func215.trans (congrArg some (by kernel_rfl))
 f276:=Tryz.func201.trans (congrArg some (by kernel_rfl))
 f277:=Tryz.func202.trans (congrArg some (by kernel_rfl))
 f278:=Tryz.func213.trans (congrArg some (by kernel_rfl))
 f313:=Tryz.func205.trans (congrArg some (by kernel_rfl))
 t0:=Tryz.underlying0
 a0:=Tryz.isAgg0
 z0:=Tryz.sizeOf0
 v0:=Tryz.zeroValue0
 t3:=Tryz.underlying3
 a3:=Tryz.isAgg3
 z3:=Tryz.sizeOf3
 v3:=Tryz.zeroValue3
 t4:=Tryz.underlying4
 a4:=Tryz.isAgg4
 z4:=Tryz.sizeOf4
 v4:=Tryz.zeroValue4
 t5:=Tryz.underlying5
 a5:=Tryz.isAgg5
 z5:=Tryz.sizeOf5
 v5:=Tryz.zeroValue5
 t9:=Tryz.underlying9
 a9:=Tryz.isAgg9
 z9:=Tryz.sizeOf9
 v9:=Tryz.zeroValue9
 t20:=Tryz.underlying20
 a20:=Tryz.isAgg20
 z20:=Tryz.sizeOf20
 v20:=Tryz.zeroValue20
 t21:=Tryz.underlying21
 a21:=Tryz.isAgg21
 z21:=Tryz.sizeOf21
 v21:=Tryz.zeroValue21
 t37:=Tryz.underlying42
 a37:=Tryz.isAgg42
 z37:=Tryz.sizeOf42
 v37:=Tryz.zeroValue42
 t46:=Tryz.underlying147
 a46:=Tryz.isAgg147
 z46:=Tryz.sizeOf147
 v46:=Tryz.zeroValue147
 t51:=Tryz.underlying173
 a51:=Tryz.isAgg173
 z51:=Tryz.sizeOf173
 v51:=Tryz.zeroValue173
 t70:=Tryz.underlying195
 a70:=Tryz.isAgg195
 z70:=Tryz.sizeOf195
 v70:=Tryz.zeroValue195
 t72:=Tryz.underlying197
 a72:=Tryz.isAgg197
 z72:=Tryz.sizeOf197
 v72:=Tryz.zeroValue197
 t75:=Tryz.underlying200
 a75:=Tryz.isAgg200
 z75:=Tryz.sizeOf200
 v75:=Tryz.zeroValue200
 t76:=Tryz.underlying201
 a76:=Tryz.isAgg201
 z76:=Tryz.sizeOf201
 v76:=Tryz.zeroValue201
 t105:=Tryz.underlying222
 a105:=Tryz.isAgg222
 z105:=Tryz.sizeOf222
 v105:=Tryz.zeroValue222
 t107:=Tryz.underlying206
 a107:=Tryz.isAgg206
 z107:=Tryz.sizeOf206
 v107:=Tryz.zeroValue206
 t119:=Tryz.underlying244
 a119:=Tryz.isAgg244
 z119:=Tryz.sizeOf244
 t127:=Tryz.underlying221
 a127:=Tryz.isAgg221
 z127:=Tryz.sizeOf221
 v127:=Tryz.zeroValue221
 t138:=Tryz.underlying246
 a138:=Tryz.isAgg246
 z138:=Tryz.sizeOf246
 v138:=Tryz.zeroValue246
 t139:=Tryz.underlying247
 a139:=Tryz.isAgg247
 z139:=Tryz.sizeOf247
 v139:=Tryz.zeroValue247
 t160:=Tryz.underlying248
 a160:=Tryz.isAgg248
 z160:=Tryz.sizeOf248
 v160:=Tryz.zeroValue248
 t162:=Tryz.underlying239
 a162:=Tryz.isAgg239
 z162:=Tryz.sizeOf239
 v162:=Tryz.zeroValue239
 t164:=Tryz.underlying233
 a164:=Tryz.isAgg233
 z164:=Tryz.sizeOf233
 v164:=Tryz.zeroValue233
 t203:=Tryz.underlying237
 a203:=Tryz.isAgg237
 z203:=Tryz.sizeOf237
 v203:=Tryz.zeroValue237
 t206:=Tryz.underlying254
 a206:=Tryz.isAgg254
 z206:=Tryz.sizeOf254
 v206:=Tryz.zeroValue254
 t208:=Tryz.underlying256
 a208:=Tryz.isAgg256
 z208:=Tryz.sizeOf256
 v208:=Tryz.zeroValue256
 g3:=by kernel_rfl
 g4:=by kernel_rfl
 g13:=by kernel_rfl }
theorem Tryz.Builder_Extra_159:Builder.Extra Tryz.prog Tryz.lays159_ren:={
 sizeBuilder:=by kernel_rfl
 liesBuilder:=by kernel_rfl
 t5:=Tryz.underlying5
 a5:=Tryz.isAgg5
 z5:=Tryz.sizeOf5
 v5:=Tryz.zeroValue5
 infoByte:=by kernel_rfl
 cellsByte:=by kernel_rfl
 sizeByte:=by kernel_rfl
 neB5:=by decide }
theorem Tryz.strings_ToLower_ascii (s:ByteArray) (w:World) (hs:s.size ≤ 140737488355328) (hascii:∀ (j:Nat) (b:UInt8),s.data.toList[j]? = some b → b.toNat < 128):
  Calls Tryz.prog 115 #[.string s] w fun e w'=>e = .returned (.string ⟨(Lib.toLowerA s.data.toList).toArray⟩) ∧ Below w.heap.size w w':=Any.strings_ToLower_ascii Tryz.lays159 Tryz.Builder_Extra_159 s w hs hascii
def Tryz.lays156_ren:Go.Shelf.Ren:=⟨fun | 156=>133 | 165=>160 | 166=>161 | 169=>163 | 240=>185 | 241=>186 | 276=>201 | 277=>202 | n=>n,fun | 31=>34 | 9=>9 | 3=>3 | 4=>4 | 0=>0 | 20=>20 | 72=>197 | 76=>201 | 70=>195 | 37=>42 | 75=>200 | 127=>221 | 164=>233 | 5=>5 | 80=>204 | n=>n,fun | n=>n⟩
theorem Tryz.lays156:Go.Proofs.Lays.n156 Tryz.prog Tryz.lays156_ren:={
 mixed:=by kernel_rfl
 f156:=Tryz.func133.trans (congrArg some (by kernel_rfl))
 f165:=Tryz.func160.trans (congrArg some (by kernel_rfl))
 f166:=Tryz.func161.trans (congrArg some (by kernel_rfl))
 f169:=Tryz.func163.trans (congrArg some (by kernel_rfl))
 f240:=Tryz.func185.trans (congrArg some (by kernel_rfl))
 f241:=Tryz.func186.trans (congrArg some (by kernel_rfl))
 f276:=Tryz.func201.trans (congrArg some (by kernel_rfl))
 f277:=Tryz.func202.trans (congrArg some (by kernel_rfl))
 t0:=Tryz.underlying0
 a0:=Tryz.isAgg0
 z0:=Tryz.sizeOf0
 v0:=Tryz.zeroValue0
 t3:=Tryz.underlying3
 a3:=Tryz.isAgg3
 z3:=Tryz.sizeOf3
 v3:=Tryz.zeroValue3
 t4:=Tryz.underlying4
 a4:=Tryz.isAgg4
 z4:=Tryz.sizeOf4
 v4:=Tryz.zeroValue4
 t9:=Tryz.underlying9
 a9:=Tryz.isAgg9
 z9:=Tryz.sizeOf9
 v9:=Tryz.zeroValue9
 t20:=Tryz.underlying20
 a20:=Tryz.isAgg20
 z20:=Tryz.sizeOf20
 v20:=Tryz.zeroValue20
 t31:=Tryz.underlying34
 a31:=Tryz.isAgg34
 z31:=Tryz.sizeOf34
 v31:=Tryz.zeroValue34
 t37:=Tryz.underlying42
 a37:=Tryz.isAgg42
 z37:=Tryz.sizeOf42
 v37:=Tryz.zeroValue42
 t70:=Tryz.underlying195
 a70:=Tryz.isAgg195
 z70:=Tryz.sizeOf195
 v70:=Tryz.zeroValue195
 t72:=Tryz.underlying197
 a72:=Tryz.isAgg197
 z72:=Tryz.sizeOf197
 v72:=Tryz.zeroValue197
 t75:=Tryz.underlying200
 a75:=Tryz.isAgg200
 z75:=Tryz.sizeOf200
 v75:=Tryz.zeroValue200
 t76:=Tryz.underlying201
 a76:=Tryz.isAgg201
 z76:=Tryz.sizeOf201
 v76:=Tryz.zeroValue201
 t127:=Tryz.underlying221
 a127:=Tryz.isAgg221
 z127:=Tryz.sizeOf221
 v127:=Tryz.zeroValue221
 t164:=Tryz.underlying233
 a164:=Tryz.isAgg233
 z164:=Tryz.sizeOf233
 v164:=Tryz.zeroValue233 }
theorem Tryz.Builder_Extra_156:Builder.Extra Tryz.prog Tryz.lays156_ren:={
 sizeBuilder:=by kernel_rfl
 liesBuilder:=by kernel_rfl
 t5:=Tryz.underlying5
 a5:=Tryz.isAgg5
 z5:=Tryz.sizeOf5
 v5:=Tryz.zeroValue5
 infoByte:=by kernel_rfl
 cellsByte:=by kernel_rfl
 sizeByte:=by kernel_rfl
 neB5:=by decide }
theorem Tryz.strings_Join (bk o c:Nat) (xs:List ByteArray) (sep:ByteArray) (w:World) (hcells:∀ (j:Nat) x,xs[j]? = some x → w.cell? ⟨bk,o + j,none⟩ = some (.string x)) (hbk:bk < w.heap.size) (hN:xs.length ≤ 140737488355328) (hcap:xs.length ≤ c) (hlen:(Lib.join (xs.map (·.data.toList)) sep.data.toList).length ≤ 140737488355328):
  Calls Tryz.prog 133 #[.slice (some ⟨bk,o,none⟩) xs.length c,.string sep] w fun e w'=>e = .returned (.string ⟨(Lib.join (xs.map (·.data.toList)) sep.data.toList).toArray⟩) ∧ Below w.heap.size w w':=Any.strings_Join Tryz.lays156 Tryz.Builder_Extra_156 bk o c xs sep w hcells hbk hN hcap hlen
def Tryz.lays125_ren:Go.Shelf.Ren:=⟨fun | 125=>109 | 128=>154 | 129=>155 | n=>n,fun | 46=>147 | 3=>3 | 51=>173 | 53=>186 | 4=>4 | 5=>5 | 9=>9 | n=>n,fun | n=>n⟩
theorem Tryz.lays125:Go.Proofs.Lays.n125 Tryz.prog Tryz.lays125_ren:={
 mixed:=by kernel_rfl
 f125:=Tryz.func109.trans (congrArg some (by kernel_rfl))
 f128:=Tryz.func154.trans (congrArg some (by kernel_rfl))
 f129:=Tryz.func155.trans (congrArg some (by kernel_rfl))
 t3:=Tryz.underlying3
 a3:=Tryz.isAgg3
 z3:=Tryz.sizeOf3
 v3:=Tryz.zeroValue3
 t4:=Tryz.underlying4
 a4:=Tryz.isAgg4
 z4:=Tryz.sizeOf4
 v4:=Tryz.zeroValue4
 t5:=Tryz.underlying5
 a5:=Tryz.isAgg5
 z5:=Tryz.sizeOf5
 v5:=Tryz.zeroValue5
 t9:=Tryz.underlying9
 a9:=Tryz.isAgg9
 z9:=Tryz.sizeOf9
 v9:=Tryz.zeroValue9
 t46:=Tryz.underlying147
 a46:=Tryz.isAgg147
 z46:=Tryz.sizeOf147
 v46:=Tryz.zeroValue147
 t51:=Tryz.underlying173
 a51:=Tryz.isAgg173
 z51:=Tryz.sizeOf173
 v51:=Tryz.zeroValue173
 t53:=Tryz.underlying186
 a53:=Tryz.isAgg186
 z53:=Tryz.sizeOf186
 v53:=Tryz.zeroValue186 }
theorem Tryz.bits_Len (x:Int) (w:World) (h0:0 ≤ x) (h1:x ≤ 18446744073709551615):
  Calls Tryz.prog 109 #[.int .u64 x] w fun e w'=>e = .returned (.int .i64 (Lib.bitLen x.toNat)) ∧ w' = w:=Any.bits_Len Tryz.lays125 x w h0 h1
def Tryz.lays106_ren:Go.Shelf.Ren:=⟨fun | 106=>145 | 213=>178 | 265=>198 | n=>n,fun | 9=>9 | 3=>3 | n=>n,fun | n=>n⟩
theorem Tryz.lays106:Go.Proofs.Lays.n106 Tryz.prog Tryz.lays106_ren:={
 mixed:=by kernel_rfl
 f106:=Tryz.func145.trans (congrArg some (by kernel_rfl))
 f213:=Tryz.func178.trans (congrArg some (by kernel_rfl))
 f265:=Tryz.func198.trans (congrArg some (by kernel_rfl))
 t3:=Tryz.underlying3
 a3:=Tryz.isAgg3
 z3:=Tryz.sizeOf3
 v3:=Tryz.zeroValue3
 t9:=Tryz.underlying9
 a9:=Tryz.isAgg9
 z9:=Tryz.sizeOf9
 v9:=Tryz.zeroValue9 }
theorem Tryz.strings_Compare (a b:ByteArray) (w:World):
  Calls Tryz.prog 145 #[.string a,.string b] w fun e w'=>e = .returned (.int .i64 (Lib.compareBytes a.data.toList b.data.toList)) ∧ w' = w:=Any.strings_Compare Tryz.lays106 a b w
def Tryz.lays137_ren:Go.Shelf.Ren:=⟨fun | 137=>156 | 217=>184 | 266=>200 | n=>n,fun | 9=>9 | 5=>5 | 3=>3 | n=>n,fun | n=>n⟩
theorem Tryz.lays137:Go.Proofs.Lays.n137 Tryz.prog Tryz.lays137_ren:={
 mixed:=by kernel_rfl
 f137:=Tryz.func156.trans (congrArg some (by kernel_rfl))
 f217:=Tryz.func184.trans (congrArg some (by kernel_rfl))
 f266:=Tryz.func200.trans (congrArg some (by kernel_rfl))
 t3:=Tryz.underlying3
 a3:=Tryz.isAgg3
 z3:=Tryz.sizeOf3
 v3:=Tryz.zeroValue3
 t5:=Tryz.underlying5
 a5:=Tryz.isAgg5
 z5:=Tryz.sizeOf5
 v5:=Tryz.zeroValue5
 t9:=Tryz.underlying9
 a9:=Tryz.isAgg9
 z9:=Tryz.sizeOf9
 v9:=Tryz.zeroValue9 }
theorem Tryz.strings_IndexByte (s:ByteArray) (c:Int) (w:World):
  Calls Tryz.prog 156 #[.string s,.int .u8 c] w fun e w'=>e = .returned (.int .i64 (Lib.indexByte s.data.toList c.toNat.toUInt8)) ∧ w' = w:=Any.strings_IndexByte Tryz.lays137 s c w
def Tryz.lays144_ren:Go.Shelf.Ren:=⟨fun | 144=>143 | 143=>176 | 219=>197 | 217=>184 | 225=>210 | 224=>211 | 267=>212 | 266=>200 | 314=>217 | n=>n,fun | 9=>9 | 4=>4 | 3=>3 | 5=>5 | 46=>147 | 146=>174 | 51=>173 | n=>n,fun | 1=>0 | n=>n⟩
theorem Tryz.lays144:Go.Proofs.Lays.n144 Tryz.prog Tryz.lays144_ren:={
 mixed:=by kernel_rfl
 f143:=Tryz.func176.trans (congrArg some (by kernel_rfl))
 f144:=Tryz.func143.trans (congrArg some (by kernel_rfl))
 f217:=Tryz.func184.trans (congrArg some (by kernel_rfl))
 f219:=Tryz.func197.trans (congrArg some (by kernel_rfl))
 f224:=Tryz.func211.trans (congrArg some (by kernel_rfl))
 f225:=Tryz.func210.trans (congrArg some (by kernel_rfl))
 f266:=Tryz.func200.trans (congrArg some (by kernel_rfl))
 f267:=Tryz.func212.trans (congrArg some (by kernel_rfl))
 f314:=Tryz.func217.trans (congrArg some (by kernel_rfl))
 t3:=Tryz.underlying3
 a3:=Tryz.isAgg3
 z3:=Tryz.sizeOf3
 v3:=Tryz.zeroValue3
 t4:=Tryz.underlying4
 a4:=Tryz.isAgg4
 z4:=Tryz.sizeOf4
 v4:=Tryz.zeroValue4
 t5:=Tryz.underlying5
 a5:=Tryz.isAgg5
 z5:=Tryz.sizeOf5
 v5:=Tryz.zeroValue5
 t9:=Tryz.underlying9
 a9:=Tryz.isAgg9
 z9:=Tryz.sizeOf9
 v9:=Tryz.zeroValue9
 t46:=Tryz.underlying147
 a46:=Tryz.isAgg147
 z46:=Tryz.sizeOf147
 v46:=Tryz.zeroValue147
 t51:=Tryz.underlying173
 a51:=Tryz.isAgg173
 z51:=Tryz.sizeOf173
 v51:=Tryz.zeroValue173
 t146:=Tryz.underlying174
 a146:=Tryz.isAgg174
 z146:=Tryz.sizeOf174
 v146:=Tryz.zeroValue174
 g1:=by kernel_rfl }
theorem Tryz.strings_Contains_one (s:ByteArray) (c:UInt8) (w:World):
  Calls Tryz.prog 143 #[.string s,.string ⟨#[c]⟩] w fun e w'=>e = .returned (.bool (decide (0 ≤ Lib.indexByte s.data.toList c))) ∧ w' = w:=Any.strings_Contains_one Tryz.lays144 s c w
def Tryz.lays146_ren:Go.Shelf.Ren:=⟨fun | 146=>96 | 221=>136 | 268=>174 | 138=>175 | 143=>176 | 195=>195 | 197=>187 | 218=>196 | 219=>197 | 260=>203 | 217=>184 | 225=>210 | 224=>211 | 267=>212 | 266=>200 | 314=>217 | n=>n,fun | 9=>9 | 31=>34 | 3=>3 | 4=>4 | 0=>0 | 105=>222 | 21=>21 | 5=>5 | 46=>147 | 119=>244 | 139=>247 | 138=>246 | 146=>174 | 51=>173 | n=>n,fun | 1=>0 | 3=>2 | 4=>3 | n=>n⟩
theorem Tryz.lays146:Go.Proofs.Lays.n146 Tryz.prog Tryz.lays146_ren:={
 mixed:=by kernel_rfl
 f138:=Tryz.func175.trans (congrArg some (by kernel_rfl))
 f143:=Tryz.func176.trans (congrArg some (by kernel_rfl))
 f146:=Tryz.func96.trans (congrArg some (by kernel_rfl))
 f195:=Tryz.func195.trans (congrArg some (by kernel_rfl))
 f197:=Tryz.func187.trans (congrArg some (by kernel_rfl))
 f217:=Tryz.func184.trans (congrArg some (by kernel_rfl))
 f218:=Tryz.func196.trans (congrArg some (by kernel_rfl))
 f219:=Tryz.func197.trans (congrArg some (by kernel_rfl))
 f221:=Tryz.func136.trans (congrArg some (by kernel_rfl))
 f224:=Tryz.func211.trans (congrArg some (by kernel_rfl))
 f225:=Tryz.func210.trans (congrArg some (by kernel_rfl))
 f260:=Tryz.func203.trans (congrArg some (by kernel_rfl))
 f266:=Tryz.func200.trans (congrArg some (by kernel_rfl))
 f267:=Tryz.func212.trans (congrArg some (by kernel_rfl))
 f268:=Tryz.func174.trans (congrArg some (by kernel_rfl))
 f314:=Tryz.func217.trans (congrArg some (by kernel_rfl))
 t0:=Tryz.underlying0
 a0:=Tryz.isAgg0
 z0:=Tryz.sizeOf0
 v0:=Tryz.zeroValue0
 t3:=Tryz.underlying3
 a3:=Tryz.isAgg3
 z3:=Tryz.sizeOf3
 v3:=Tryz.zeroValue3
 t4:=Tryz.underlying4
 a4:=Tryz.isAgg4
 z4:=Tryz.sizeOf4
 v4:=Tryz.zeroValue4
 t5:=Tryz.underlying5
 a5:=Tryz.isAgg5
 z5:=Tryz.sizeOf5
 v5:=Tryz.zeroValue5
 t9:=Tryz.underlying9
 a9:=Tryz.isAgg9
 z9:=Tryz.sizeOf9
 v9:=Tryz.zeroValue9
 t21:=Tryz.underlying21
 a21:=Tryz.isAgg21
 z21:=Tryz.sizeOf21
 v21:=Tryz.zeroValue21
 t31:=Tryz.underlying34
 a31:=Tryz.isAgg34
 z31:=Tryz.sizeOf34
 v31:=Tryz.zeroValue34
 t46:=Tryz.underlying147
 a46:=Tryz.isAgg147
 z46:=Tryz.sizeOf147
 v46:=Tryz.zeroValue147
 t51:=Tryz.underlying173
 a51:=Tryz.isAgg173
 z51:=Tryz.sizeOf173
 v51:=Tryz.zeroValue173
 t105:=Tryz.underlying222
 a105:=Tryz.isAgg222
 z105:=Tryz.sizeOf222
 v105:=Tryz.zeroValue222
 t119:=Tryz.underlying244
 a119:=Tryz.isAgg244
 z119:=Tryz.sizeOf244
 t138:=Tryz.underlying246
 a138:=Tryz.isAgg246
 z138:=Tryz.sizeOf246
 v138:=Tryz.zeroValue246
 t139:=Tryz.underlying247
 a139:=Tryz.isAgg247
 z139:=Tryz.sizeOf247
 v139:=Tryz.zeroValue247
 t146:=Tryz.underlying174
 a146:=Tryz.isAgg174
 z146:=Tryz.sizeOf174
 v146:=Tryz.zeroValue174
 g1:=by kernel_rfl
 g3:=by kernel_rfl
 g4:=by kernel_rfl }
theorem Tryz.strings_Split (s sep:ByteArray) (m:Int) (w:World) (hs:s.size < 4294967281) (hm:w.cell? ⟨0,0,none⟩ = some (.int .i64 m)) (h1:1 ≤ sep.size):
  Calls Tryz.prog 96 #[.string s,.string sep] w fun e w'=>
   e = .returned (.slice (some ⟨w.heap.size,0,none⟩) (Lib.countB s sep + 1) (Lib.countB s sep + 1)) ∧ w' = w.alloc (.cells ((Lib.splitB sep 0 (Lib.countB s sep) s).map Value.string).toArray 9):=Any.strings_Split Tryz.lays146 (by kernel_rfl) s sep m w hs hm h1
def Tryz.lays150_ren:Go.Shelf.Ren:=⟨fun | 150=>170 | 153=>193 | 152=>206 | 226=>207 | 227=>208 | 228=>209 | 137=>156 | 119=>216 | 224=>211 | 225=>210 | 217=>184 | 266=>200 | n=>n,fun | 9=>9 | 4=>4 | 3=>3 | 5=>5 | 21=>21 | 117=>242 | 116=>241 | 0=>0 | 46=>147 | 124=>252 | n=>n,fun | n=>n⟩
theorem Tryz.lays150:Go.Proofs.Lays.n150 Tryz.prog Tryz.lays150_ren:={
 mixed:=by kernel_rfl
 f119:=Tryz.func216.trans (congrArg some (by kernel_rfl))
 f137:=Tryz.func156.trans (congrArg some (by kernel_rfl))
 f150:=Tryz.func170.trans (congrArg some (by kernel_rfl))
 f152:=Tryz.func206.trans (congrArg some (by kernel_rfl))
 f153:=Tryz.func193.trans (congrArg some (by kernel_rfl))
 f217:=Tryz.func184.trans (congrArg some (by kernel_rfl))
 f224:=Tryz.func211.trans (congrArg some (by kernel_rfl))
 f225:=Tryz.func210.trans (congrArg some (by kernel_rfl))
 f226:=Tryz.func207.trans (congrArg some (by kernel_rfl))
 f227:=Tryz.func208.trans (congrArg some (by kernel_rfl))
 f228:=Tryz.func209.trans (congrArg some (by kernel_rfl))
 f266:=Tryz.func200.trans (congrArg some (by kernel_rfl))
 t0:=Tryz.underlying0
 a0:=Tryz.isAgg0
 z0:=Tryz.sizeOf0
 v0:=Tryz.zeroValue0
 t3:=Tryz.underlying3
 a3:=Tryz.isAgg3
 z3:=Tryz.sizeOf3
 v3:=Tryz.zeroValue3
 t4:=Tryz.underlying4
 a4:=Tryz.isAgg4
 z4:=Tryz.sizeOf4
 v4:=Tryz.zeroValue4
 t5:=Tryz.underlying5
 a5:=Tryz.isAgg5
 z5:=Tryz.sizeOf5
 v5:=Tryz.zeroValue5
 t9:=Tryz.underlying9
 a9:=Tryz.isAgg9
 z9:=Tryz.sizeOf9
 v9:=Tryz.zeroValue9
 t21:=Tryz.underlying21
 a21:=Tryz.isAgg21
 z21:=Tryz.sizeOf21
 v21:=Tryz.zeroValue21
 t46:=Tryz.underlying147
 a46:=Tryz.isAgg147
 z46:=Tryz.sizeOf147
 v46:=Tryz.zeroValue147
 t116:=Tryz.underlying241
 a116:=Tryz.isAgg241
 z116:=Tryz.sizeOf241
 t117:=Tryz.underlying242
 a117:=Tryz.isAgg242
 z117:=Tryz.sizeOf242
 v117:=Tryz.zeroValue242
 t124:=Tryz.underlying252
 a124:=Tryz.isAgg252
 z124:=Tryz.sizeOf252
 v124:=Tryz.zeroValue252 }
theorem Tryz.strings_ContainsAny_laid (s chars:ByteArray) (w:World) (hs:s.size < 4294967281) (hcs:chars.size < 4294967281) (has:∀ (j:Nat) b,s.data.toList[j]? = some b → b.toNat < 128) (hac:∀ (j:Nat) b,chars.data.toList[j]? = some b → b.toNat < 128):
  Calls Tryz.prog 170 #[.string s,.string chars] w fun e w'=>e = .returned (.bool (Lib.containsAny s.data.toList chars.data.toList)) ∧ Below w.heap.size w w':=Any.strings_ContainsAny_laid Tryz.lays150 (by kernel_rfl) s chars w hs hcs has hac
end Go.Proofs
namespace Go.Ab
open Go Go.Proofs
def c56:AFn:=⟨(sq [(ox 4 (mb false))] (sq [(mv 5 0),(mv 6 1),(ox 7 (fc 97 [(.t 5),(.t 6)])),(mv 4 7)] .ret)),8,[(.tmp 4)]⟩
theorem c56_ok:QAg Tryz.prog [] 56 = some c56:=by kernel_rfl
def c79:AFn:=⟨(sq [(ox 0 (.alloc 123 zB))] (sq [(ox 1 (.build zB [])),(ox 2 (fc 80 [(.t 1),(.v (.str [65,66,67,68,69,70,71,72,73,74,75,76,77,78,79,80,81,82,83,84,85,86,87,88,89,90]))])),(ox 3 (fc 115 [(.v (.str [65,66,67,68,69,70,71,72,73,74,75,76,77,78,79,80,81,82,83,84,85,86,87,88,89,90]))])),(ox 4 (fc 80 [(.t 2),(.t 3)])),(ox 5 (fc 80 [(.t 4),(.v (.str [48,49,50,51,52,53,54,55,56,57]))])),(ox 6 (fc 80 [(.t 5),(.v (.str [95,46,58,43,45]))])),(on (.store (some 256) (.t 0) (.t 6)))] .ret)),7,[(.cell 0 (some 256))]⟩
theorem c79_ok:QAg Tryz.prog [] 79 = some c79:=by kernel_rfl
def c80:AFn:=⟨(sq [(ox 2 (.box 123 (.t 0))),(ox 4 (.alloc 123 zB))] (.seq (sq [(mv 6 1),(ox 7 (.len .str (.t 6))),(ox 8 (.mov (iv 0)))] (.block 0 (.loop (sq [(ox 9 (b2 .lss 8 7))] (.seq (cd 9 .skip (.exit 0)) (.seq (.block 1 (sq [(mv 10 8),(mv 5 10)] (.ops [(mv 11 1),(mv 12 5),(ox 13 (.idx (.t 11) (.t 12))),(ox 14 (.iaddr (some 256) 1 (.t 2) (.t 13))),(on (.store none (.t 14) (.v (.bool true))))]))) (.ops [(ox 15 (b1 .add 8 1)),(mv 8 15)]))))))) (sq [(ox 16 (.load (some 256) (.t 2))),(on (.store (some 256) (.t 4) (.t 16)))] .ret))),17,[(.cell 4 (some 256))]⟩
theorem c80_ok:QAg Tryz.prog [] 80 = some c80:=by kernel_rfl
def c86:AFn:=⟨(sq [(ox 4 (mb false))] (sq [(mv 5 0),(mv 6 1),(ox 7 (fc 119 [(.t 5),(.t 6)])),(ox 8 (b1 .geq 7 0)),(mv 4 8)] .ret)),9,[(.tmp 4)]⟩
theorem c86_ok:QAg Tryz.prog [] 86 = some c86:=by kernel_rfl
def c127:AFn:=⟨(sq [(ox 2 (mb false))] (sq [(ox 4 (fc 168 [])),(ox 3 (.alloc 123 zB)),(on (.store (some 256) (.t 3) (.t 4)))] (sq [(mv 5 0),(ox 6 (.len .str (.t 5))),(ox 7 (b1 .leq 6 256)),(mv 8 7),(ot 9 (.mov (.t 0)) 8),(ot 10 (fc 96 [(.t 9),(.v (.str [47]))]) 8),(ot 11 (.mkfn (.func 169) [] [(.t 3)]) 8),(ot 12 (fc 132 [(.t 10),(.t 11)]) 8),(ox 13 (.pick (.t 8) (.t 12) (.v (.bool false)))),(mv 2 13)] .ret))),14,[(.tmp 2)]⟩
theorem c127_ok:QAg Tryz.prog [] 127 = some c127:=by kernel_rfl
def c168:AFn:=⟨(sq [(ox 0 (.alloc 123 zB))] (sq [(ox 1 (fc 79 [])),(ox 2 (fc 80 [(.t 1),(.v (.str [64,35,61,37]))])),(on (.store (some 256) (.t 0) (.t 2)))] .ret)),3,[(.cell 0 (some 256))]⟩
theorem c168_ok:QAg Tryz.prog [] 168 = some c168:=by kernel_rfl
def c172:AFn:=⟨(sq [(ox 3 (mb false))] (sq [(ox 4 (ld 1)),(mv 5 0),(ox 6 (.call (.t 4) [(.t 5)])),(ox 7 (.un .not (.t 6))),(mv 3 7)] .ret)),8,[(.tmp 3)]⟩
theorem c172_ok:QAg Tryz.prog [] 172 = some c172:=by kernel_rfl
def c194:AFn:=⟨(sq [(ox 2 (mb false))] (sq [(mv 3 0),(mv 4 0),(ox 5 (b2 .neq 3 4)),(mv 2 5)] .ret)),6,[(.tmp 2)]⟩
theorem c194_ok:QAg Tryz.prog [] 194 = some c194:=by kernel_rfl
end Go.Ab
