/- A part of the proof that the last file tells. -/
import Derived.Test.YtddoehnkgcbboaaGreatDoorAgB
import Derived.Shelf.Strings.Builder1
import Derived.Shelf.Strings.Builder2
import Derived.Shelf.Strings.OnBuilder
import Derived.Shelf.Strings.Trim
import Derived.Shelf.Small.Utf8
import Derived.Shelf.Small.Strs
import Derived.Shelf.Strings.BuilderF
import Derived.Shelf.Strings.BuilderK
import Derived.Shelf.Strings.Builder2Cap
import Derived.Shelf.Strconv.Atoi
import Derived.Shelf.Strconv.Itoa0
import Derived.Shelf.Strconv.Itoa1
import Derived.Shelf.LaysM
import Derived.Shelf.Strconv.Itoa2
import Derived.Shelf.Strconv.Itoa3
import Derived.Shelf.Strconv.AtoiErrFast
import Derived.Shelf.Strconv.ParseIntEmpty
import Derived.Shelf.Strconv.AtoiFail
import Derived.Shelf.Strconv.Clone
import Derived.Shelf.Strconv.SyntaxError
import Derived.Shelf.LaysC
import Derived.Shelf.Strconv.ToError
import Derived.Shelf.Strconv.Lower
import Derived.Shelf.Strconv.ParseUint10
import Derived.Shelf.Strconv.ParseUint10Empty
import Derived.Shelf.Strconv.ParseUint10Any
import Derived.Shelf.Strconv.ParseInt10
import Derived.Shelf.Strconv.AtoiLong
import Derived.Shelf.Strconv.AtoiInnerAll
import Derived.Shelf.Strconv.RangeError
import Derived.Shelf.Strconv.ToErrorRange
import Derived.Shelf.Strconv.AtoiAll
import Derived.Shelf.Strconv.ErrVarAll
import Derived.Shelf.Strings.Search1
import Derived.Shelf.Strings.Search2
import Derived.Shelf.Strings.Search3
import Derived.Shelf.Strings.Shaped
import Derived.Shelf.Strings.LastIndex
import Derived.Shelf.Strings.Prefix
import Derived.Shelf.Strings.Runes
import Derived.Shelf.Strings.AsciiSet
import Derived.Shelf.Bits.Mul64
import Derived.Shelf.Strings.Repeat
import Derived.Shelf.Unicode.DecodeSlow
import Derived.Shelf.Strings.BuilderCap
import Derived.Shelf.Slices.Turned
import Derived.HandedShaped
import Derived.Stop.LaidErr
import Derived.Lib.LaidTab
import Derived.Lib.ItoaNum
import Derived.Shelf.Vars
import Derived.MakeChecks
import Derived.Below
import Derived.Lib.QuietBelow
import Derived.Lib.ItoaLen
import Derived.Lib.AppendStr
import Derived.Laws.RangeAny
import Derived.Laws.Runes
import Derived.WalkMore
import Derived.Lib.ConvBytes
import Derived.Deep.RegionHeld3
set_option maxHeartbeats 16000000
set_option maxRecDepth 100000
set_option linter.unusedVariables false
set_option linter.unusedSimpArgs false
namespace Go.Proofs
open Go.Shelf
def Tryz.vG:Go.Shelf.Ren:=⟨fun|156=>213|165=>242|166=>115|169=>46|240=>152|241=>262|276=>186|277=>275|n=>n,fun|31=>32|9=>9|3=>3|4=>4|0=>0|20=>20|72=>77|76=>140|70=>74|37=>75|75=>138|127=>109|164=>177|5=>5|80=>81|n=>n,fun|n=>n⟩
theorem Tryz.JZ:Go.Proofs.Lays.n156 Tryz.prog Tryz.vG:={
 mixed:=by kernel_rfl
 f156:=Tryz.func213.trans (congrArg some (by kernel_rfl))
 f165:=Tryz.func242.trans (congrArg some (by kernel_rfl))
 f166:=Tryz.func115.trans (congrArg some (by kernel_rfl))
 f169:=Tryz.func46.trans (congrArg some (by kernel_rfl))
 f240:=Tryz.func152.trans (congrArg some (by kernel_rfl))
 f241:=Tryz.func262.trans (congrArg some (by kernel_rfl))
 f276:=Tryz.func186.trans (congrArg some (by kernel_rfl))
 f277:=Tryz.func275.trans (congrArg some (by kernel_rfl))
 t0:=Tryz.underlying0
 a0:=Tryz.isAgg0
 z0:=Tryz.sizeOf0
 v0:=Tryz.zeroValue0
 t3:=Tryz.underlying3
 a3:=Tryz.isAgg3
 z3:=Tryz.sizeOf3
 v3:=Tryz.zeroValue3
 t4:=Tryz.underlying4
 a4:=Tryz.isAgg4
 z4:=Tryz.sizeOf4
 v4:=Tryz.zeroValue4
 t9:=Tryz.underlying9
 a9:=Tryz.isAgg9
 z9:=Tryz.sizeOf9
 v9:=Tryz.zeroValue9
 t20:=Tryz.underlying20
 a20:=Tryz.isAgg20
 z20:=Tryz.sizeOf20
 v20:=Tryz.zeroValue20
 t31:=Tryz.underlying32
 a31:=Tryz.isAgg32
 z31:=Tryz.sizeOf32
 v31:=Tryz.zeroValue32
 t37:=Tryz.underlying75
 a37:=Tryz.isAgg75
 z37:=Tryz.sizeOf75
 v37:=Tryz.zeroValue75
 t70:=Tryz.underlying74
 a70:=Tryz.isAgg74
 z70:=Tryz.sizeOf74
 v70:=Tryz.zeroValue74
 t72:=Tryz.underlying77
 a72:=Tryz.isAgg77
 z72:=Tryz.sizeOf77
 v72:=Tryz.zeroValue77
 t75:=Tryz.underlying138
 a75:=Tryz.isAgg138
 z75:=Tryz.sizeOf138
 v75:=Tryz.zeroValue138
 t76:=Tryz.underlying140
 a76:=Tryz.isAgg140
 z76:=Tryz.sizeOf140
 v76:=Tryz.zeroValue140
 t127:=Tryz.underlying109
 a127:=Tryz.isAgg109
 z127:=Tryz.sizeOf109
 v127:=Tryz.zeroValue109
 t164:=Tryz.underlying177
 a164:=Tryz.isAgg177
 z164:=Tryz.sizeOf177
 v164:=Tryz.zeroValue177}
theorem Tryz.lU:Builder.Extra Tryz.prog Tryz.vG:={
 sizeBuilder:=by kernel_rfl
 liesBuilder:=by kernel_rfl
 t5:=Tryz.underlying5
 a5:=Tryz.isAgg5
 z5:=Tryz.sizeOf5
 v5:=Tryz.zeroValue5
 infoByte:=by kernel_rfl
 cellsByte:=by kernel_rfl
 sizeByte:=by kernel_rfl
 neB5:=by decide}
open Go.RowKit in
theorem Tryz.strings_Join_none (a:Option Addr) (c:Nat) (sep:ByteArray) (w:World):
 Calls Tryz.prog 213 #[.slice a 0 c,.string sep] w fun e w'=>e=.returned (.string ⟨#[]⟩)∧w'=w:=Any.strings_Join_none Tryz.JZ Tryz.lU a c sep w
open Go.RowKit in
theorem Tryz.strings_Join (bk o c:Nat) (xs:List ByteArray) (sep:ByteArray) (w:World) (hcells:∀(j:Nat) x,xs[j]? =some x→w.cell? ⟨bk,o+j,none⟩=some (.string x)) (hbk:bk<w.heap.size) (hN:xs.length≤140737488355328) (hcap:xs.length≤c) (hlen:(Lib.join (xs.map (·.data.toList)) sep.data.toList).length≤140737488355328):
 Calls Tryz.prog 213 #[.slice (some ⟨bk,o,none⟩) xs.length c,.string sep] w fun e w'=>e=.returned (.string ⟨(Lib.join (xs.map (·.data.toList)) sep.data.toList).toArray⟩)∧Below w.heap.size w w':=Any.strings_Join Tryz.JZ Tryz.lU bk o c xs sep w hcells hbk hN hcap hlen
def Tryz.DN:Go.Shelf.Ren:=⟨fun|161=>195|231=>216|227=>218|233=>219|235=>221|228=>245|197=>246|151=>247|260=>265|152=>266|137=>276|119=>277|224=>238|225=>237|217=>236|266=>260|n=>n,fun|9=>9|4=>4|3=>3|5=>5|117=>195|116=>194|0=>0|124=>198|105=>216|21=>21|119=>240|46=>202|139=>243|138=>242|n=>n,fun|3=>4|4=>5|n=>n⟩
theorem Tryz.TU:Go.Proofs.Lays.n161 Tryz.prog Tryz.DN:={
 mixed:=by kernel_rfl
 f119:=Tryz.func277.trans (congrArg some (by kernel_rfl))
 f137:=Tryz.func276.trans (congrArg some (by kernel_rfl))
 f151:=Tryz.func247.trans (congrArg some (by kernel_rfl))
 f152:=Tryz.func266.trans (congrArg some (by kernel_rfl))
 f161:=Tryz.func195.trans (congrArg some (by kernel_rfl))
 f197:=Tryz.func246.trans (congrArg some (by kernel_rfl))
 f217:=Tryz.func236.trans (congrArg some (by kernel_rfl))
 f224:=Tryz.func238.trans (congrArg some (by kernel_rfl))
 f225:=Tryz.func237.trans (congrArg some (by kernel_rfl))
 f227:=Tryz.func218.trans (congrArg some (by kernel_rfl))
 f228:=Tryz.func245.trans (congrArg some (by kernel_rfl))
 f231:=Tryz.func216.trans (congrArg some (by kernel_rfl))
 f233:=Tryz.func219.trans (congrArg some (by kernel_rfl))
 f235:=Tryz.func221.trans (congrArg some (by kernel_rfl))
 f260:=Tryz.func265.trans (congrArg some (by kernel_rfl))
 f266:=Tryz.func260.trans (congrArg some (by kernel_rfl))
 t0:=Tryz.underlying0
 a0:=Tryz.isAgg0
 z0:=Tryz.sizeOf0
 v0:=Tryz.zeroValue0
 t3:=Tryz.underlying3
 a3:=Tryz.isAgg3
 z3:=Tryz.sizeOf3
 v3:=Tryz.zeroValue3
 t4:=Tryz.underlying4
 a4:=Tryz.isAgg4
 z4:=Tryz.sizeOf4
 v4:=Tryz.zeroValue4
 t5:=Tryz.underlying5
 a5:=Tryz.isAgg5
 z5:=Tryz.sizeOf5
 v5:=Tryz.zeroValue5
 t9:=Tryz.underlying9
 a9:=Tryz.isAgg9
 z9:=Tryz.sizeOf9
 v9:=Tryz.zeroValue9
 t21:=Tryz.underlying21
 a21:=Tryz.isAgg21
 z21:=Tryz.sizeOf21
 v21:=Tryz.zeroValue21
 t46:=Tryz.underlying202
 a46:=Tryz.isAgg202
 z46:=Tryz.sizeOf202
 v46:=Tryz.zeroValue202
 t105:=Tryz.underlying216
 a105:=Tryz.isAgg216
 z105:=Tryz.sizeOf216
 v105:=Tryz.zeroValue216
 t116:=Tryz.underlying194
 a116:=Tryz.isAgg194
 z116:=Tryz.sizeOf194
 t117:=Tryz.underlying195
 a117:=Tryz.isAgg195
 z117:=Tryz.sizeOf195
 v117:=Tryz.zeroValue195
 t119:=Tryz.underlying240
 a119:=Tryz.isAgg240
 z119:=Tryz.sizeOf240
 t124:=Tryz.underlying198
 a124:=Tryz.isAgg198
 z124:=Tryz.sizeOf198
 v124:=Tryz.zeroValue198
 t138:=Tryz.underlying242
 a138:=Tryz.isAgg242
 z138:=Tryz.sizeOf242
 v138:=Tryz.zeroValue242
 t139:=Tryz.underlying243
 a139:=Tryz.isAgg243
 z139:=Tryz.sizeOf243
 v139:=Tryz.zeroValue243
 g3:=by kernel_rfl
 g4:=by kernel_rfl}
open Go.RowKit in
theorem Tryz.strings_TrimLeft_one (s:ByteArray) (c:UInt8) (hc:c.toNat<128) (w:World):
 Calls Tryz.prog 195 #[.string s,.string ⟨#[c]⟩] w fun e w'=>e=.returned (.string ⟨(Lib.trimLeftB s.data.toList c).toArray⟩)∧w'=w:=Any.strings_TrimLeft_one Tryz.TU s c hc w
def Tryz.DR:Go.Shelf.Ren:=⟨fun|160=>194|232=>217|231=>216|227=>218|234=>220|233=>219|236=>222|235=>221|228=>245|271=>248|151=>247|197=>246|120=>267|152=>266|260=>265|137=>276|119=>277|224=>238|225=>237|217=>236|266=>260|n=>n,fun|9=>9|4=>4|3=>3|5=>5|117=>195|116=>194|0=>0|124=>198|21=>21|105=>216|46=>202|119=>240|139=>243|138=>242|n=>n,fun|3=>4|4=>5|n=>n⟩
theorem Tryz.TV:Go.Proofs.Lays.n160 Tryz.prog Tryz.DR:={
 mixed:=by kernel_rfl
 f119:=Tryz.func277.trans (congrArg some (by kernel_rfl))
 f120:=Tryz.func267.trans (congrArg some (by kernel_rfl))
 f137:=Tryz.func276.trans (congrArg some (by kernel_rfl))
 f151:=Tryz.func247.trans (congrArg some (by kernel_rfl))
 f152:=Tryz.func266.trans (congrArg some (by kernel_rfl))
 f160:=Tryz.func194.trans (congrArg some (by kernel_rfl))
 f197:=Tryz.func246.trans (congrArg some (by kernel_rfl))
 f217:=Tryz.func236.trans (congrArg some (by kernel_rfl))
 f224:=Tryz.func238.trans (congrArg some (by kernel_rfl))
 f225:=Tryz.func237.trans (congrArg some (by kernel_rfl))
 f227:=Tryz.func218.trans (congrArg some (by kernel_rfl))
 f228:=Tryz.func245.trans (congrArg some (by kernel_rfl))
 f231:=Tryz.func216.trans (congrArg some (by kernel_rfl))
 f232:=Tryz.func217.trans (congrArg some (by kernel_rfl))
 f233:=Tryz.func219.trans (congrArg some (by kernel_rfl))
 f234:=Tryz.func220.trans (congrArg some (by kernel_rfl))
 f235:=Tryz.func221.trans (congrArg some (by kernel_rfl))
 f236:=Tryz.func222.trans (congrArg some (by kernel_rfl))
 f260:=Tryz.func265.trans (congrArg some (by kernel_rfl))
 f266:=Tryz.func260.trans (congrArg some (by kernel_rfl))
 f271:=Tryz.func248.trans (congrArg some (by kernel_rfl))
 t0:=Tryz.underlying0
 a0:=Tryz.isAgg0
 z0:=Tryz.sizeOf0
 v0:=Tryz.zeroValue0
 t3:=Tryz.underlying3
 a3:=Tryz.isAgg3
 z3:=Tryz.sizeOf3
 v3:=Tryz.zeroValue3
 t4:=Tryz.underlying4
 a4:=Tryz.isAgg4
 z4:=Tryz.sizeOf4
 v4:=Tryz.zeroValue4
 t5:=Tryz.underlying5
 a5:=Tryz.isAgg5
 z5:=Tryz.sizeOf5
 v5:=Tryz.zeroValue5
 t9:=Tryz.underlying9
 a9:=Tryz.isAgg9
 z9:=Tryz.sizeOf9
 v9:=Tryz.zeroValue9
 t21:=Tryz.underlying21
 a21:=Tryz.isAgg21
 z21:=Tryz.sizeOf21
 v21:=Tryz.zeroValue21
 t46:=Tryz.underlying202
 a46:=Tryz.isAgg202
 z46:=Tryz.sizeOf202
 v46:=Tryz.zeroValue202
 t105:=Tryz.underlying216
 a105:=Tryz.isAgg216
 z105:=Tryz.sizeOf216
 v105:=Tryz.zeroValue216
 t116:=Tryz.underlying194
 a116:=Tryz.isAgg194
 z116:=Tryz.sizeOf194
 t117:=Tryz.underlying195
 a117:=Tryz.isAgg195
 z117:=Tryz.sizeOf195
 v117:=Tryz.zeroValue195
 t119:=Tryz.underlying240
 a119:=Tryz.isAgg240
 z119:=Tryz.sizeOf240
 t124:=Tryz.underlying198
 a124:=Tryz.isAgg198
 z124:=Tryz.sizeOf198
 v124:=Tryz.zeroValue198
 t138:=Tryz.underlying242
 a138:=Tryz.isAgg242
 z138:=Tryz.sizeOf242
 v138:=Tryz.zeroValue242
 t139:=Tryz.underlying243
 a139:=Tryz.isAgg243
 z139:=Tryz.sizeOf243
 v139:=Tryz.zeroValue243
 g3:=by kernel_rfl
 g4:=by kernel_rfl}
open Go.RowKit in
theorem Tryz.strings_Trim_one (s:ByteArray) (c:UInt8) (hc:c.toNat<128) (w:World) (hs:s.size≤9223372036854775807):
 Calls Tryz.prog 194 #[.string s,.string ⟨#[c]⟩] w fun e w'=>e=.returned (.string ⟨(Lib.trimB s.data.toList c).toArray⟩)∧(w'=w∨w'=w.drew):=Any.strings_Trim_one Tryz.TV s c hc w hs
def Tryz.DU:Go.Shelf.Ren:=⟨fun|172=>139|244=>170|245=>171|247=>199|279=>200|280=>201|281=>202|282=>203|287=>224|316=>225|171=>180|205=>226|321=>250|322=>251|243=>208|246=>235|283=>256|284=>257|285=>258|286=>259|129=>271|317=>270|318=>272|319=>273|320=>274|337=>279|338=>280|n=>n,fun|9=>9|3=>3|75=>138|76=>140|4=>4|5=>5|167=>182|37=>75|0=>0|85=>183|2=>2|168=>185|53=>199|175=>200|46=>202|210=>204|127=>109|145=>221|143=>219|21=>21|171=>223|173=>226|212=>236|51=>228|20=>20|213=>237|232=>247|233=>248|80=>81|n=>n,fun|15=>0|16=>1|17=>3|18=>6|19=>7|n=>n⟩
theorem Tryz.TW:Go.Proofs.Lays.n172 Tryz.prog Tryz.DU:={
 mixed:=by kernel_rfl
 f129:=Tryz.func271.trans (congrArg some (by kernel_rfl))
 f171:=Tryz.func180.trans (congrArg some (by kernel_rfl))
 f172:=Tryz.func139.trans (congrArg some (by kernel_rfl))
 f205:=Tryz.func226.trans (congrArg some (by kernel_rfl))
 f243:=Tryz.func208.trans (congrArg some (by kernel_rfl))
 f244:=Tryz.func170.trans (congrArg some (by kernel_rfl))
 f245:=Tryz.func171.trans (congrArg some (by kernel_rfl))
 f246:=Tryz.func235.trans (congrArg some (by kernel_rfl))
 f247:=Tryz.func199.trans (congrArg some (by kernel_rfl))
 f279:=Tryz.func200.trans (congrArg some (by kernel_rfl))
 f280:=Tryz.func201.trans (congrArg some (by kernel_rfl))
 f281:=Tryz.func202.trans (congrArg some (by kernel_rfl))
 f282:=Tryz.func203.trans (congrArg some (by kernel_rfl))
 f283:=Tryz.func256.trans (congrArg some (by kernel_rfl))
 f284:=Tryz.func257.trans (congrArg some (by kernel_rfl))
 f285:=Tryz.func258.trans (congrArg some (by kernel_rfl))
 f286:=Tryz.func259.trans (congrArg some (by kernel_rfl))
 f287:=Tryz.func224.trans (congrArg some (by kernel_rfl))
 f316:=Tryz.func225.trans (congrArg some (by kernel_rfl))
 f317:=Tryz.func270.trans (congrArg some (by kernel_rfl))
 f318:=Tryz.func272.trans (congrArg some (by kernel_rfl))
 f319:=Tryz.func273.trans (congrArg some (by kernel_rfl))
 f320:=Tryz.func274.trans (congrArg some (by kernel_rfl))
 f321:=Tryz.func250.trans (congrArg some (by kernel_rfl))
 f322:=Tryz.func251.trans (congrArg some (by kernel_rfl))
 f337:=Tryz.func279.trans (congrArg some (by kernel_rfl))
 f338:=Tryz.func280.trans (congrArg some (by kernel_rfl))
 t0:=Tryz.underlying0
 a0:=Tryz.isAgg0
 z0:=Tryz.sizeOf0
 v0:=Tryz.zeroValue0
 t2:=Tryz.underlying2
 a2:=Tryz.isAgg2
 z2:=Tryz.sizeOf2
 v2:=Tryz.zeroValue2
 t3:=Tryz.underlying3
 a3:=Tryz.isAgg3
 z3:=Tryz.sizeOf3
 v3:=Tryz.zeroValue3
 t4:=Tryz.underlying4
 a4:=Tryz.isAgg4
 z4:=Tryz.sizeOf4
 v4:=Tryz.zeroValue4
 t5:=Tryz.underlying5
 a5:=Tryz.isAgg5
 z5:=Tryz.sizeOf5
 v5:=Tryz.zeroValue5
 t9:=Tryz.underlying9
 a9:=Tryz.isAgg9
 z9:=Tryz.sizeOf9
 v9:=Tryz.zeroValue9
 t20:=Tryz.underlying20
 a20:=Tryz.isAgg20
 z20:=Tryz.sizeOf20
 v20:=Tryz.zeroValue20
 t21:=Tryz.underlying21
 a21:=Tryz.isAgg21
 z21:=Tryz.sizeOf21
 v21:=Tryz.zeroValue21
 t37:=Tryz.underlying75
 a37:=Tryz.isAgg75
 z37:=Tryz.sizeOf75
 v37:=Tryz.zeroValue75
 t46:=Tryz.underlying202
 a46:=Tryz.isAgg202
 z46:=Tryz.sizeOf202
 v46:=Tryz.zeroValue202
 t51:=Tryz.underlying228
 a51:=Tryz.isAgg228
 z51:=Tryz.sizeOf228
 v51:=Tryz.zeroValue228
 t53:=Tryz.underlying199
 a53:=Tryz.isAgg199
 z53:=Tryz.sizeOf199
 v53:=Tryz.zeroValue199
 t75:=Tryz.underlying138
 a75:=Tryz.isAgg138
 z75:=Tryz.sizeOf138
 v75:=Tryz.zeroValue138
 t76:=Tryz.underlying140
 a76:=Tryz.isAgg140
 z76:=Tryz.sizeOf140
 v76:=Tryz.zeroValue140
 t85:=Tryz.underlying183
 a85:=Tryz.isAgg183
 z85:=Tryz.sizeOf183
 v85:=Tryz.zeroValue183
 t127:=Tryz.underlying109
 a127:=Tryz.isAgg109
 z127:=Tryz.sizeOf109
 v127:=Tryz.zeroValue109
 t143:=Tryz.underlying219
 a143:=Tryz.isAgg219
 z143:=Tryz.sizeOf219
 v143:=Tryz.zeroValue219
 t145:=Tryz.underlying221
 a145:=Tryz.isAgg221
 z145:=Tryz.sizeOf221
 v145:=Tryz.zeroValue221
 t167:=Tryz.underlying182
 a167:=Tryz.isAgg182
 z167:=Tryz.sizeOf182
 v167:=Tryz.zeroValue182
 t168:=Tryz.underlying185
 a168:=Tryz.isAgg185
 z168:=Tryz.sizeOf185
 v168:=Tryz.zeroValue185
 t171:=Tryz.underlying223
 a171:=Tryz.isAgg223
 z171:=Tryz.sizeOf223
 v171:=Tryz.zeroValue223
 t173:=Tryz.underlying226
 a173:=Tryz.isAgg226
 z173:=Tryz.sizeOf226
 v173:=Tryz.zeroValue226
 t175:=Tryz.underlying200
 a175:=Tryz.isAgg200
 z175:=Tryz.sizeOf200
 v175:=Tryz.zeroValue200
 t210:=Tryz.underlying204
 a210:=Tryz.isAgg204
 z210:=Tryz.sizeOf204
 v210:=Tryz.zeroValue204
 t212:=Tryz.underlying236
 a212:=Tryz.isAgg236
 z212:=Tryz.sizeOf236
 v212:=Tryz.zeroValue236
 t213:=Tryz.underlying237
 a213:=Tryz.isAgg237
 z213:=Tryz.sizeOf237
 t232:=Tryz.underlying247
 a232:=Tryz.isAgg247
 z232:=Tryz.sizeOf247
 v232:=Tryz.zeroValue247
 t233:=Tryz.underlying248
 a233:=Tryz.isAgg248
 z233:=Tryz.sizeOf248
 v233:=Tryz.zeroValue248
 g15:=by kernel_rfl
 g16:=by kernel_rfl
 g17:=by kernel_rfl
 g18:=by kernel_rfl
 g19:=by kernel_rfl}
open Go.RowKit in
theorem Tryz.strconv_Atoi (s:ByteArray) (n:Int) (hl:s.size≤18) (h:Lib.atoi s.data.toList=some n) (w:World):
 Calls Tryz.prog 139 #[.string s] w fun e w'=>e=.returned (.tuple #[.int .i64 n,.nilIface])∧∃t,w'=Lib.bytesWorld w 5 t:=Any.strconv_Atoi Tryz.TW s n hl h w
def Tryz.Cc:Go.Shelf.Ren:=⟨fun|171=>180|243=>208|246=>235|283=>256|284=>257|285=>258|286=>259|129=>271|317=>270|318=>272|319=>273|320=>274|337=>279|338=>280|n=>n,fun|3=>3|9=>9|2=>2|4=>4|171=>223|0=>0|53=>199|37=>75|5=>5|173=>226|212=>236|51=>228|20=>20|213=>237|46=>202|232=>247|233=>248|n=>n,fun|17=>3|18=>6|19=>7|n=>n⟩
theorem Tryz.OU:Go.Proofs.LaysM.n171 Tryz.prog Tryz.Cc:={
 mixed:=by kernel_rfl
 f129:=Tryz.func271.trans (congrArg some (by kernel_rfl))
 f171:=Tryz.func180.trans (congrArg some (by kernel_rfl))
 f243:=Tryz.func208.trans (congrArg some (by kernel_rfl))
 f246:=Tryz.func235.trans (congrArg some (by kernel_rfl))
 f283:=Tryz.func256.trans (congrArg some (by kernel_rfl))
 f284:=Tryz.func257.trans (congrArg some (by kernel_rfl))
 f285:=Tryz.func258.trans (congrArg some (by kernel_rfl))
 f286:=Tryz.func259.trans (congrArg some (by kernel_rfl))
 f317:=Tryz.func270.trans (congrArg some (by kernel_rfl))
 f318:=Tryz.func272.trans (congrArg some (by kernel_rfl))
 f319:=Tryz.func273.trans (congrArg some (by kernel_rfl))
 f320:=Tryz.func274.trans (congrArg some (by kernel_rfl))
 f337:=Tryz.func279.trans (congrArg some (by kernel_rfl))
 f338:=Tryz.func280.trans (congrArg some (by kernel_rfl))
 t0:=Tryz.underlying0
 a0:=Tryz.isAgg0
 z0:=Tryz.sizeOf0
 v0:=Tryz.zeroValue0
 t2:=Tryz.underlying2
 a2:=Tryz.isAgg2
 z2:=Tryz.sizeOf2
 v2:=Tryz.zeroValue2
 t3:=Tryz.underlying3
 a3:=Tryz.isAgg3
 z3:=Tryz.sizeOf3
 v3:=Tryz.zeroValue3
 t4:=Tryz.underlying4
 a4:=Tryz.isAgg4
 z4:=Tryz.sizeOf4
 v4:=Tryz.zeroValue4
 t5:=Tryz.underlying5
 a5:=Tryz.isAgg5
 z5:=Tryz.sizeOf5
 v5:=Tryz.zeroValue5
 t9:=Tryz.underlying9
 a9:=Tryz.isAgg9
 z9:=Tryz.sizeOf9
 v9:=Tryz.zeroValue9
 t20:=Tryz.underlying20
 a20:=Tryz.isAgg20
 z20:=Tryz.sizeOf20
 v20:=Tryz.zeroValue20
 t37:=Tryz.underlying75
 a37:=Tryz.isAgg75
 z37:=Tryz.sizeOf75
 v37:=Tryz.zeroValue75
 t46:=Tryz.underlying202
 a46:=Tryz.isAgg202
 z46:=Tryz.sizeOf202
 v46:=Tryz.zeroValue202
 t51:=Tryz.underlying228
 a51:=Tryz.isAgg228
 z51:=Tryz.sizeOf228
 v51:=Tryz.zeroValue228
 t53:=Tryz.underlying199
 a53:=Tryz.isAgg199
 z53:=Tryz.sizeOf199
 v53:=Tryz.zeroValue199
 t171:=Tryz.underlying223
 a171:=Tryz.isAgg223
 z171:=Tryz.sizeOf223
 v171:=Tryz.zeroValue223
 t173:=Tryz.underlying226
 a173:=Tryz.isAgg226
 z173:=Tryz.sizeOf226
 v173:=Tryz.zeroValue226
 t212:=Tryz.underlying236
 a212:=Tryz.isAgg236
 z212:=Tryz.sizeOf236
 v212:=Tryz.zeroValue236
 t213:=Tryz.underlying237
 a213:=Tryz.isAgg237
 z213:=Tryz.sizeOf237
 t232:=Tryz.underlying247
 a232:=Tryz.isAgg247
 z232:=Tryz.sizeOf247
 v232:=Tryz.zeroValue247
 t233:=Tryz.underlying248
 a233:=Tryz.isAgg248
 z233:=Tryz.sizeOf248
 v233:=Tryz.zeroValue248
 g17:=by kernel_rfl
 g18:=by kernel_rfl
 g19:=by kernel_rfl
 i0:=by kernel_rfl
 i2:=by kernel_rfl
 i3:=by kernel_rfl
 i4:=by kernel_rfl
 i5:=by kernel_rfl
 i9:=by kernel_rfl
 i20:=by kernel_rfl
 i37:=by kernel_rfl
 i46:=by kernel_rfl
 i51:=by kernel_rfl
 i53:=by kernel_rfl
 i171:=by kernel_rfl
 i173:=by kernel_rfl
 i212:=by kernel_rfl
 i232:=by kernel_rfl
 i233:=by kernel_rfl
 m17:=by kernel_rfl
 m18:=by kernel_rfl
 m19:=by kernel_rfl}
open Go.RowKit Go.Sort Go.Lib in
theorem Tryz.strconv_Itoa (n:Int) (h0:-9223372036854775808≤n) (h1:n≤9223372036854775807) (w:World) (ab8:Lib.TabIs Tryz.prog w "internal/strconv.uint64pow10" .u64 Lib.pow10Tab):
 Calls Tryz.prog 180 #[.int .i64 n] w fun e w'=>e=.returned (.string ⟨(Lib.itoa n).toArray⟩)∧∃k os,w'=grow (w.drewN k) os:=Any.strconv_Itoa Tryz.OU n h0 h1 w ab8
def Tryz.DV:Go.Shelf.Ren:=⟨fun|144=>147|143=>181|219=>209|217=>236|225=>237|224=>238|267=>239|266=>260|314=>261|n=>n,fun|9=>9|4=>4|3=>3|5=>5|46=>202|146=>229|51=>228|n=>n,fun|1=>2|n=>n⟩
theorem Tryz.TY:Go.Proofs.Lays.n144 Tryz.prog Tryz.DV:={
 mixed:=by kernel_rfl
 f143:=Tryz.func181.trans (congrArg some (by kernel_rfl))
 f144:=Tryz.func147.trans (congrArg some (by kernel_rfl))
 f217:=Tryz.func236.trans (congrArg some (by kernel_rfl))
 f219:=Tryz.func209.trans (congrArg some (by kernel_rfl))
 f224:=Tryz.func238.trans (congrArg some (by kernel_rfl))
 f225:=Tryz.func237.trans (congrArg some (by kernel_rfl))
 f266:=Tryz.func260.trans (congrArg some (by kernel_rfl))
 f267:=Tryz.func239.trans (congrArg some (by kernel_rfl))
 f314:=Tryz.func261.trans (congrArg some (by kernel_rfl))
 t3:=Tryz.underlying3
 a3:=Tryz.isAgg3
 z3:=Tryz.sizeOf3
 v3:=Tryz.zeroValue3
 t4:=Tryz.underlying4
 a4:=Tryz.isAgg4
 z4:=Tryz.sizeOf4
 v4:=Tryz.zeroValue4
 t5:=Tryz.underlying5
 a5:=Tryz.isAgg5
 z5:=Tryz.sizeOf5
 v5:=Tryz.zeroValue5
 t9:=Tryz.underlying9
 a9:=Tryz.isAgg9
 z9:=Tryz.sizeOf9
 v9:=Tryz.zeroValue9
 t46:=Tryz.underlying202
 a46:=Tryz.isAgg202
 z46:=Tryz.sizeOf202
 v46:=Tryz.zeroValue202
 t51:=Tryz.underlying228
 a51:=Tryz.isAgg228
 z51:=Tryz.sizeOf228
 v51:=Tryz.zeroValue228
 t146:=Tryz.underlying229
 a146:=Tryz.isAgg229
 z146:=Tryz.sizeOf229
 v146:=Tryz.zeroValue229
 g1:=by kernel_rfl}
open Go.RowKit Go.Lib in
theorem Tryz.strings_Contains_one (s:ByteArray) (c:UInt8) (w:World):
 Calls Tryz.prog 147 #[.string s,.string ⟨#[c]⟩] w fun e w'=>e=.returned (.bool (decide (0≤Lib.indexByte s.data.toList c)))∧w'=w:=Any.strings_Contains_one Tryz.TY s c w
def Tryz.DW:Go.Shelf.Ren:=⟨fun|149=>185|222=>214|n=>n,fun|9=>9|5=>5|3=>3|4=>4|n=>n,fun|n=>n⟩
theorem Tryz.TZ:Go.Proofs.Lays.n149 Tryz.prog Tryz.DW:={
 mixed:=by kernel_rfl
 f149:=Tryz.func185.trans (congrArg some (by kernel_rfl))
 f222:=Tryz.func214.trans (congrArg some (by kernel_rfl))
 t3:=Tryz.underlying3
 a3:=Tryz.isAgg3
 z3:=Tryz.sizeOf3
 v3:=Tryz.zeroValue3
 t4:=Tryz.underlying4
 a4:=Tryz.isAgg4
 z4:=Tryz.sizeOf4
 v4:=Tryz.zeroValue4
 t5:=Tryz.underlying5
 a5:=Tryz.isAgg5
 z5:=Tryz.sizeOf5
 v5:=Tryz.zeroValue5
 t9:=Tryz.underlying9
 a9:=Tryz.isAgg9
 z9:=Tryz.sizeOf9
 v9:=Tryz.zeroValue9}
open Go.RowKit Go.Lib in
theorem Tryz.strings_LastIndexByte (s:ByteArray) (c:Int) (hs:s.size<4611686018427387904) (w:World):
 Calls Tryz.prog 185 #[.string s,.int .u8 c] w fun e w'=>e=.returned (.int .i64 (Lib.lastIndexByte s c))∧w'=w:=Any.strings_LastIndexByte Tryz.TZ s c hs w
def Tryz.GV:Go.Shelf.Ren:=⟨fun|99=>124|206=>163|n=>n,fun|9=>9|4=>4|3=>3|n=>n,fun|n=>n⟩
theorem Tryz.XM:Go.Proofs.Lays.n99 Tryz.prog Tryz.GV:={
 mixed:=by kernel_rfl
 f99:=Tryz.func124.trans (congrArg some (by kernel_rfl))
 f206:=Tryz.func163.trans (congrArg some (by kernel_rfl))
 t3:=Tryz.underlying3
 a3:=Tryz.isAgg3
 z3:=Tryz.sizeOf3
 v3:=Tryz.zeroValue3
 t4:=Tryz.underlying4
 a4:=Tryz.isAgg4
 z4:=Tryz.sizeOf4
 v4:=Tryz.zeroValue4
 t9:=Tryz.underlying9
 a9:=Tryz.isAgg9
 z9:=Tryz.sizeOf9
 v9:=Tryz.zeroValue9}
open Go.RowKit Go.Lib in
theorem Tryz.strings_HasPrefix (s p:ByteArray) (w:World):
 Calls Tryz.prog 124 #[.string s,.string p] w fun e w'=>e=.returned (.bool (Lib.hasPrefix s.data.toList p.data.toList))∧w'=w:=Any.strings_HasPrefix Tryz.XM s p w
def Tryz.DX:Go.Shelf.Ren:=⟨fun|101=>174|208=>204|206=>163|n=>n,fun|9=>9|4=>4|3=>3|n=>n,fun|n=>n⟩
theorem Tryz.T_:Go.Proofs.Lays.n101 Tryz.prog Tryz.DX:={
 mixed:=by kernel_rfl
 f101:=Tryz.func174.trans (congrArg some (by kernel_rfl))
 f206:=Tryz.func163.trans (congrArg some (by kernel_rfl))
 f208:=Tryz.func204.trans (congrArg some (by kernel_rfl))
 t3:=Tryz.underlying3
 a3:=Tryz.isAgg3
 z3:=Tryz.sizeOf3
 v3:=Tryz.zeroValue3
 t4:=Tryz.underlying4
 a4:=Tryz.isAgg4
 z4:=Tryz.sizeOf4
 v4:=Tryz.zeroValue4
 t9:=Tryz.underlying9
 a9:=Tryz.isAgg9
 z9:=Tryz.sizeOf9
 v9:=Tryz.zeroValue9}
open Go.RowKit Go.Lib in
theorem Tryz.strings_TrimPrefix (s p:ByteArray) (w:World):
 Calls Tryz.prog 174 #[.string s,.string p] w fun e w'=>e=.returned (.string ⟨(Lib.trimPrefix s.data.toList p.data.toList).toArray⟩)∧w'=w:=Any.strings_TrimPrefix Tryz.T_ s p w
def Tryz.vH:Go.Shelf.Ren:=⟨fun|105=>215|212=>243|99=>124|165=>242|166=>115|170=>244|169=>46|263=>263|264=>264|206=>163|240=>152|241=>262|276=>186|277=>275|n=>n,fun|9=>9|3=>3|4=>4|20=>20|0=>0|46=>202|109=>214|5=>5|72=>77|76=>140|51=>228|146=>229|53=>199|148=>232|70=>74|37=>75|75=>138|127=>109|164=>177|80=>81|n=>n,fun|n=>n⟩
theorem Tryz.Ua:Go.Proofs.Lays.n105 Tryz.prog Tryz.vH:={
 mixed:=by kernel_rfl
 f99:=Tryz.func124.trans (congrArg some (by kernel_rfl))
 f105:=Tryz.func215.trans (congrArg some (by kernel_rfl))
 f165:=Tryz.func242.trans (congrArg some (by kernel_rfl))
 f166:=Tryz.func115.trans (congrArg some (by kernel_rfl))
 f169:=Tryz.func46.trans (congrArg some (by kernel_rfl))
 f170:=Tryz.func244.trans (congrArg some (by kernel_rfl))
 f206:=Tryz.func163.trans (congrArg some (by kernel_rfl))
 f212:=Tryz.func243.trans (congrArg some (by kernel_rfl))
 f240:=Tryz.func152.trans (congrArg some (by kernel_rfl))
 f241:=Tryz.func262.trans (congrArg some (by kernel_rfl))
 f263:=Tryz.func263.trans (congrArg some (by kernel_rfl))
 f264:=Tryz.func264.trans (congrArg some (by kernel_rfl))
 f276:=Tryz.func186.trans (congrArg some (by kernel_rfl))
 f277:=Tryz.func275.trans (congrArg some (by kernel_rfl))
 t0:=Tryz.underlying0
 a0:=Tryz.isAgg0
 z0:=Tryz.sizeOf0
 v0:=Tryz.zeroValue0
 t3:=Tryz.underlying3
 a3:=Tryz.isAgg3
 z3:=Tryz.sizeOf3
 v3:=Tryz.zeroValue3
 t4:=Tryz.underlying4
 a4:=Tryz.isAgg4
 z4:=Tryz.sizeOf4
 v4:=Tryz.zeroValue4
 t5:=Tryz.underlying5
 a5:=Tryz.isAgg5
 z5:=Tryz.sizeOf5
 v5:=Tryz.zeroValue5
 t9:=Tryz.underlying9
 a9:=Tryz.isAgg9
 z9:=Tryz.sizeOf9
 v9:=Tryz.zeroValue9
 t20:=Tryz.underlying20
 a20:=Tryz.isAgg20
 z20:=Tryz.sizeOf20
 v20:=Tryz.zeroValue20
 t37:=Tryz.underlying75
 a37:=Tryz.isAgg75
 z37:=Tryz.sizeOf75
 v37:=Tryz.zeroValue75
 t46:=Tryz.underlying202
 a46:=Tryz.isAgg202
 z46:=Tryz.sizeOf202
 v46:=Tryz.zeroValue202
 t51:=Tryz.underlying228
 a51:=Tryz.isAgg228
 z51:=Tryz.sizeOf228
 v51:=Tryz.zeroValue228
 t53:=Tryz.underlying199
 a53:=Tryz.isAgg199
 z53:=Tryz.sizeOf199
 v53:=Tryz.zeroValue199
 t70:=Tryz.underlying74
 a70:=Tryz.isAgg74
 z70:=Tryz.sizeOf74
 v70:=Tryz.zeroValue74
 t72:=Tryz.underlying77
 a72:=Tryz.isAgg77
 z72:=Tryz.sizeOf77
 v72:=Tryz.zeroValue77
 t75:=Tryz.underlying138
 a75:=Tryz.isAgg138
 z75:=Tryz.sizeOf138
 v75:=Tryz.zeroValue138
 t76:=Tryz.underlying140
 a76:=Tryz.isAgg140
 z76:=Tryz.sizeOf140
 v76:=Tryz.zeroValue140
 t109:=Tryz.underlying214
 a109:=Tryz.isAgg214
 z109:=Tryz.sizeOf214
 v109:=Tryz.zeroValue214
 t127:=Tryz.underlying109
 a127:=Tryz.isAgg109
 z127:=Tryz.sizeOf109
 v127:=Tryz.zeroValue109
 t146:=Tryz.underlying229
 a146:=Tryz.isAgg229
 z146:=Tryz.sizeOf229
 v146:=Tryz.zeroValue229
 t148:=Tryz.underlying232
 a148:=Tryz.isAgg232
 z148:=Tryz.sizeOf232
 v148:=Tryz.zeroValue232
 t164:=Tryz.underlying177
 a164:=Tryz.isAgg177
 z164:=Tryz.sizeOf177
 v164:=Tryz.zeroValue177}
theorem Tryz.sX:Builder.Extra Tryz.prog Tryz.vH:={
 sizeBuilder:=by kernel_rfl
 liesBuilder:=by kernel_rfl
 t5:=Tryz.underlying5
 a5:=Tryz.isAgg5
 z5:=Tryz.sizeOf5
 v5:=Tryz.zeroValue5
 infoByte:=by kernel_rfl
 cellsByte:=by kernel_rfl
 sizeByte:=by kernel_rfl
 neB5:=by decide}
open Go.RowKit Go.Lib in
theorem Tryz.strings_Repeat (s:ByteArray) (c:Nat) (w:World) (hc:c≤9223372036854775807) (hlen:s.size*c≤140737488355328):
 Calls Tryz.prog 215 #[.string s,.int .i64 c] w fun e w'=>e=.returned (.string ⟨(Lib.repeatL s.data.toList c).toArray⟩)∧Below w.heap.size w w':=Any.strings_Repeat Tryz.Ua Tryz.sX s c w hc hlen
def Tryz.DY:Go.Shelf.Ren:=⟨fun|110=>141|109=>172|n=>n,fun|31=>32|9=>9|4=>4|3=>3|0=>0|n=>n,fun|n=>n⟩
theorem Tryz.Ub:Go.Proofs.Lays.n110 Tryz.prog Tryz.DY:={
 mixed:=by kernel_rfl
 f109:=Tryz.func172.trans (congrArg some (by kernel_rfl))
 f110:=Tryz.func141.trans (congrArg some (by kernel_rfl))
 t0:=Tryz.underlying0
 a0:=Tryz.isAgg0
 z0:=Tryz.sizeOf0
 v0:=Tryz.zeroValue0
 t3:=Tryz.underlying3
 a3:=Tryz.isAgg3
 z3:=Tryz.sizeOf3
 v3:=Tryz.zeroValue3
 t4:=Tryz.underlying4
 a4:=Tryz.isAgg4
 z4:=Tryz.sizeOf4
 v4:=Tryz.zeroValue4
 t9:=Tryz.underlying9
 a9:=Tryz.isAgg9
 z9:=Tryz.sizeOf9
 v9:=Tryz.zeroValue9
 t31:=Tryz.underlying32
 a31:=Tryz.isAgg32
 z31:=Tryz.sizeOf32
 v31:=Tryz.zeroValue32}
open Go.Lib in
theorem Tryz.slices_Contains_string (b off n c:Nat) (zs:List ByteArray) (x:ByteArray) (w:World) (hz:n≤zs.length) (hbig:n≤9223372036854775807) (hc:∀j,j<zs.length→w.cell? ⟨b,off+j,none⟩=some (.string (zs.getD j ByteArray.empty))):
 Calls Tryz.prog 141 #[.slice (some ⟨b,off,none⟩) n c,.string x] w fun e w'=>e=.returned (.bool (Lib.containsS (zs.take n) x))∧w'=w:=Any.slices_Contains_string Tryz.Ub b off n c zs x w hz hbig hc
end Go.Proofs
namespace Go.Proofs.YtddoehnkgcbboaaGreatDoor
open Go.RowKit
structure Gl (w:World):Prop where
 tab:Lib.TabIs Tryz.prog w "internal/strconv.uint64pow10" .u64 Lib.pow10Tab
 maxLen:∃m,w.cell? ⟨2,0,none⟩=some (.int .i64 m)
theorem OV:Tryz.prog.globalNamed "internal/strconv.uint64pow10"=some 3:=by kernel_rfl
theorem Gl.keep {w w':World} (h:Gl w) (hb:∀b,b<w.heap.size→(b=3∨b=2)→w'.heap[b]? =w.heap[b]?):Gl w':=by
 obtain ⟨m,hm⟩:=h.maxLen;have hz:=World.block_lt_of_cell? w _ hm;refine ⟨?_,m,(World.cell?_of_block (hb _ hz (.inr rfl))).trans hm⟩;have ht:=h.tab;unfold Lib.TabIs World.var? at ht⊢;rw [OV] at ht⊢;simp only [Option.bind_some] at ht⊢
 have hlt:3<w.heap.size:=by
  rcases Nat.lt_or_ge 3 w.heap.size with h'|h'
  ·exact h'
  ·simp [Array.getElem?_eq_none h'] at ht
 rw [hb _ hlt (.inl rfl)];exact ht
theorem Gl.below {w w':World} (h:Gl w) (hb:Below w.heap.size w w'):Gl w':=Gl.keep h fun b hz _=>hb.block b hz
theorem Gl.lt {w:World} (h:Gl w):3<w.heap.size∧2<w.heap.size:=by
 obtain ⟨m,hm⟩:=h.maxLen;refine ⟨?_,World.block_lt_of_cell? w _ hm⟩;have ht:=h.tab;unfold Lib.TabIs World.var? at ht;rw [OV] at ht
 rcases Nat.lt_or_ge 3 w.heap.size with h'|h'
 ·exact h'
 ·simp [Array.getElem?_eq_none h'] at ht
theorem Gl.low {w w':World} (h:Gl w) {B:Nat} (hB:3<B∧2<B) (hb:Below B w w'):Gl w':=
 h.keep fun b _ he=>hb.block b (by rcases he with rfl|rfl;exact hB.1;exact hB.2)
theorem aal {W:World} {x y:String×DataW Unit} {rest:List (String×DataW Unit)} (h:laidMet Tryz.prog (x::y::("internal/strconv.uint64pow10",Lib.tabData .u64 Lib.pow10Tab)::rest) W) (hS:W.ShapedOpen Tryz.prog):Gl W:=
 ⟨Lib.tabIs_of_head OV (by kernel_rfl) Tryz.underlying236 Tryz.underlying199 (by kernel_rfl) (by kernel_rfl) (laidMet.tail (laidMet.tail h)),
  cell_of_shapedOpen_int (t:=3) (zero:=#[.int .i64 0]) hS (by decide+kernel) (by kernel_rfl) rfl (by kernel_rfl) (by kernel_rfl) Tryz.underlying3⟩
end Go.Proofs.YtddoehnkgcbboaaGreatDoor
namespace Go.Proofs.YtddoehnkgcbboaaGreatDoor
open Go.RowKit Go.Shelf Go.Sort
theorem aam {a b:Bool} (h:a=b):Ending.returned (.bool b)=.returned (.bool a):=by rw [h]
theorem OW {a b:ByteArray} (h:a=b):Ending.returned (.string b)=.returned (.string a):=by rw [h]
theorem vI {w:World} (k:Nat) (os:Array Obj):Below w.heap.size w (grow (w.drewN k) os):=
 ⟨rfl,rfl,rfl,by simp [grow,World.drewN],fun j hj=>by simp [grow,World.drewN,Array.getElem?_append,hj]⟩
theorem fG (n:Nat):(∀c∈Lib.decDigits n,kq c=true)∧dv (Lib.decDigits n)=n∧1≤(Lib.decDigits n).length∧∀k,1≤k→n<10 ^ k→(Lib.decDigits n).length≤k:=by
 induction n using Nat.strongRecOn with
 |_ n ih=>
 by_cases hs:n<10
 ·have e:Lib.decDigits n=[UInt8.ofNat (48+n)]:=by rw [Lib.decDigits,dif_pos hs]
  have hc:(UInt8.ofNat (48+n)).toNat=48+n:=by rw [UInt8.toNat_ofNat',Nat.mod_eq_of_lt (by omega)]
  rw [e];refine ⟨fun c h=>?_,?_,by simp,fun k h1 h2=>by simpa using h1⟩
  ·obtain rfl:c=UInt8.ofNat (48+n):=by simpa using h
   unfold kq;rw [decide_eq_true_eq,hc];omega
  ·show 10*0+((UInt8.ofNat (48+n)).toNat-48)=n;rw [hc];omega
 ·have e:Lib.decDigits n=Lib.decDigits (n / 10)++[UInt8.ofNat (48+n % 10)]:=by rw [Lib.decDigits,dif_neg hs]
  have hc:(UInt8.ofNat (48+n % 10)).toNat=48+n % 10:=by rw [UInt8.toNat_ofNat',Nat.mod_eq_of_lt (by omega)]
  obtain ⟨i1,i2,i3,i4⟩:=ih (n / 10) (by omega);rw [e];refine ⟨fun c h=>?_,?_,by simp,fun k h1 h2=>?_⟩
  ·rcases List.mem_append.1 h with h|h
   ·exact i1 c h
   ·obtain rfl:c=UInt8.ofNat (48+n % 10):=by simpa using h
    unfold kq;rw [decide_eq_true_eq,hc];omega
  ·rw [JW,i2,hc];omega
  ·obtain ⟨k',rfl⟩:∃k',k=k'+1:=⟨k-1,by omega⟩
   rw [aw];show _+1≤_
   have h3:n / 10<10 ^ k':=by rw [Nat.pow_succ] at h2;omega
   have hk':1≤k':=by
    rcases Nat.eq_zero_or_pos k' with h|h
    ·subst h;simp at h2;omega
    ·exact h
   have:=i4 k' hk' h3;omega
theorem XN (l r:List UInt8) (h:∀c∈l,kq c=true) (hr:∀c,r.head? =some c→kq c=false):nd (l++r)=l.length:=by
 unfold nd
 induction l with
 |nil=>
  rcases r with _|⟨c,r⟩
  ·rfl
  ·have:=hr c rfl;simp [this]
 |cons a l ih=>
  have h1:=h a (by simp);have h2:=ih (fun c hc=>h c (by simp [hc]));rw [List.cons_append,List.takeWhile_cons,h1]
  simpa using h2
def nA (n:Int):ByteArray:=⟨(Lib.itoa n).toArray⟩
theorem sY {P:Program} (a b:ByteArray) (h:a.size+b.size≤1000) (w:World):(Op.stringOp .add a b).run P w=.ok (.string (a++b)) w:=run_string_add_sum w _ _ (by omega)
theorem OX (n:Int) (w:World) (h0:-999999999999999≤n) (h1:n≤999999999999999) (hg:Gl w):
 Calls Tryz.prog 180 #[.int .i64 n] w fun e w'=>e=.returned (.string (nA n))∧Below w.heap.size w w':=by
 refine (Tryz.strconv_Itoa n (by omega) (by omega) w hg.tab).mono ?_;rintro e w' ⟨rfl,k,os,rfl⟩;exact ⟨rfl,vI _ _⟩
end Go.Proofs.YtddoehnkgcbboaaGreatDoor
namespace Go.Proofs.YtddoehnkgcbboaaGreatDoor
open Go
def cf (l:List UInt8):ByteArray:=⟨l.toArray⟩
theorem gi (l:List UInt8):(cf l).data.toList=l:=rfl
def bZ (l:List UInt8):Bool×List UInt8:=if l.head? =some 45 then (true,l.tail) else if l.head? =some 43 then (false,l.tail) else (false,l)
def lV (r:List UInt8):Option (List UInt8×List UInt8):=if r.head? =some 46 then (if nd r.tail=0 then none else some (r.tail.take (nd r.tail),r.tail.drop (nd r.tail))) else some ([],r)
def sZ (r:List UInt8):Option (Bool×List UInt8×List UInt8):=
 if r.head? =some 101∨r.head? =some 69 then
  (if nd (bZ r.tail).2=0 then none else some ((bZ r.tail).1,(bZ r.tail).2.take (nd (bZ r.tail).2),(bZ r.tail).2.drop (nd (bZ r.tail).2)))
 else some (false,[],r)
def fh (l:List UInt8):Option (Bool×List UInt8×List UInt8×Bool×List UInt8):=
 if 64<l.length∨nd (bZ l).2=0 then none
 else (lV ((bZ l).2.drop (nd (bZ l).2))).bind fun f=>(sZ f.2).bind fun x=>
  if x.2.2=[] then some ((bZ l).1,(bZ l).2.take (nd (bZ l).2),f.1,x.1,x.2.1) else none
def lW (d:List UInt8):Nat:=(d.takeWhile (·==48)).length
def bh (d:List UInt8):List UInt8:=((d.dropWhile (·==48)).reverse.dropWhile (·==48)).reverse
def jQ (L:Nat) (ds:List UInt8):Nat:=ds.foldl (fun e c=>min L (10*e+(c.toNat-48))) 0
def mf (b:Bool) (n:Nat):Int:=if b then-(n:Int) else (n:Int)
def bF (neg:Bool) (T:List UInt8) (first:Int):ByteArray×Int:=
 if T=[] then (⟨#[48]⟩,0) else if 17<T.length∨first< -400∨400<first then (⟨#[]⟩,9)
 else (cf ((if neg then [45] else [])++(T.take 1++(if 1<T.length then 46::T.drop 1 else [])))++⟨#[101]⟩++nA first,0)
def Lr (L:Nat) (p:Bool×List UInt8×List UInt8×Bool×List UInt8):ByteArray×Int:=
 bF p.1 (bh (p.2.1++p.2.2.1)) ((p.2.1.length:Int)-1-lW (p.2.1++p.2.2.1)+mf p.2.2.2.1 (jQ L p.2.2.2.2))
def bG (L:Nat) (l:List UInt8):ByteArray×Int:=match fh l with
 |none=>(⟨#[]⟩,3)
 |some p=>Lr L p
def lL (l:List UInt8):Bool:=decide ((bG 100000 l).2=0∧(bG 100000 l).1.data.toList=l)
theorem qc (L:Nat) (ds:List UInt8):jQ L ds=min L (dv ds):=by
 have h:∀(ds:List UInt8) (a:Nat),ds.foldl (fun e c=>min L (10*e+(c.toNat-48))) (min L a)=min L (ds.foldl (fun e c=>10*e+(c.toNat-48)) a):=by
  intro ds
  induction ds with
  |nil=>intro a;rfl
  |cons c t ih=>
   intro a;rw [List.foldl_cons,List.foldl_cons,←ih]
   congr 1
   omega
 have h0:=h ds 0;rw [Nat.min_zero] at h0;exact h0
theorem DZ (d:List UInt8):lW d≤d.length:=by
 unfold lW
 induction d with
 |nil=>exact aa _
 |cons a t ih=>rw [List.takeWhile_cons];split<;>simp<;>omega
theorem AB (l:List UInt8):(bZ l).2.length≤l.length:=by
 unfold bZ;split
 ·simp
 ·split<;>simp
theorem Ls {r:List UInt8} {f:List UInt8×List UInt8} (h:lV r=some f):f.1.length≤r.length∧f.2.length≤r.length:=by
 unfold lV at h
 split at h
 ·split at h
  ·cases h
  ·cases h;simp;omega
 ·cases h;simp
theorem OY {r:List UInt8} {x:Bool×List UInt8×List UInt8} (h:sZ r=some x):x.2.1.length≤r.length:=by
 unfold sZ at h
 split at h
 ·split at h
  ·cases h
  ·cases h;have:=AB r.tail
   have h2:r.tail.length≤r.length:=by simp
   simp;omega
 ·cases h;simp
theorem uA {l:List UInt8} {p:Bool×List UInt8×List UInt8×Bool×List UInt8} (h:fh l=some p):l.length≤64∧p.2.1.length≤64∧p.2.2.1.length≤64∧p.2.2.2.2.length≤64:=by
 unfold fh at h
 split at h
 ·cases h
 ·rename_i hc
  have hl:l.length≤64:=by omega
  obtain ⟨f,hf,h⟩:=Option.bind_eq_some_iff.1 h;obtain ⟨x,hx,h⟩:=Option.bind_eq_some_iff.1 h
  split at h
  ·cases h;have h1:=AB l;have h2:=Ls hf;have h3:=OY hx
   have h4:((bZ l).2.drop (nd (bZ l).2)).length≤(bZ l).2.length:=by simp
   refine ⟨hl,?_,?_,?_⟩
   ·show ((bZ l).2.take _).length≤64;simp;omega
   ·show f.1.length≤64;omega
   ·show x.2.1.length≤64;omega
  ·cases h
theorem Lt (neg:Bool) (T:List UInt8) (a b:Int) (ha:a< -400∨400<a) (hb:b< -400∨400<b):bF neg T a=bF neg T b:=by
 unfold bF;by_cases h:T=[]
 ·rw [if_pos h,if_pos h]
 ·rw [if_neg h,if_neg h,if_pos (.inr ha),if_pos (.inr hb)]
theorem GX (l:List UInt8):bG 1048576 l=bG 100000 l:=by
 unfold bG
 cases h:fh l with
 |none=>rfl
 |some p=>
  obtain ⟨h1,h2,h3,h4⟩:=uA h;show Lr 1048576 p=Lr 100000 p;unfold Lr;rw [qc,qc];have hl:=DZ (p.2.1++p.2.2.1);rw [aw] at hl;by_cases hd:dv p.2.2.2.2≤100000
  ·rw [Nat.min_eq_right (by omega),Nat.min_eq_right hd]
  ·apply Lt
   ·unfold mf;split<;>omega
   ·unfold mf;split<;>omega
theorem uB {l r:List UInt8} (h:∀c∈l,kq c=true) (hr:∀c,r.head? =some c→kq c=false):nd (l++r)=l.length:=XN l r h hr
theorem D4 {c:UInt8} (h:kq c=true) (x:UInt8) (hx:kq x=false):c≠x:=fun e=>by rw [e,hx] at h;cases h
theorem rz {l:List UInt8} (h:∀c,l.head? =some c→kq c=true):bZ l=(false,l):=by
 unfold bZ;rw [if_neg (fun e=>D4 (h _ e) 45 (by decide) rfl),if_neg (fun e=>D4 (h _ e) 43 (by decide) rfl)]
theorem Lu (n:Int):bZ (Lib.itoa n)=(decide (n<0),Lib.decDigits n.natAbs):=by
 rcases Int.lt_or_le n 0 with h|h
 ·obtain ⟨k,rfl⟩:∃k:Nat,n=-(k:Int):=⟨n.natAbs,by omega⟩
  rw [Lib.itoa_neg k (by omega),decide_eq_true h];unfold bZ;rw [if_pos (show (45::Lib.decDigits k).head? =some 45 from rfl)];show (true,Lib.decDigits k)=(true,Lib.decDigits (-(k:Int)).natAbs);rw [Int.natAbs_neg];rfl
 ·obtain ⟨k,rfl⟩:∃k:Nat,n=(k:Int):=⟨n.natAbs,by omega⟩
  rw [Lib.itoa_nonneg,decide_eq_false (by omega)];rw [rz]
  ·rfl
  ·intro c hc;exact (fG k).1 c (List.mem_of_mem_head? hc)
theorem GY {T:List UInt8} (h1:T.head? ≠some 48) (h2:T.getLast? ≠some 48):bh T=T∧lW T=0:=by
 have e:T.dropWhile (·==48)=T∧T.takeWhile (·==48)=[]:=by
  cases T with
  |nil=>exact ⟨rfl,rfl⟩
  |cons a t=>
   have:(a==48)=false:=by
    cases hb:a==48 with
    |false=>rfl
    |true=>exact absurd (by rw [List.head?_cons,eq_of_beq hb]) h1
   simp [this]
 have e2:T.reverse.dropWhile (·==48)=T.reverse:=by
  cases hr:T.reverse with
  |nil=>rfl
  |cons a t=>
   have hg:T.getLast? =some a:=by rw [←List.head?_reverse,hr];rfl
   have:(a==48)=false:=by
    cases hb:a==48 with
    |false=>rfl
    |true=>exact absurd (by rw [hg,eq_of_beq hb]) h2
   simp [this]
 unfold bh lW;rw [e.1,e.2,e2,List.reverse_reverse];exact ⟨rfl,rfl⟩
theorem xJ (d:List UInt8):(bh d).head? ≠some 48∧(bh d).getLast? ≠some 48:=by
 have hd:∀l:List UInt8,(l.dropWhile (·==48)).head? ≠some 48:=by
  intro l
  induction l with
  |nil=>simp
  |cons a t ih=>
   rw [List.dropWhile_cons]
   split
   ·exact ih
   ·rename_i h;intro e;rw [List.head?_cons] at e;exact h (by rw [au e];rfl)
 constructor
 ·unfold bh;rw [List.head?_reverse]
  obtain ⟨m,hm⟩:∃m,d.dropWhile (·==48)=m:=⟨_,rfl⟩
  have h1:=hd d;rw [hm] at h1⊢;intro e;have ab9:m.reverse.dropWhile (·==48)<:+m.reverse:=List.dropWhile_suffix _;obtain ⟨p,hp⟩:=ab9
  have hne:m.reverse.dropWhile (·==48)≠[]:=fun h=>by rw [h] at e;cases e
  have:m.reverse.getLast? =some 48:=by
   rw [←hp,List.getLast?_append,e];rfl
  rw [List.getLast?_reverse] at this;exact h1 this
 ·unfold bh;rw [List.getLast?_reverse];exact hd _
theorem AE {d:List UInt8} {c:UInt8} (h:c∈bh d):c∈d:=by
 unfold bh at h;rw [List.mem_reverse] at h;have h1:=(List.dropWhile_suffix (p:=(·==(48:UInt8))) (l:=(d.dropWhile (·==48)).reverse)).subset h;rw [List.mem_reverse] at h1;exact (List.dropWhile_suffix (p:=(·==(48:UInt8))) (l:=d)).subset h1
theorem s8 (a b:ByteArray):(a++b).data.toList=a.data.toList++b.data.toList:=by simp
theorem D5 (k:Nat) (h:k<10 ^ 3):(Lib.decDigits k).length≤3:=(fG k).2.2.2 3 (by decide) h
theorem D6 (n:Int) (h1:-400≤n) (h2:n≤400):(Lib.itoa n).length≤4:=by
 rcases Int.lt_or_le n 0 with h|h
 ·obtain ⟨k,rfl⟩:∃k:Nat,n=-(k:Int):=⟨n.natAbs,by omega⟩
  rw [Lib.itoa_neg k (by omega)];have:=D5 k (by omega);simp;omega
 ·obtain ⟨k,rfl⟩:∃k:Nat,n=(k:Int):=⟨n.natAbs,by omega⟩
  rw [Lib.itoa_nonneg];have:=D5 k (by omega);omega
theorem Lv (neg:Bool) (t0:UInt8) (t:List UInt8) (first:Int) (hd:∀c∈t0::t,kq c=true) (hz:t.length≤16) (h1:-400≤first) (h2:first≤400):
 fh ((if neg then [45] else [])++(t0::(if 0<t.length then 46::t else []))++101::Lib.itoa first)=some (neg,[t0],t,decide (first<0),Lib.decDigits first.natAbs):=by
 have hil:=D6 first h1 h2
 have h0:kq t0=true:=hd t0 (bX ..)
 obtain ⟨q,hq⟩:∃q,(if 0<t.length then 46::t else [])=q:=⟨_,rfl⟩
 have hql:q.length≤17:=by rw [←hq];split<;>simp;omega
 obtain ⟨m,hm⟩:∃m,t0::(q++101::Lib.itoa first)=m:=⟨_,rfl⟩
 have hmh:∀c,m.head? =some c→kq c=true:=fun c hc=>by rw [←hm] at hc;cases hc;exact h0
 have hl:(if neg then [45] else [])++(t0::q)++101::Lib.itoa first=(if neg then [45] else [])++m:=by rw [←hm];simp
 have hs:bZ ((if neg then [45] else [])++m)=(neg,m):=by
  cases neg with
  |true=>
   show bZ (45::m)=(true,m);unfold bZ;rw [if_pos (show (45::m).head? =some 45 from rfl)];rfl
  |false=>exact rz hmh
 have OZ:∀c,(q++101::Lib.itoa first).head? =some c→kq c=false:=by
  intro c hc;rw [←hq] at hc
  split at hc
  ·cases hc;decide
  ·cases hc;decide
 have hn:nd m=1:=by rw [←hm];exact uB (l:=[t0]) (fun c hc=>by rw [List.mem_singleton.1 hc];exact h0) OZ
 have hlen:((if neg then [45] else [])++m).length≤64:=by
  rw [←hm]
  have:(if neg then [45] else []:List UInt8).length≤1:=by split<;>simp
  simp only [aw,aj];omega
 have hx:sZ (101::Lib.itoa first)=some (decide (first<0),Lib.decDigits first.natAbs,[]):=by
  have hall:nd (Lib.decDigits first.natAbs)=(Lib.decDigits first.natAbs).length:=by
   have:=uB (l:=Lib.decDigits first.natAbs) (r:=[]) (fG _).1 (fun c hc=>by cases hc);rwa [dH] at this
  have hpos:=(fG first.natAbs).2.2.1;unfold sZ;rw [if_pos (show (101::Lib.itoa first).head? =some 101∨(101::Lib.itoa first).head? =some 69 from .inl rfl)];show (if nd (bZ (Lib.itoa first)).2=0 then none else some ((bZ (Lib.itoa first)).1,(bZ (Lib.itoa first)).2.take (nd (bZ (Lib.itoa first)).2),(bZ (Lib.itoa first)).2.drop (nd (bZ (Lib.itoa first)).2)))=_;rw [Lu];simp only [hall,List.take_length,List.drop_length];rw [if_neg (by omega)]
 have hf:lV (q++101::Lib.itoa first)=some (t,101::Lib.itoa first):=by
  rw [←hq];by_cases ht:0<t.length
  ·rw [if_pos ht];have hnt:nd (t++101::Lib.itoa first)=t.length:=uB (fun c hc=>hd c (cL _ hc)) (fun c hc=>by cases hc;decide);unfold lV;rw [if_pos (show (46::t++101::Lib.itoa first).head? =some 46 from rfl)];show (if nd (t++101::Lib.itoa first)=0 then none else some ((t++101::Lib.itoa first).take (nd (t++101::Lib.itoa first)),(t++101::Lib.itoa first).drop (nd (t++101::Lib.itoa first))))=_;rw [hnt,if_neg (by omega),List.take_left,List.drop_left]
  ·rw [if_neg ht];have ht0:t=[]:=gH (by omega);subst ht0;rfl
 rw [hq,hl];unfold fh;rw [hs];show (if 64<((if neg then [45] else [])++m).length∨nd m=0 then none else (lV (m.drop (nd m))).bind fun f=>(sZ f.2).bind fun x=>if x.2.2=[] then some (neg,m.take (nd m),f.1,x.1,x.2.1) else none)=_;rw [if_neg (by omega),hn]
 have TS:m.drop 1=q++101::Lib.itoa first:=by rw [←hm];rfl
 have hm2:m.take 1=[t0]:=by rw [←hm];rfl
 rw [TS,hm2,hf];show (sZ (101::Lib.itoa first)).bind _=_;rw [hx];rfl
theorem O0 (n:Int) (h1:-400≤n) (h2:n≤400):mf (decide (n<0)) (jQ 100000 (Lib.decDigits n.natAbs))=n:=by
 rw [qc,(fG _).2.1,Nat.min_eq_right (by omega)];unfold mf;by_cases h:n<0
 ·rw [decide_eq_true h,if_pos rfl];omega
 ·rw [decide_eq_false h,if_neg Bool.false_ne_true];omega
theorem GZ (neg:Bool) (T:List UInt8) (first:Int) (hd:∀c∈T,kq c=true) (h1:T.head? ≠some 48) (h2:T.getLast? ≠some 48) (hok:(bF neg T first).2=0):
 bG 100000 (bF neg T first).1.data.toList=bF neg T first:=by
 by_cases hT:T=[]
 ·have e:bF neg T first=(⟨#[48]⟩,0):=by unfold bF;rw [if_pos hT]
  rw [e];show bG 100000 [48]=_;decide+kernel
 ·by_cases hr:17<T.length∨first< -400∨400<first
  ·have e:bF neg T first=(⟨#[]⟩,9):=by unfold bF;rw [if_neg hT,if_pos hr]
   rw [e] at hok;cases hok
  ·have e:bF neg T first=(cf ((if neg then [45] else [])++(T.take 1++(if 1<T.length then 46::T.drop 1 else [])))++⟨#[101]⟩++nA first,0):=by unfold bF;rw [if_neg hT,if_neg hr]
   obtain ⟨t0,t,rfl⟩:∃t0 t,T=t0::t:=by
    cases T with
    |nil=>exact absurd rfl hT
    |cons a t=>exact ⟨a,t,rfl⟩
   have hlist:(bF neg (t0::t) first).1.data.toList=(if neg then [45] else [])++(t0::(if 0<t.length then 46::t else []))++101::Lib.itoa first:=by
    rw [e];show (cf _++⟨#[101]⟩++nA first).data.toList=_;rw [s8,s8,gi]
    have ed:(nA first).data.toList=Lib.itoa first:=by unfold nA;simp
    rw [ed]
    have ec:(if 1<(t0::t).length then 46::(t0::t).drop 1 else ([]:List UInt8))=if 0<t.length then 46::t else []:=by
     simp only [aj,List.drop_succ_cons,List.drop_zero];by_cases h:0<t.length
     ·rw [if_pos h,if_pos (by omega)]
     ·rw [if_neg h,if_neg (by omega)]
    rw [ec];simp
   have hlen:(t0::t).length=t.length+1:=rfl
   have hs:=Lv neg t0 t first hd (by omega) (by omega) (by omega)
   obtain ⟨s1,s2⟩:=GY h1 h2;rw [hlist];unfold bG;rw [hs];show bF neg (bh ([t0]++t)) ((([t0]:List UInt8).length:Int)-1-lW ([t0]++t)+mf (decide (first<0)) (jQ 100000 (Lib.decDigits first.natAbs)))=_;have ha:([t0]++t)=t0::t:=rfl;rw [ha,s1,s2,O0 first (by omega) (by omega)]
   congr 1
   simp
theorem Lz {r:List UInt8} {f:List UInt8×List UInt8} (h:lV r=some f):∀c∈f.1,kq c=true:=by
 unfold lV at h
 split at h
 ·split at h
  ·cases h
  ·cases h;intro c hc;obtain ⟨j,hj,rfl⟩:=List.mem_iff_getElem.1 hc;rw [cr] at hj;rw [List.getElem_take];exact xI _ j (by omega) (by omega)
 ·cases h;intro c hc;cases hc
theorem mF {l:List UInt8} {p:Bool×List UInt8×List UInt8×Bool×List UInt8} (h:fh l=some p):∀c∈p.2.1++p.2.2.1,kq c=true:=by
 unfold fh at h
 split at h
 ·cases h
 ·obtain ⟨f,hf,h⟩:=Option.bind_eq_some_iff.1 h;obtain ⟨x,hx,h⟩:=Option.bind_eq_some_iff.1 h
  split at h
  ·cases h;intro c hc
   rcases List.mem_append.1 hc with hc|hc
   ·obtain ⟨j,hj,rfl⟩:=List.mem_iff_getElem.1 hc;rw [cr] at hj;rw [List.getElem_take];exact xI _ j (by omega) (by omega)
   ·exact Lz hf c hc
  ·cases h
theorem lX (l:List UInt8) (h:(bG 100000 l).2=0):lL (bG 100000 l).1.data.toList=true:=by
 cases hs:fh l with
 |none=>unfold bG at h;rw [hs] at h;cases h
 |some p=>
  have e:bG 100000 l=bF p.1 (bh (p.2.1++p.2.2.1)) ((p.2.1.length:Int)-1-lW (p.2.1++p.2.2.1)+mf p.2.2.2.1 (jQ 100000 p.2.2.2.2)):=by
   unfold bG;rw [hs];rfl
  rw [e] at h⊢;have h2:=GZ p.1 (bh (p.2.1++p.2.2.1)) _ (fun c hc=>mF hs c (AE hc)) (xJ _).1 (xJ _).2 h;unfold lL;rw [h2];exact decide_eq_true ⟨h,rfl⟩
theorem D7 (l:List UInt8):lL l=true↔bG 100000 l=(cf l,0):=by
 unfold lL;rw [decide_eq_true_eq];constructor
 ·rintro ⟨h1,h2⟩;refine Prod.ext ?_ h1;apply Go.WideShapes.bytes_inj;rw [h2];rfl
 ·intro h;rw [h];exact ⟨rfl,rfl⟩
end Go.Proofs.YtddoehnkgcbboaaGreatDoor
namespace Go.Proofs.YtddoehnkgcbboaaGreatDoor
open Go.RowKit Go.Shelf
def prB (c:UInt8):Bool:=decide (33≤c.toNat∧c.toNat≤126)
def aan (c:UInt8):Option Nat:=if 48≤c.toNat∧c.toNat≤57 then some (c.toNat-48) else if 97≤c.toNat∧c.toNat≤102 then some (c.toNat-87) else none
def step1:List UInt8→Option (UInt8×Nat)
 |[]=>none
 |c::r=>if c=92 then (match r with
  |[]=>none
  |d::r'=>if d=92 then some (92,2) else if d=120 then (match r' with
   |a::b::_=>match aan a,aan b with
    |some x,some y=>some (UInt8.ofNat (16*x+y),4)
    |_,_=>none
   |_=>none) else none)
  else if prB c then some (c,1) else none
theorem uC {l:List UInt8} {c:UInt8} {n:Nat} (h:step1 l=some (c,n)):1≤n∧n≤l.length:=by
 unfold step1 at h
 repeat' split at h
 all_goals (first|(cases h;done)|(simp only [Option.some.injEq,Prod.mk.injEq] at h;obtain ⟨rfl,rfl⟩:=h;simp [List.length]<;>omega))
def Ce:Nat→List UInt8→Option (List UInt8)
 |_,[]=>some []
 |0,_=>none
 |f+1,l=>match step1 l with
  |none=>none
  |some (c,n)=>(Ce f (l.drop n)).map (c::·)
def Uc (l:List UInt8):Option (List UInt8):=Ce l.length l
theorem LA:∀(f g:Nat) (l:List UInt8),l.length≤f→l.length≤g→Ce f l=Ce g l:=by
 intro f
 induction f with
 |zero=>
  intro g l hf hg;obtain rfl:l=[]:=gH (by omega)
  cases g<;>rfl
 |succ f ih=>
  intro g l hf hg
  cases l with
  |nil=>cases g<;>rfl
  |cons c l=>
   cases g with
   |zero=>simp at hg
   |succ g=>
    unfold Ce
    cases h:step1 (c::l) with
    |none=>rfl
    |some p=>
     obtain ⟨b,n⟩:=p;have:=uC h;simp only;rw [ih g ((c::l).drop n) (by simp at hf⊢;omega) (by simp at hg⊢;omega)]
theorem Ud:Uc []=some []:=rfl
theorem O2 {l:List UInt8} {c:UInt8} {n:Nat} (h:step1 l=some (c,n)):Uc l=(Uc (l.drop n)).map (c::·):=by
 obtain ⟨h1,h2⟩:=uC h
 cases l with
 |nil=>cases h
 |cons b l=>
  show Ce (l.length+1) (b::l)=_;unfold Ce;rw [h];simp only;rw [LA l.length ((b::l).drop n).length _ (by simp;omega) (aa _)];rfl
theorem O3 {l:List UInt8} (h:step1 l=none) (hne:l≠[]):Uc l=none:=by
 cases l with
 |nil=>exact absurd rfl hne
 |cons b l=>
  show Ce (l.length+1) (b::l)=_;unfold Ce;rw [h]
end Go.Proofs.YtddoehnkgcbboaaGreatDoor
namespace Go
open Go.RowKit Go.Lib
theorem xK {P:Program} {W:World} {base:Nat} {e:TypeId} {v:Value} {n:Nat} {bs:List UInt8} {src dst:TypeId} (hs:P.underlying src=some (.slice e)) (he:P.underlying e=some (.int .u8)) (hd:P.underlying dst=some .string)
 (hown:W.ownsRow base e 1 v n (bs.map fun b=>Value.int .u8 b.toNat)):(convert src dst v).run P W=.ok (.string ⟨bs.toArray⟩) W:=by
 have hl:bs.length=n:=by have:=hown.1;simpa using this
 rcases Nat.eq_zero_or_pos n with h0|h0
 ·subst h0;obtain rfl:bs=[]:=gH hl
  rcases hown.2 with ⟨rfl,_⟩|⟨g,cap,cur,rfl,_⟩
  ·rw [run_convert_bytes_string W src dst e none 0 0 hs he hd];simp [Conv.bytesToString,Sem.run_pure];rfl
  ·exact run_convert_bytes_back W src dst e ⟨g,0,none⟩ cap [] hs he hd (fun j hj=>absurd hj (by simp))
 ·obtain ⟨g,cap,rfl,_⟩:=World.ownsRow.form hown h0;rw [←hl];refine run_convert_bytes_back W src dst e ⟨g,0,none⟩ cap bs hs he hd (fun j hj=>?_);rw [show (⟨g,0,none⟩:Addr).add j=⟨g,j,none⟩ by unfold Addr.add;split<;>simp_all,World.ownsRow.cellAt hown j (by omega),List.getElem?_map,List.getElem?_eq_getElem hj];rfl
end Go
namespace Go.Proofs.YtddoehnkgcbboaaGreatDoor
open Go.RowKit Go.Shelf
def S_ (l:List UInt8):List Value:=l.map fun b=>Value.int .u8 b.toNat
theorem xL (a b:List UInt8):S_ (a++b)=S_ a++S_ b:=List.map_append
end Go.Proofs.YtddoehnkgcbboaaGreatDoor
namespace Go.Proofs.YtddoehnkgcbboaaGreatDoor
open Go.RowKit Go.Shelf Go.Sort
def kQ (s:ByteArray) (w:World) (e:Ending) (w':World):Prop:=
 match step1 s.data.toList with
 |some (c,n)=>e=.returned (.tuple #[.int .u8 c.toNat,.string (s.extract n s.size),.bool true])∧Below w.heap.size w w'
 |none=>∃(c:Int) (r:ByteArray),e=.returned (.tuple #[.int .u8 c,.string r,.bool false])∧Below w.heap.size w w'
theorem kQ.some {s:ByteArray} {w:World} {e:Ending} {w':World} {c:UInt8} {n:Nat} (h:step1 s.data.toList=some (c,n)) (he:e=.returned (.tuple #[.int .u8 c.toNat,.string (s.extract n s.size),.bool true])) (hb:Below w.heap.size w w'):kQ s w e w':=by
 unfold kQ;rw [h];exact ⟨he,hb⟩
theorem kQ.none {s:ByteArray} {w:World} {e:Ending} {w':World} {c:Int} {r:ByteArray} (h:step1 s.data.toList=none) (he:e=.returned (.tuple #[.int .u8 c,.string r,.bool false])) (hb:Below w.heap.size w w'):kQ s w e w':=by
 unfold kQ;rw [h];exact ⟨c,r,he,hb⟩
end Go.Proofs.YtddoehnkgcbboaaGreatDoor
namespace Go.Proofs.YtddoehnkgcbboaaGreatDoor
open Go.RowKit Go.Shelf
def Cf (l:List UInt8):ByteArray×Int:=match Uc l with
 |none=>(⟨#[]⟩,3)
 |some t=>if 64<t.length then (⟨#[]⟩,9) else (⟨t.toArray⟩,0)
theorem LB (s:ByteArray) (i:Nat):(s.extract i s.size).data.toList=s.data.toList.drop i:=by
 rw [Lib.extract_data,List.take_of_length_le];rw [aA,Lib.size_eq];omega
theorem LC (s:ByteArray) (i:Nat) (h:i<s.size) (hs:step1 (s.data.toList.drop i)=none):Uc (s.data.toList.drop i)=none:=
 O3 hs (by intro e;have:=congrArg List.length e;rw [aA,←Lib.size_eq] at this;simp at this;omega)
def Read (s:ByteArray) (i:Nat) (O:List UInt8):Prop:=i≤s.size∧O.length≤i∧Uc s.data.toList=(Uc (s.data.toList.drop i)).map (O++·)
theorem Read.zero (s:ByteArray):Read s 0 []:=⟨bj _,aa _,by simp⟩
theorem Read.step {s:ByteArray} {i:Nat} {O:List UInt8} (h:Read s i O) {c:UInt8} {n:Nat} (hs:step1 (s.data.toList.drop i)=some (c,n)):Read s (i+n) (O++[c]):=by
 obtain ⟨h1,h2,h3⟩:=h;have h4:=uC hs;rw [aA,←Lib.size_eq] at h4;refine ⟨by omega,by simp;omega,?_⟩;rw [h3,O2 hs,dB]
 cases Uc (List.drop (i+n) s.data.toList)<;>simp
theorem Read.stop {s:ByteArray} {i:Nat} {O:List UInt8} (h:Read s i O) (hi:i<s.size) (hs:step1 (s.data.toList.drop i)=none):Cf s.data.toList=(⟨#[]⟩,3):=by
 unfold Cf;rw [h.2.2,LC s i hi hs];rfl
theorem Read.done {s:ByteArray} {O:List UInt8} (h:Read s s.size O):Cf s.data.toList=if 64<O.length then (⟨#[]⟩,9) else (⟨O.toArray⟩,0):=by
 unfold Cf;rw [h.2.2,dc (by rw [Lib.size_eq];exact aa _),Ud];simp only [Option.map_some,dH]
theorem u8_in (a:Int) (h:0≤a∧a≤255):IntKind.u8.wrap a=a:=by
 simp only [IntKind.wrap,IntKind.signed,IntKind.bits];simp;omega
end Go.Proofs.YtddoehnkgcbboaaGreatDoor
namespace Go.Proofs.YtddoehnkgcbboaaGreatDoor
open Go.RowKit Go.Shelf Go.Sort
theorem u8i (a b:UInt8):((a.toNat:Int)=(b.toNat:Int))↔a=b:=⟨fun h=>UInt8.toNat_inj.1 (by omega),fun h=>by rw [h]⟩
theorem J0 (c:UInt8) (k:Nat) (w:World) (hk:k≤1000000):
 Calls Tryz.prog 215 #[.string ⟨#[c]⟩,.int .i64 (k:Nat)] w fun e w'=>e=.returned (.string (cf (List.replicate k c)))∧Below w.heap.size w w':=by
 have h:=Tryz.strings_Repeat ⟨#[c]⟩ k w (by omega) (by show 1*k≤_;omega)
 have e:Lib.repeatL (⟨#[c]⟩:ByteArray).data.toList k=List.replicate k c:=by
  have:=Lib.repeatL_replicate c 1 k;rw [Nat.mul_one] at this;exact this
 rw [e] at h;exact h
theorem O4 (w:World) (c:UInt8):(convert 75 9 (.slice (some ⟨w.heap.size,0,none⟩) 1 1)).run Tryz.prog (w.alloc (.cells #[.int .u8 (c.toNat:Int)] 5))=.ok (.string ⟨#[c]⟩) (w.alloc (.cells #[.int .u8 (c.toNat:Int)] 5)):=by
 refine run_convert_bytes_back _ _ _ 5 ⟨w.heap.size,0,none⟩ 1 [c] (by kernel_rfl) (by kernel_rfl) (by kernel_rfl) ?_;intro j hj
 obtain rfl:j=0:=by simpa using hj
 exact (Row.new w 5 #[.int .u8 (c.toNat:Int)]).cell 0
end Go.Proofs.YtddoehnkgcbboaaGreatDoor
namespace Go.Proofs.YtddoehnkgcbboaaGreatDoor
open Go.RowKit Go.Shelf
theorem aao (l:List UInt8):Lib.trimLeftB l 48=l.dropWhile (·==48):=by
 rfl
theorem zW (l:List UInt8) (w:World):Calls Tryz.prog 161 #[.string (ag l)] w fun e w'=>e=.returned (.string (ag (bO l)))∧Below w.heap.size w w':=by
 have T:=Tryz.strings_TrimLeft_one (ag l) 48 (by decide);rw [dD,aao] at T;unfold bO;generalize l.dropWhile (·==48)=m at*
 cases m with
 |nil=>
  rw [if_pos rfl];go_enter Tryz.func161,Tryz.ntmps161;go_wp2_with fail;refine (T _).mono ?_;rintro e w1 ⟨rfl,rfl⟩;go_wp2;go_ret;exact ⟨rfl,af _ _⟩
 |cons c t=>
  rw [if_neg (by simp)];go_enter Tryz.func161,Tryz.ntmps161;go_wp2_with fail;refine (T _).mono ?_;rintro e w1 ⟨rfl,rfl⟩;go_wp2;go_ret;exact ⟨rfl,af _ _⟩
theorem mg (c:UInt8) (k:Int) (w:World) (hk:k≤1000000):
 Calls Tryz.prog 191 #[.int .u8 (c.toNat:Int),.int .i64 k] w fun e w'=>e=.returned (.string (ag (List.replicate k.toNat c)))∧Below w.heap.size w w':=by
 have hcv:=fun W:World=>O4 W c;by_cases h0:0≤k
 ·obtain ⟨n,rfl⟩:∃n:Nat,k=n:=⟨k.toNat,by omega⟩
  rw [show ((n:Int)).toNat=n from rfl];have R:=hide (fun W:World=>J0 c n W (by omega))
  have hmx:max (n:Int) 0=(n:Int):=by omega
  clear hk h0;go_enter Tryz.func191,Tryz.ntmps191;go_wp2_with fail;refine (R.o _).mono ?_;rintro e w1 ⟨rfl,hb⟩;have Hb:=hide (((af w.heap.size w).alloc (aa _) (.cells #[.int .u8 (c.toNat:Int)] 5)).trans (hb.mono (by rw [aF];omega)));clear hb;go_wp2;go_ret;exact ⟨rfl,Hb.o⟩
 ·have R:=hide (fun W:World=>J0 c 0 W (by omega));rw [show k.toNat=0 by omega]
  have hmx:max k 0=0:=by omega
  clear hk h0;go_enter Tryz.func191,Tryz.ntmps191;go_wp2_with fail;refine (R.o _).mono ?_;rintro e w1 ⟨rfl,hb⟩;have Hb:=hide (((af w.heap.size w).alloc (aa _) (.cells #[.int .u8 (c.toNat:Int)] 5)).trans (hb.mono (by rw [aF];omega)));clear hb;go_wp2;go_ret;exact ⟨rfl,Hb.o⟩
end Go.Proofs.YtddoehnkgcbboaaGreatDoor
