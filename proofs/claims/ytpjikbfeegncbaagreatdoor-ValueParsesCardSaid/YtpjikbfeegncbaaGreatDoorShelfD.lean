/-
  DERIVED: THE SHELF's CONTRACTS AT THIS DUMP, IN PLAIN WORDS (tools/lay-plain.mjs out of 'YtpjikbfeegncbaaGreatDoorShelfD.lean', which tools/lay-shelf.mjs wrote): THE SAME DECLARATIONS UNDER THE SAME NAMES: 'import', 'namespace', 'open', 'def', 'theorem' AND NOTHING ELSE: no command of the shelf's: FOR A HAND-IN. Each laying: the table of numbers ('.._ren') and one theorem, a field a fact of the dump's own or the kernel's comparison; each contract: ONE APPLICATION.
-/
import Derived.Shelf.Strings.Builder1
import Derived.Shelf.Strings.Builder2
import Derived.Shelf.Strings.OnBuilder
import Derived.Shelf.Strings.Trim
import Derived.Shelf.Small.Utf8
import Derived.Shelf.Small.Strs
import Derived.Shelf.Strings.BuilderF
import Derived.Shelf.Strings.BuilderK
import Derived.Shelf.Strings.BuilderRune
import Derived.Shelf.Strings.Builder2Cap
import Derived.Shelf.Strconv.Itoa0
import Derived.Shelf.Strconv.Itoa1
import Derived.Shelf.LaysM
import Derived.Shelf.Strconv.Itoa2
import Derived.Shelf.Strconv.Itoa3
import Derived.Shelf.Strings.Search1
import Derived.Shelf.GgClosure.StringsIndexFunc
import Derived.Ground.GgwProg
import Derived.Shelf.GgClosure.StringsIndexFuncTop
import Derived.Shelf.Strings.Prefix
import Derived.Shelf.Unicode.Latin
import Derived.Shelf.Unicode.Decode
import Derived.Shelf.Strings.Runes
import Derived.Shelf.Strings.AsciiSet
import Derived.Shelf.Bits.Mul64
import Derived.Shelf.Strings.Repeat
import Derived.Shelf.Unicode.DecodeSlow
import Derived.Shelf.Unicode.DecodeAny
import Derived.Shelf.Unicode.DecodeLast
import Derived.Shelf.Unicode.CaseLookup
import Derived.Shelf.Unicode.CaseConvert
import Derived.Shelf.Unicode.CaseTo
import Derived.Shelf.Unicode.CaseLaid
import Derived.Shelf.Strings.MapAny
import Derived.Shelf.Strings.CaseAny
import Derived.Shelf.Strings.FuncGrows
import Derived.Shelf.Strings.BuilderCap
import Derived.Shelf.Strings.MapGrows
import Derived.Test.YtpjikbfeegncbaaGreatDoorProg
namespace Go.Proofs
open Go.Shelf
def Tryz.lays158_ren : Go.Shelf.Ren := ⟨fun | 158 => 26 | 165 => 50 | 166 => 51 | 167 => 52 | 169 => 53 | 230 => 54 | 203 => 55 | 240 => 72 | 241 => 73 | 197 => 69 | 118 => 74 | 168 => 75 | 270 => 76 | 262 => 77 | 276 => 102 | 277 => 103 | 260 => 99 | 242 => 104 | 313 => 105 | 278 => 121 | 274 => 122 | 275 => 123 | n => n, fun | 9 => 9 | 4 => 4 | 3 => 3 | 5 => 5 | 72 => 62 | 0 => 0 | 76 => 66 | 75 => 65 | 107 => 71 | 70 => 59 | 20 => 20 | 37 => 60 | 127 => 86 | 21 => 21 | 105 => 83 | 164 => 95 | 162 => 101 | 203 => 99 | 119 => 111 | 46 => 110 | 139 => 114 | 138 => 113 | 51 => 118 | 160 => 119 | 208 => 130 | 206 => 128 | 80 => 69 | n => n, fun | 13 => 0 | 3 => 1 | 4 => 2 | n => n⟩
theorem Tryz.lays158 : Go.Proofs.Lays.n158 Tryz.prog Tryz.lays158_ren := {
  mixed := by kernel_rfl
  f118 := Tryz.func74.trans (congrArg some (by kernel_rfl))
  f158 := Tryz.func26.trans (congrArg some (by kernel_rfl))
  f165 := Tryz.func50.trans (congrArg some (by kernel_rfl))
  f166 := Tryz.func51.trans (congrArg some (by kernel_rfl))
  f167 := Tryz.func52.trans (congrArg some (by kernel_rfl))
  f168 := Tryz.func75.trans (congrArg some (by kernel_rfl))
  f169 := Tryz.func53.trans (congrArg some (by kernel_rfl))
  f197 := Tryz.func69.trans (congrArg some (by kernel_rfl))
  f203 := Tryz.func55.trans (congrArg some (by kernel_rfl))
  f230 := Tryz.func54.trans (congrArg some (by kernel_rfl))
  f240 := Tryz.func72.trans (congrArg some (by kernel_rfl))
  f241 := Tryz.func73.trans (congrArg some (by kernel_rfl))
  f242 := Tryz.func104.trans (congrArg some (by kernel_rfl))
  f260 := Tryz.func99.trans (congrArg some (by kernel_rfl))
  f262 := Tryz.func77.trans (congrArg some (by kernel_rfl))
  f270 := Tryz.func76.trans (congrArg some (by kernel_rfl))
  f274 := Tryz.func122.trans (congrArg some (by kernel_rfl))
  f275 := Tryz.func123.trans (congrArg some (by kernel_rfl))
  f276 := Tryz.func102.trans (congrArg some (by kernel_rfl))
  f277 := Tryz.func103.trans (congrArg some (by kernel_rfl))
  f278 := Tryz.func121.trans (congrArg some (by kernel_rfl))
  f313 := Tryz.func105.trans (congrArg some (by kernel_rfl))
  t0 := Tryz.underlying0
  a0 := Tryz.isAgg0
  z0 := Tryz.sizeOf0
  v0 := Tryz.zeroValue0
  t3 := Tryz.underlying3
  a3 := Tryz.isAgg3
  z3 := Tryz.sizeOf3
  v3 := Tryz.zeroValue3
  t4 := Tryz.underlying4
  a4 := Tryz.isAgg4
  z4 := Tryz.sizeOf4
  v4 := Tryz.zeroValue4
  t5 := Tryz.underlying5
  a5 := Tryz.isAgg5
  z5 := Tryz.sizeOf5
  v5 := Tryz.zeroValue5
  t9 := Tryz.underlying9
  a9 := Tryz.isAgg9
  z9 := Tryz.sizeOf9
  v9 := Tryz.zeroValue9
  t20 := Tryz.underlying20
  a20 := Tryz.isAgg20
  z20 := Tryz.sizeOf20
  v20 := Tryz.zeroValue20
  t21 := Tryz.underlying21
  a21 := Tryz.isAgg21
  z21 := Tryz.sizeOf21
  v21 := Tryz.zeroValue21
  t37 := Tryz.underlying60
  a37 := Tryz.isAgg60
  z37 := Tryz.sizeOf60
  v37 := Tryz.zeroValue60
  t46 := Tryz.underlying110
  a46 := Tryz.isAgg110
  z46 := Tryz.sizeOf110
  v46 := Tryz.zeroValue110
  t51 := Tryz.underlying118
  a51 := Tryz.isAgg118
  z51 := Tryz.sizeOf118
  v51 := Tryz.zeroValue118
  t70 := Tryz.underlying59
  a70 := Tryz.isAgg59
  z70 := Tryz.sizeOf59
  v70 := Tryz.zeroValue59
  t72 := Tryz.underlying62
  a72 := Tryz.isAgg62
  z72 := Tryz.sizeOf62
  v72 := Tryz.zeroValue62
  t75 := Tryz.underlying65
  a75 := Tryz.isAgg65
  z75 := Tryz.sizeOf65
  v75 := Tryz.zeroValue65
  t76 := Tryz.underlying66
  a76 := Tryz.isAgg66
  z76 := Tryz.sizeOf66
  v76 := Tryz.zeroValue66
  t105 := Tryz.underlying83
  a105 := Tryz.isAgg83
  z105 := Tryz.sizeOf83
  v105 := Tryz.zeroValue83
  t107 := Tryz.underlying71
  a107 := Tryz.isAgg71
  z107 := Tryz.sizeOf71
  v107 := Tryz.zeroValue71
  t119 := Tryz.underlying111
  a119 := Tryz.isAgg111
  z119 := Tryz.sizeOf111
  t127 := Tryz.underlying86
  a127 := Tryz.isAgg86
  z127 := Tryz.sizeOf86
  v127 := Tryz.zeroValue86
  t138 := Tryz.underlying113
  a138 := Tryz.isAgg113
  z138 := Tryz.sizeOf113
  v138 := Tryz.zeroValue113
  t139 := Tryz.underlying114
  a139 := Tryz.isAgg114
  z139 := Tryz.sizeOf114
  v139 := Tryz.zeroValue114
  t160 := Tryz.underlying119
  a160 := Tryz.isAgg119
  z160 := Tryz.sizeOf119
  v160 := Tryz.zeroValue119
  t162 := Tryz.underlying101
  a162 := Tryz.isAgg101
  z162 := Tryz.sizeOf101
  v162 := Tryz.zeroValue101
  t164 := Tryz.underlying95
  a164 := Tryz.isAgg95
  z164 := Tryz.sizeOf95
  v164 := Tryz.zeroValue95
  t203 := Tryz.underlying99
  a203 := Tryz.isAgg99
  z203 := Tryz.sizeOf99
  v203 := Tryz.zeroValue99
  t206 := Tryz.underlying128
  a206 := Tryz.isAgg128
  z206 := Tryz.sizeOf128
  v206 := Tryz.zeroValue128
  t208 := Tryz.underlying130
  a208 := Tryz.isAgg130
  z208 := Tryz.sizeOf130
  v208 := Tryz.zeroValue130
  g3 := by kernel_rfl
  g4 := by kernel_rfl
  g13 := by kernel_rfl }
def Tryz.lays159_ren : Go.Shelf.Ren := ⟨fun | 159 => 28 | 165 => 50 | 166 => 51 | 167 => 52 | 169 => 53 | 230 => 54 | 204 => 57 | 240 => 72 | 241 => 73 | 197 => 69 | 118 => 74 | 168 => 75 | 270 => 76 | 262 => 77 | 276 => 102 | 277 => 103 | 260 => 99 | 242 => 104 | 313 => 105 | 278 => 121 | 274 => 122 | 275 => 123 | n => n, fun | 9 => 9 | 4 => 4 | 3 => 3 | 5 => 5 | 72 => 62 | 0 => 0 | 76 => 66 | 75 => 65 | 107 => 71 | 70 => 59 | 20 => 20 | 37 => 60 | 127 => 86 | 21 => 21 | 105 => 83 | 164 => 95 | 162 => 101 | 203 => 99 | 119 => 111 | 46 => 110 | 139 => 114 | 138 => 113 | 51 => 118 | 160 => 119 | 208 => 130 | 206 => 128 | 80 => 69 | n => n, fun | 13 => 0 | 3 => 1 | 4 => 2 | n => n⟩
theorem Tryz.lays159 : Go.Proofs.Lays.n159 Tryz.prog Tryz.lays159_ren := {
  mixed := by kernel_rfl
  f118 := Tryz.func74.trans (congrArg some (by kernel_rfl))
  f159 := Tryz.func28.trans (congrArg some (by kernel_rfl))
  f165 := Tryz.func50.trans (congrArg some (by kernel_rfl))
  f166 := Tryz.func51.trans (congrArg some (by kernel_rfl))
  f167 := Tryz.func52.trans (congrArg some (by kernel_rfl))
  f168 := Tryz.func75.trans (congrArg some (by kernel_rfl))
  f169 := Tryz.func53.trans (congrArg some (by kernel_rfl))
  f197 := Tryz.func69.trans (congrArg some (by kernel_rfl))
  f204 := Tryz.func57.trans (congrArg some (by kernel_rfl))
  f230 := Tryz.func54.trans (congrArg some (by kernel_rfl))
  f240 := Tryz.func72.trans (congrArg some (by kernel_rfl))
  f241 := Tryz.func73.trans (congrArg some (by kernel_rfl))
  f242 := Tryz.func104.trans (congrArg some (by kernel_rfl))
  f260 := Tryz.func99.trans (congrArg some (by kernel_rfl))
  f262 := Tryz.func77.trans (congrArg some (by kernel_rfl))
  f270 := Tryz.func76.trans (congrArg some (by kernel_rfl))
  f274 := Tryz.func122.trans (congrArg some (by kernel_rfl))
  f275 := Tryz.func123.trans (congrArg some (by kernel_rfl))
  f276 := Tryz.func102.trans (congrArg some (by kernel_rfl))
  f277 := Tryz.func103.trans (congrArg some (by kernel_rfl))
  f278 := Tryz.func121.trans (congrArg some (by kernel_rfl))
  f313 := Tryz.func105.trans (congrArg some (by kernel_rfl))
  t0 := Tryz.underlying0
  a0 := Tryz.isAgg0
  z0 := Tryz.sizeOf0
  v0 := Tryz.zeroValue0
  t3 := Tryz.underlying3
  a3 := Tryz.isAgg3
  z3 := Tryz.sizeOf3
  v3 := Tryz.zeroValue3
  t4 := Tryz.underlying4
  a4 := Tryz.isAgg4
  z4 := Tryz.sizeOf4
  v4 := Tryz.zeroValue4
  t5 := Tryz.underlying5
  a5 := Tryz.isAgg5
  z5 := Tryz.sizeOf5
  v5 := Tryz.zeroValue5
  t9 := Tryz.underlying9
  a9 := Tryz.isAgg9
  z9 := Tryz.sizeOf9
  v9 := Tryz.zeroValue9
  t20 := Tryz.underlying20
  a20 := Tryz.isAgg20
  z20 := Tryz.sizeOf20
  v20 := Tryz.zeroValue20
  t21 := Tryz.underlying21
  a21 := Tryz.isAgg21
  z21 := Tryz.sizeOf21
  v21 := Tryz.zeroValue21
  t37 := Tryz.underlying60
  a37 := Tryz.isAgg60
  z37 := Tryz.sizeOf60
  v37 := Tryz.zeroValue60
  t46 := Tryz.underlying110
  a46 := Tryz.isAgg110
  z46 := Tryz.sizeOf110
  v46 := Tryz.zeroValue110
  t51 := Tryz.underlying118
  a51 := Tryz.isAgg118
  z51 := Tryz.sizeOf118
  v51 := Tryz.zeroValue118
  t70 := Tryz.underlying59
  a70 := Tryz.isAgg59
  z70 := Tryz.sizeOf59
  v70 := Tryz.zeroValue59
  t72 := Tryz.underlying62
  a72 := Tryz.isAgg62
  z72 := Tryz.sizeOf62
  v72 := Tryz.zeroValue62
  t75 := Tryz.underlying65
  a75 := Tryz.isAgg65
  z75 := Tryz.sizeOf65
  v75 := Tryz.zeroValue65
  t76 := Tryz.underlying66
  a76 := Tryz.isAgg66
  z76 := Tryz.sizeOf66
  v76 := Tryz.zeroValue66
  t105 := Tryz.underlying83
  a105 := Tryz.isAgg83
  z105 := Tryz.sizeOf83
  v105 := Tryz.zeroValue83
  t107 := Tryz.underlying71
  a107 := Tryz.isAgg71
  z107 := Tryz.sizeOf71
  v107 := Tryz.zeroValue71
  t119 := Tryz.underlying111
  a119 := Tryz.isAgg111
  z119 := Tryz.sizeOf111
  t127 := Tryz.underlying86
  a127 := Tryz.isAgg86
  z127 := Tryz.sizeOf86
  v127 := Tryz.zeroValue86
  t138 := Tryz.underlying113
  a138 := Tryz.isAgg113
  z138 := Tryz.sizeOf113
  v138 := Tryz.zeroValue113
  t139 := Tryz.underlying114
  a139 := Tryz.isAgg114
  z139 := Tryz.sizeOf114
  v139 := Tryz.zeroValue114
  t160 := Tryz.underlying119
  a160 := Tryz.isAgg119
  z160 := Tryz.sizeOf119
  v160 := Tryz.zeroValue119
  t162 := Tryz.underlying101
  a162 := Tryz.isAgg101
  z162 := Tryz.sizeOf101
  v162 := Tryz.zeroValue101
  t164 := Tryz.underlying95
  a164 := Tryz.isAgg95
  z164 := Tryz.sizeOf95
  v164 := Tryz.zeroValue95
  t203 := Tryz.underlying99
  a203 := Tryz.isAgg99
  z203 := Tryz.sizeOf99
  v203 := Tryz.zeroValue99
  t206 := Tryz.underlying128
  a206 := Tryz.isAgg128
  z206 := Tryz.sizeOf128
  v206 := Tryz.zeroValue128
  t208 := Tryz.underlying130
  a208 := Tryz.isAgg130
  z208 := Tryz.sizeOf130
  v208 := Tryz.zeroValue130
  g3 := by kernel_rfl
  g4 := by kernel_rfl
  g13 := by kernel_rfl }
def Tryz.lays160_ren : Go.Shelf.Ren := ⟨fun | 160 => 25 | 232 => 44 | 231 => 43 | 227 => 45 | 234 => 47 | 233 => 46 | 236 => 49 | 235 => 48 | 228 => 68 | 271 => 71 | 151 => 70 | 197 => 69 | 120 => 101 | 152 => 100 | 260 => 99 | 137 => 117 | 119 => 118 | 224 => 119 | 225 => 120 | 217 => 135 | 266 => 142 | n => n, fun | 9 => 9 | 4 => 4 | 3 => 3 | 5 => 5 | 117 => 55 | 116 => 54 | 0 => 0 | 124 => 58 | 21 => 21 | 105 => 83 | 46 => 110 | 119 => 111 | 139 => 114 | 138 => 113 | n => n, fun | 3 => 1 | 4 => 2 | n => n⟩
theorem Tryz.lays160 : Go.Proofs.Lays.n160 Tryz.prog Tryz.lays160_ren := {
  mixed := by kernel_rfl
  f119 := Tryz.func118.trans (congrArg some (by kernel_rfl))
  f120 := Tryz.func101.trans (congrArg some (by kernel_rfl))
  f137 := Tryz.func117.trans (congrArg some (by kernel_rfl))
  f151 := Tryz.func70.trans (congrArg some (by kernel_rfl))
  f152 := Tryz.func100.trans (congrArg some (by kernel_rfl))
  f160 := Tryz.func25.trans (congrArg some (by kernel_rfl))
  f197 := Tryz.func69.trans (congrArg some (by kernel_rfl))
  f217 := Tryz.func135.trans (congrArg some (by kernel_rfl))
  f224 := Tryz.func119.trans (congrArg some (by kernel_rfl))
  f225 := Tryz.func120.trans (congrArg some (by kernel_rfl))
  f227 := Tryz.func45.trans (congrArg some (by kernel_rfl))
  f228 := Tryz.func68.trans (congrArg some (by kernel_rfl))
  f231 := Tryz.func43.trans (congrArg some (by kernel_rfl))
  f232 := Tryz.func44.trans (congrArg some (by kernel_rfl))
  f233 := Tryz.func46.trans (congrArg some (by kernel_rfl))
  f234 := Tryz.func47.trans (congrArg some (by kernel_rfl))
  f235 := Tryz.func48.trans (congrArg some (by kernel_rfl))
  f236 := Tryz.func49.trans (congrArg some (by kernel_rfl))
  f260 := Tryz.func99.trans (congrArg some (by kernel_rfl))
  f266 := Tryz.func142.trans (congrArg some (by kernel_rfl))
  f271 := Tryz.func71.trans (congrArg some (by kernel_rfl))
  t0 := Tryz.underlying0
  a0 := Tryz.isAgg0
  z0 := Tryz.sizeOf0
  v0 := Tryz.zeroValue0
  t3 := Tryz.underlying3
  a3 := Tryz.isAgg3
  z3 := Tryz.sizeOf3
  v3 := Tryz.zeroValue3
  t4 := Tryz.underlying4
  a4 := Tryz.isAgg4
  z4 := Tryz.sizeOf4
  v4 := Tryz.zeroValue4
  t5 := Tryz.underlying5
  a5 := Tryz.isAgg5
  z5 := Tryz.sizeOf5
  v5 := Tryz.zeroValue5
  t9 := Tryz.underlying9
  a9 := Tryz.isAgg9
  z9 := Tryz.sizeOf9
  v9 := Tryz.zeroValue9
  t21 := Tryz.underlying21
  a21 := Tryz.isAgg21
  z21 := Tryz.sizeOf21
  v21 := Tryz.zeroValue21
  t46 := Tryz.underlying110
  a46 := Tryz.isAgg110
  z46 := Tryz.sizeOf110
  v46 := Tryz.zeroValue110
  t105 := Tryz.underlying83
  a105 := Tryz.isAgg83
  z105 := Tryz.sizeOf83
  v105 := Tryz.zeroValue83
  t116 := Tryz.underlying54
  a116 := Tryz.isAgg54
  z116 := Tryz.sizeOf54
  t117 := Tryz.underlying55
  a117 := Tryz.isAgg55
  z117 := Tryz.sizeOf55
  v117 := Tryz.zeroValue55
  t119 := Tryz.underlying111
  a119 := Tryz.isAgg111
  z119 := Tryz.sizeOf111
  t124 := Tryz.underlying58
  a124 := Tryz.isAgg58
  z124 := Tryz.sizeOf58
  v124 := Tryz.zeroValue58
  t138 := Tryz.underlying113
  a138 := Tryz.isAgg113
  z138 := Tryz.sizeOf113
  v138 := Tryz.zeroValue113
  t139 := Tryz.underlying114
  a139 := Tryz.isAgg114
  z139 := Tryz.sizeOf114
  v139 := Tryz.zeroValue114
  g3 := by kernel_rfl
  g4 := by kernel_rfl }
open Go.RowKit in
/-- strings.Trim: "Trim returns a slice of the string s with all leading and trailing Unicode code points contained in cutset removed.": AT A cutset OF ONE ASCII BYTE. THE WORLD BEHIND IT: as it was, or (where s is not empty) with ONE DRAW MORE off the tape: the statement 'return trimLeftByte(trimRightByte(s, c), c)' draws its order of evaluation. (LAID: no walk: one application.) -/
theorem Tryz.strings_Trim_one (s : ByteArray) (c : UInt8) (hc : c.toNat < 128) (w : World) (hs : s.size ≤ 9223372036854775807) :
    Calls Tryz.prog 25 #[.string s, .string ⟨#[c]⟩] w fun e w' => e = .returned (.string ⟨(Lib.trimB s.data.toList c).toArray⟩) ∧ (w' = w ∨ w' = w.drew) := Any.strings_Trim_one Tryz.lays160 s c hc w hs
def Tryz.lays119_ren : Go.Shelf.Ren := ⟨fun | 119 => 118 | n => n, fun | 21 => 21 | 4 => 4 | n => n, fun | n => n⟩
theorem Tryz.lays119 : Go.Proofs.Lays.n119 Tryz.prog Tryz.lays119_ren := {
  mixed := by kernel_rfl
  f119 := Tryz.func118.trans (congrArg some (by kernel_rfl))
  t4 := Tryz.underlying4
  a4 := Tryz.isAgg4
  z4 := Tryz.sizeOf4
  v4 := Tryz.zeroValue4
  t21 := Tryz.underlying21
  a21 := Tryz.isAgg21
  z21 := Tryz.sizeOf21
  v21 := Tryz.zeroValue21 }
/-- utf8.ValidRune: "ValidRune reports whether r can be legally encoded as UTF-8. Code points that are out of range or a surrogate half are illegal.": IT RETURNS 'Lib.validRune r'; the world is as it was. (LAID: no walk: one application.) -/
theorem Tryz.utf8_ValidRune (r : Int) (w : World) :
    Calls Tryz.prog 118 #[.int .i32 r] w fun e w' => e = .returned (.bool (Lib.validRune r)) ∧ w' = w := Any.utf8_ValidRune Tryz.lays119 r w
def Tryz.lays137_ren : Go.Shelf.Ren := ⟨fun | 137 => 117 | 217 => 135 | 266 => 142 | n => n, fun | 9 => 9 | 5 => 5 | 3 => 3 | n => n, fun | n => n⟩
theorem Tryz.lays137 : Go.Proofs.Lays.n137 Tryz.prog Tryz.lays137_ren := {
  mixed := by kernel_rfl
  f137 := Tryz.func117.trans (congrArg some (by kernel_rfl))
  f217 := Tryz.func135.trans (congrArg some (by kernel_rfl))
  f266 := Tryz.func142.trans (congrArg some (by kernel_rfl))
  t3 := Tryz.underlying3
  a3 := Tryz.isAgg3
  z3 := Tryz.sizeOf3
  v3 := Tryz.zeroValue3
  t5 := Tryz.underlying5
  a5 := Tryz.isAgg5
  z5 := Tryz.sizeOf5
  v5 := Tryz.zeroValue5
  t9 := Tryz.underlying9
  a9 := Tryz.isAgg9
  z9 := Tryz.sizeOf9
  v9 := Tryz.zeroValue9 }
open Go.RowKit in
/-- strings.IndexByte: "IndexByte returns the index of the first instance of c in s, or -1 if c is not present in s.": IT RETURNS 'Lib.indexByte s c'; the world is as it was. (LAID: no walk: one application.) -/
theorem Tryz.strings_IndexByte (s : ByteArray) (c : Int) (w : World) :
    Calls Tryz.prog 117 #[.string s, .int .u8 c] w fun e w' => e = .returned (.int .i64 (Lib.indexByte s.data.toList c.toNat.toUInt8)) ∧ w' = w := Any.strings_IndexByte Tryz.lays137 s c w
def Tryz.laysM171_ren : Go.Shelf.Ren := ⟨fun | 171 => 133 | 243 => 141 | 246 => 150 | 283 => 155 | 284 => 156 | 285 => 157 | 286 => 158 | 129 => 161 | 317 => 160 | 318 => 162 | 319 => 163 | 320 => 164 | 337 => 165 | 338 => 166 | n => n, fun | 3 => 3 | 9 => 9 | 2 => 2 | 4 => 4 | 171 => 145 | 0 => 0 | 53 => 133 | 37 => 60 | 5 => 5 | 173 => 148 | 212 => 151 | 51 => 118 | 20 => 20 | 213 => 152 | 46 => 110 | 232 => 156 | 233 => 157 | n => n, fun | 17 => 4 | 18 => 5 | 19 => 6 | n => n⟩
theorem Tryz.laysM171 : Go.Proofs.LaysM.n171 Tryz.prog Tryz.laysM171_ren := {
  mixed := by kernel_rfl
  f129 := Tryz.func161.trans (congrArg some (by kernel_rfl))
  f171 := Tryz.func133.trans (congrArg some (by kernel_rfl))
  f243 := Tryz.func141.trans (congrArg some (by kernel_rfl))
  f246 := Tryz.func150.trans (congrArg some (by kernel_rfl))
  f283 := Tryz.func155.trans (congrArg some (by kernel_rfl))
  f284 := Tryz.func156.trans (congrArg some (by kernel_rfl))
  f285 := Tryz.func157.trans (congrArg some (by kernel_rfl))
  f286 := Tryz.func158.trans (congrArg some (by kernel_rfl))
  f317 := Tryz.func160.trans (congrArg some (by kernel_rfl))
  f318 := Tryz.func162.trans (congrArg some (by kernel_rfl))
  f319 := Tryz.func163.trans (congrArg some (by kernel_rfl))
  f320 := Tryz.func164.trans (congrArg some (by kernel_rfl))
  f337 := Tryz.func165.trans (congrArg some (by kernel_rfl))
  f338 := Tryz.func166.trans (congrArg some (by kernel_rfl))
  t0 := Tryz.underlying0
  a0 := Tryz.isAgg0
  z0 := Tryz.sizeOf0
  v0 := Tryz.zeroValue0
  t2 := Tryz.underlying2
  a2 := Tryz.isAgg2
  z2 := Tryz.sizeOf2
  v2 := Tryz.zeroValue2
  t3 := Tryz.underlying3
  a3 := Tryz.isAgg3
  z3 := Tryz.sizeOf3
  v3 := Tryz.zeroValue3
  t4 := Tryz.underlying4
  a4 := Tryz.isAgg4
  z4 := Tryz.sizeOf4
  v4 := Tryz.zeroValue4
  t5 := Tryz.underlying5
  a5 := Tryz.isAgg5
  z5 := Tryz.sizeOf5
  v5 := Tryz.zeroValue5
  t9 := Tryz.underlying9
  a9 := Tryz.isAgg9
  z9 := Tryz.sizeOf9
  v9 := Tryz.zeroValue9
  t20 := Tryz.underlying20
  a20 := Tryz.isAgg20
  z20 := Tryz.sizeOf20
  v20 := Tryz.zeroValue20
  t37 := Tryz.underlying60
  a37 := Tryz.isAgg60
  z37 := Tryz.sizeOf60
  v37 := Tryz.zeroValue60
  t46 := Tryz.underlying110
  a46 := Tryz.isAgg110
  z46 := Tryz.sizeOf110
  v46 := Tryz.zeroValue110
  t51 := Tryz.underlying118
  a51 := Tryz.isAgg118
  z51 := Tryz.sizeOf118
  v51 := Tryz.zeroValue118
  t53 := Tryz.underlying133
  a53 := Tryz.isAgg133
  z53 := Tryz.sizeOf133
  v53 := Tryz.zeroValue133
  t171 := Tryz.underlying145
  a171 := Tryz.isAgg145
  z171 := Tryz.sizeOf145
  v171 := Tryz.zeroValue145
  t173 := Tryz.underlying148
  a173 := Tryz.isAgg148
  z173 := Tryz.sizeOf148
  v173 := Tryz.zeroValue148
  t212 := Tryz.underlying151
  a212 := Tryz.isAgg151
  z212 := Tryz.sizeOf151
  v212 := Tryz.zeroValue151
  t213 := Tryz.underlying152
  a213 := Tryz.isAgg152
  z213 := Tryz.sizeOf152
  t232 := Tryz.underlying156
  a232 := Tryz.isAgg156
  z232 := Tryz.sizeOf156
  v232 := Tryz.zeroValue156
  t233 := Tryz.underlying157
  a233 := Tryz.isAgg157
  z233 := Tryz.sizeOf157
  v233 := Tryz.zeroValue157
  g17 := by kernel_rfl
  g18 := by kernel_rfl
  g19 := by kernel_rfl
  i0 := by kernel_rfl
  i2 := by kernel_rfl
  i3 := by kernel_rfl
  i4 := by kernel_rfl
  i5 := by kernel_rfl
  i9 := by kernel_rfl
  i20 := by kernel_rfl
  i37 := by kernel_rfl
  i46 := by kernel_rfl
  i51 := by kernel_rfl
  i53 := by kernel_rfl
  i171 := by kernel_rfl
  i173 := by kernel_rfl
  i212 := by kernel_rfl
  i232 := by kernel_rfl
  i233 := by kernel_rfl
  m17 := by kernel_rfl
  m18 := by kernel_rfl
  m19 := by kernel_rfl }
open Go.RowKit Go.Sort Go.Lib in
/-- strconv.Itoa: "Itoa is equivalent to FormatInt(int64(i), 10).": i's DECIMAL NUMERAL ('Lib.itoa': a '-' where i is negative, then the digits), FOR EVERY int. The world behind the call: the world before it, new blocks behind the heap (the library's 'var a [24]byte'), draws. (LAID: no walk: one application.) -/
theorem Tryz.strconv_Itoa (n : Int) (h0 : -9223372036854775808 ≤ n) (h1 : n ≤ 9223372036854775807) (w : World) (htab : Lib.TabIs Tryz.prog w "internal/strconv.uint64pow10" .u64 Lib.pow10Tab) :
    Calls Tryz.prog 133 #[.int .i64 n] w fun e w' => e = .returned (.string ⟨(Lib.itoa n).toArray⟩) ∧ ∃ k os, w' = grow (w.drewN k) os := Any.strconv_Itoa Tryz.laysM171 n h0 h1 w htab
def Tryz.lays99_ren : Go.Shelf.Ren := ⟨fun | 99 => 127 | 206 => 138 | n => n, fun | 9 => 9 | 4 => 4 | 3 => 3 | n => n, fun | n => n⟩
theorem Tryz.lays99 : Go.Proofs.Lays.n99 Tryz.prog Tryz.lays99_ren := {
  mixed := by kernel_rfl
  f99 := Tryz.func127.trans (congrArg some (by kernel_rfl))
  f206 := Tryz.func138.trans (congrArg some (by kernel_rfl))
  t3 := Tryz.underlying3
  a3 := Tryz.isAgg3
  z3 := Tryz.sizeOf3
  v3 := Tryz.zeroValue3
  t4 := Tryz.underlying4
  a4 := Tryz.isAgg4
  z4 := Tryz.sizeOf4
  v4 := Tryz.zeroValue4
  t9 := Tryz.underlying9
  a9 := Tryz.isAgg9
  z9 := Tryz.sizeOf9
  v9 := Tryz.zeroValue9 }
open Go.RowKit Go.Lib in
/-- strings.HasPrefix: "HasPrefix reports whether the string s begins with prefix.": IT RETURNS 'Lib.hasPrefix s prefix'; the world is as it was. (LAID: no walk: one application.) -/
theorem Tryz.strings_HasPrefix (s p : ByteArray) (w : World) :
    Calls Tryz.prog 127 #[.string s, .string p] w fun e w' => e = .returned (.bool (Lib.hasPrefix s.data.toList p.data.toList)) ∧ w' = w := Any.strings_HasPrefix Tryz.lays99 s p w
def Tryz.lays100_ren : Go.Shelf.Ren := ⟨fun | 100 => 27 | 207 => 56 | n => n, fun | 9 => 9 | 4 => 4 | 3 => 3 | n => n, fun | n => n⟩
theorem Tryz.lays100 : Go.Proofs.Lays.n100 Tryz.prog Tryz.lays100_ren := {
  mixed := by kernel_rfl
  f100 := Tryz.func27.trans (congrArg some (by kernel_rfl))
  f207 := Tryz.func56.trans (congrArg some (by kernel_rfl))
  t3 := Tryz.underlying3
  a3 := Tryz.isAgg3
  z3 := Tryz.sizeOf3
  v3 := Tryz.zeroValue3
  t4 := Tryz.underlying4
  a4 := Tryz.isAgg4
  z4 := Tryz.sizeOf4
  v4 := Tryz.zeroValue4
  t9 := Tryz.underlying9
  a9 := Tryz.isAgg9
  z9 := Tryz.sizeOf9
  v9 := Tryz.zeroValue9 }
open Go.RowKit Go.Lib in
/-- strings.HasSuffix: "HasSuffix reports whether the string s ends with suffix.": IT RETURNS 'Lib.hasSuffix s suffix'; the world is as it was. ('hs': no Go string is longer: a caller has it of every string that it was handed.) (LAID: no walk: one application.) -/
theorem Tryz.strings_HasSuffix (s p : ByteArray) (w : World) (hs : s.size ≤ 9223372036854775807) :
    Calls Tryz.prog 27 #[.string s, .string p] w fun e w' => e = .returned (.bool (Lib.hasSuffix s.data.toList p.data.toList)) ∧ w' = w := Any.strings_HasSuffix Tryz.lays100 s p w hs
def Tryz.lays151_ren : Go.Shelf.Ren := ⟨fun | 151 => 70 | 152 => 100 | 137 => 117 | 119 => 118 | 224 => 119 | 225 => 120 | 217 => 135 | 266 => 142 | n => n, fun | 9 => 9 | 21 => 21 | 4 => 4 | 3 => 3 | 5 => 5 | 0 => 0 | 46 => 110 | n => n, fun | n => n⟩
theorem Tryz.lays151 : Go.Proofs.Lays.n151 Tryz.prog Tryz.lays151_ren := {
  mixed := by kernel_rfl
  f119 := Tryz.func118.trans (congrArg some (by kernel_rfl))
  f137 := Tryz.func117.trans (congrArg some (by kernel_rfl))
  f151 := Tryz.func70.trans (congrArg some (by kernel_rfl))
  f152 := Tryz.func100.trans (congrArg some (by kernel_rfl))
  f217 := Tryz.func135.trans (congrArg some (by kernel_rfl))
  f224 := Tryz.func119.trans (congrArg some (by kernel_rfl))
  f225 := Tryz.func120.trans (congrArg some (by kernel_rfl))
  f266 := Tryz.func142.trans (congrArg some (by kernel_rfl))
  t0 := Tryz.underlying0
  a0 := Tryz.isAgg0
  z0 := Tryz.sizeOf0
  v0 := Tryz.zeroValue0
  t3 := Tryz.underlying3
  a3 := Tryz.isAgg3
  z3 := Tryz.sizeOf3
  v3 := Tryz.zeroValue3
  t4 := Tryz.underlying4
  a4 := Tryz.isAgg4
  z4 := Tryz.sizeOf4
  v4 := Tryz.zeroValue4
  t5 := Tryz.underlying5
  a5 := Tryz.isAgg5
  z5 := Tryz.sizeOf5
  v5 := Tryz.zeroValue5
  t9 := Tryz.underlying9
  a9 := Tryz.isAgg9
  z9 := Tryz.sizeOf9
  v9 := Tryz.zeroValue9
  t21 := Tryz.underlying21
  a21 := Tryz.isAgg21
  z21 := Tryz.sizeOf21
  v21 := Tryz.zeroValue21
  t46 := Tryz.underlying110
  a46 := Tryz.isAgg110
  z46 := Tryz.sizeOf110
  v46 := Tryz.zeroValue110 }
open Go.RowKit Go.Lib in
theorem Tryz.strings_ContainsRune_ascii (s : ByteArray) (r : Int) (w : World) (h0 : 0 ≤ r) (h1 : r < 128) :
    Calls Tryz.prog 70 #[.string s, .int .i32 r] w fun e w' => e = .returned (.bool (decide (0 ≤ Lib.indexByte s.data.toList r.toNat.toUInt8))) ∧ w' = w := Any.strings_ContainsRune_ascii Tryz.lays151 s r w h0 h1
def Tryz.lays105_ren : Go.Shelf.Ren := ⟨fun | 105 => 108 | 212 => 126 | 99 => 127 | 165 => 50 | 166 => 51 | 170 => 128 | 169 => 53 | 263 => 136 | 264 => 137 | 206 => 138 | 240 => 72 | 241 => 73 | 276 => 102 | 277 => 103 | n => n, fun | 9 => 9 | 3 => 3 | 4 => 4 | 20 => 20 | 0 => 0 | 46 => 110 | 109 => 124 | 5 => 5 | 72 => 62 | 76 => 66 | 51 => 118 | 146 => 131 | 53 => 133 | 148 => 134 | 70 => 59 | 37 => 60 | 75 => 65 | 127 => 86 | 164 => 95 | 80 => 69 | n => n, fun | n => n⟩
theorem Tryz.lays105 : Go.Proofs.Lays.n105 Tryz.prog Tryz.lays105_ren := {
  mixed := by kernel_rfl
  f99 := Tryz.func127.trans (congrArg some (by kernel_rfl))
  f105 := Tryz.func108.trans (congrArg some (by kernel_rfl))
  f165 := Tryz.func50.trans (congrArg some (by kernel_rfl))
  f166 := Tryz.func51.trans (congrArg some (by kernel_rfl))
  f169 := Tryz.func53.trans (congrArg some (by kernel_rfl))
  f170 := Tryz.func128.trans (congrArg some (by kernel_rfl))
  f206 := Tryz.func138.trans (congrArg some (by kernel_rfl))
  f212 := Tryz.func126.trans (congrArg some (by kernel_rfl))
  f240 := Tryz.func72.trans (congrArg some (by kernel_rfl))
  f241 := Tryz.func73.trans (congrArg some (by kernel_rfl))
  f263 := Tryz.func136.trans (congrArg some (by kernel_rfl))
  f264 := Tryz.func137.trans (congrArg some (by kernel_rfl))
  f276 := Tryz.func102.trans (congrArg some (by kernel_rfl))
  f277 := Tryz.func103.trans (congrArg some (by kernel_rfl))
  t0 := Tryz.underlying0
  a0 := Tryz.isAgg0
  z0 := Tryz.sizeOf0
  v0 := Tryz.zeroValue0
  t3 := Tryz.underlying3
  a3 := Tryz.isAgg3
  z3 := Tryz.sizeOf3
  v3 := Tryz.zeroValue3
  t4 := Tryz.underlying4
  a4 := Tryz.isAgg4
  z4 := Tryz.sizeOf4
  v4 := Tryz.zeroValue4
  t5 := Tryz.underlying5
  a5 := Tryz.isAgg5
  z5 := Tryz.sizeOf5
  v5 := Tryz.zeroValue5
  t9 := Tryz.underlying9
  a9 := Tryz.isAgg9
  z9 := Tryz.sizeOf9
  v9 := Tryz.zeroValue9
  t20 := Tryz.underlying20
  a20 := Tryz.isAgg20
  z20 := Tryz.sizeOf20
  v20 := Tryz.zeroValue20
  t37 := Tryz.underlying60
  a37 := Tryz.isAgg60
  z37 := Tryz.sizeOf60
  v37 := Tryz.zeroValue60
  t46 := Tryz.underlying110
  a46 := Tryz.isAgg110
  z46 := Tryz.sizeOf110
  v46 := Tryz.zeroValue110
  t51 := Tryz.underlying118
  a51 := Tryz.isAgg118
  z51 := Tryz.sizeOf118
  v51 := Tryz.zeroValue118
  t53 := Tryz.underlying133
  a53 := Tryz.isAgg133
  z53 := Tryz.sizeOf133
  v53 := Tryz.zeroValue133
  t70 := Tryz.underlying59
  a70 := Tryz.isAgg59
  z70 := Tryz.sizeOf59
  v70 := Tryz.zeroValue59
  t72 := Tryz.underlying62
  a72 := Tryz.isAgg62
  z72 := Tryz.sizeOf62
  v72 := Tryz.zeroValue62
  t75 := Tryz.underlying65
  a75 := Tryz.isAgg65
  z75 := Tryz.sizeOf65
  v75 := Tryz.zeroValue65
  t76 := Tryz.underlying66
  a76 := Tryz.isAgg66
  z76 := Tryz.sizeOf66
  v76 := Tryz.zeroValue66
  t109 := Tryz.underlying124
  a109 := Tryz.isAgg124
  z109 := Tryz.sizeOf124
  v109 := Tryz.zeroValue124
  t127 := Tryz.underlying86
  a127 := Tryz.isAgg86
  z127 := Tryz.sizeOf86
  v127 := Tryz.zeroValue86
  t146 := Tryz.underlying131
  a146 := Tryz.isAgg131
  z146 := Tryz.sizeOf131
  v146 := Tryz.zeroValue131
  t148 := Tryz.underlying134
  a148 := Tryz.isAgg134
  z148 := Tryz.sizeOf134
  v148 := Tryz.zeroValue134
  t164 := Tryz.underlying95
  a164 := Tryz.isAgg95
  z164 := Tryz.sizeOf95
  v164 := Tryz.zeroValue95 }
theorem Tryz.Builder_Extra_105 : Builder.Extra Tryz.prog Tryz.lays105_ren := {
  sizeBuilder := by kernel_rfl
  liesBuilder := by kernel_rfl
  t5 := Tryz.underlying5
  a5 := Tryz.isAgg5
  z5 := Tryz.sizeOf5
  v5 := Tryz.zeroValue5
  infoByte := by kernel_rfl
  cellsByte := by kernel_rfl
  sizeByte := by kernel_rfl
  neB5 := by decide }
open Go.RowKit Go.Lib in
/-- **strings.Repeat: count ≥ 0, the result within one allocation: count copies of s.** (LAID: no walk: one application.) -/
theorem Tryz.strings_Repeat (s : ByteArray) (c : Nat) (w : World) (hc : c ≤ 9223372036854775807) (hlen : s.size * c ≤ 140737488355328) :
    Calls Tryz.prog 108 #[.string s, .int .i64 c] w fun e w' => e = .returned (.string ⟨(Lib.repeatL s.data.toList c).toArray⟩) ∧ Below w.heap.size w w' := Any.strings_Repeat Tryz.lays105 Tryz.Builder_Extra_105 s c w hc hlen
end Go.Proofs
