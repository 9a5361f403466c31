/-
  DERIVED: THE SHELF's CONTRACTS AT THIS DUMP, IN PLAIN WORDS (tools/lay-plain.mjs out of 'YtpjikbfeegncbaaGreatDoorShelfE.lean', which tools/lay-shelf.mjs wrote): THE SAME DECLARATIONS UNDER THE SAME NAMES: 'import', 'namespace', 'open', 'def', 'theorem' AND NOTHING ELSE: no command of the shelf's: FOR A HAND-IN. Each laying: the table of numbers ('.._ren') and one theorem, a field a fact of the dump's own or the kernel's comparison; each contract: ONE APPLICATION.
-/
import Derived.Shelf.Strings.Builder1
import Derived.Shelf.Strings.Builder2
import Derived.Shelf.Strings.OnBuilder
import Derived.Shelf.Strings.Trim
import Derived.Shelf.Small.Utf8
import Derived.Shelf.Small.Strs
import Derived.Shelf.Small.Wraps
import Derived.Shelf.Strings.BuilderF
import Derived.Shelf.Strings.BuilderK
import Derived.Shelf.Strings.BuilderRune
import Derived.Shelf.Utf8.AppendRune
import Derived.Shelf.Strings.Builder2Cap
import Derived.Shelf.Strconv.Itoa0
import Derived.Shelf.Strconv.Itoa1
import Derived.Shelf.LaysM
import Derived.Shelf.Strconv.Itoa2
import Derived.Shelf.Strconv.Itoa3
import Derived.Shelf.Strings.Search1
import Derived.Shelf.GgClosure.StringsIndexFunc
import Derived.Ground.GgwProg
import Derived.Shelf.GgClosure.StringsIndexFuncTop
import Derived.Shelf.GgClosure.StringsRunes
import Derived.Shelf.Strings.Prefix
import Derived.Shelf.Unicode.Latin
import Derived.Shelf.Unicode.Decode
import Derived.Shelf.Strings.Runes
import Derived.Shelf.Strings.AsciiSet
import Derived.Shelf.Bits.Mul64
import Derived.Shelf.Strings.Repeat
import Derived.Shelf.Unicode.DecodeSlow
import Derived.Shelf.Unicode.DecodeAny
import Derived.Shelf.Unicode.DecodeLast
import Derived.Shelf.Unicode.CaseLookup
import Derived.Shelf.Unicode.CaseConvert
import Derived.Shelf.Unicode.CaseTo
import Derived.Shelf.Unicode.CaseLaid
import Derived.Shelf.Strings.MapAny
import Derived.Shelf.Strings.CaseAny
import Derived.Shelf.Strings.FuncGrows
import Derived.Shelf.Strings.BuilderCap
import Derived.Shelf.Strings.MapGrows
import Derived.Test.YtpjikbfeegncbaaGreatDoorProg
namespace Go.Proofs
open Go.Shelf
def Tryz.laysE158_ren : Go.Shelf.Ren := ⟨fun | 158 => 26 | 165 => 50 | 166 => 51 | 167 => 52 | 169 => 53 | 230 => 54 | 203 => 55 | 240 => 72 | 241 => 73 | 197 => 69 | 118 => 74 | 168 => 75 | 270 => 76 | 262 => 77 | 276 => 102 | 277 => 103 | 260 => 99 | 242 => 104 | 313 => 105 | 278 => 121 | 274 => 122 | 275 => 123 | n => n, fun | 9 => 9 | 4 => 4 | 3 => 3 | 5 => 5 | 72 => 62 | 0 => 0 | 76 => 66 | 75 => 65 | 107 => 71 | 70 => 59 | 20 => 20 | 37 => 60 | 127 => 86 | 21 => 21 | 105 => 83 | 164 => 95 | 162 => 101 | 203 => 99 | 119 => 111 | 46 => 110 | 139 => 114 | 138 => 113 | 51 => 118 | 160 => 119 | 208 => 130 | 206 => 128 | 80 => 69 | n => n, fun | 13 => 0 | 3 => 1 | 4 => 2 | n => n⟩
theorem Tryz.laysE158 : Go.Proofs.Lays.n158 Tryz.prog Tryz.laysE158_ren := {
  mixed := by kernel_rfl
  f118 := Tryz.func74.trans (congrArg some (by kernel_rfl))
  f158 := Tryz.func26.trans (congrArg some (by kernel_rfl))
  f165 := Tryz.func50.trans (congrArg some (by kernel_rfl))
  f166 := Tryz.func51.trans (congrArg some (by kernel_rfl))
  f167 := Tryz.func52.trans (congrArg some (by kernel_rfl))
  f168 := Tryz.func75.trans (congrArg some (by kernel_rfl))
  f169 := Tryz.func53.trans (congrArg some (by kernel_rfl))
  f197 := Tryz.func69.trans (congrArg some (by kernel_rfl))
  f203 := Tryz.func55.trans (congrArg some (by kernel_rfl))
  f230 := Tryz.func54.trans (congrArg some (by kernel_rfl))
  f240 := Tryz.func72.trans (congrArg some (by kernel_rfl))
  f241 := Tryz.func73.trans (congrArg some (by kernel_rfl))
  f242 := Tryz.func104.trans (congrArg some (by kernel_rfl))
  f260 := Tryz.func99.trans (congrArg some (by kernel_rfl))
  f262 := Tryz.func77.trans (congrArg some (by kernel_rfl))
  f270 := Tryz.func76.trans (congrArg some (by kernel_rfl))
  f274 := Tryz.func122.trans (congrArg some (by kernel_rfl))
  f275 := Tryz.func123.trans (congrArg some (by kernel_rfl))
  f276 := Tryz.func102.trans (congrArg some (by kernel_rfl))
  f277 := Tryz.func103.trans (congrArg some (by kernel_rfl))
  f278 := Tryz.func121.trans (congrArg some (by kernel_rfl))
  f313 := Tryz.func105.trans (congrArg some (by kernel_rfl))
  t0 := Tryz.underlying0
  a0 := Tryz.isAgg0
  z0 := Tryz.sizeOf0
  v0 := Tryz.zeroValue0
  t3 := Tryz.underlying3
  a3 := Tryz.isAgg3
  z3 := Tryz.sizeOf3
  v3 := Tryz.zeroValue3
  t4 := Tryz.underlying4
  a4 := Tryz.isAgg4
  z4 := Tryz.sizeOf4
  v4 := Tryz.zeroValue4
  t5 := Tryz.underlying5
  a5 := Tryz.isAgg5
  z5 := Tryz.sizeOf5
  v5 := Tryz.zeroValue5
  t9 := Tryz.underlying9
  a9 := Tryz.isAgg9
  z9 := Tryz.sizeOf9
  v9 := Tryz.zeroValue9
  t20 := Tryz.underlying20
  a20 := Tryz.isAgg20
  z20 := Tryz.sizeOf20
  v20 := Tryz.zeroValue20
  t21 := Tryz.underlying21
  a21 := Tryz.isAgg21
  z21 := Tryz.sizeOf21
  v21 := Tryz.zeroValue21
  t37 := Tryz.underlying60
  a37 := Tryz.isAgg60
  z37 := Tryz.sizeOf60
  v37 := Tryz.zeroValue60
  t46 := Tryz.underlying110
  a46 := Tryz.isAgg110
  z46 := Tryz.sizeOf110
  v46 := Tryz.zeroValue110
  t51 := Tryz.underlying118
  a51 := Tryz.isAgg118
  z51 := Tryz.sizeOf118
  v51 := Tryz.zeroValue118
  t70 := Tryz.underlying59
  a70 := Tryz.isAgg59
  z70 := Tryz.sizeOf59
  v70 := Tryz.zeroValue59
  t72 := Tryz.underlying62
  a72 := Tryz.isAgg62
  z72 := Tryz.sizeOf62
  v72 := Tryz.zeroValue62
  t75 := Tryz.underlying65
  a75 := Tryz.isAgg65
  z75 := Tryz.sizeOf65
  v75 := Tryz.zeroValue65
  t76 := Tryz.underlying66
  a76 := Tryz.isAgg66
  z76 := Tryz.sizeOf66
  v76 := Tryz.zeroValue66
  t105 := Tryz.underlying83
  a105 := Tryz.isAgg83
  z105 := Tryz.sizeOf83
  v105 := Tryz.zeroValue83
  t107 := Tryz.underlying71
  a107 := Tryz.isAgg71
  z107 := Tryz.sizeOf71
  v107 := Tryz.zeroValue71
  t119 := Tryz.underlying111
  a119 := Tryz.isAgg111
  z119 := Tryz.sizeOf111
  t127 := Tryz.underlying86
  a127 := Tryz.isAgg86
  z127 := Tryz.sizeOf86
  v127 := Tryz.zeroValue86
  t138 := Tryz.underlying113
  a138 := Tryz.isAgg113
  z138 := Tryz.sizeOf113
  v138 := Tryz.zeroValue113
  t139 := Tryz.underlying114
  a139 := Tryz.isAgg114
  z139 := Tryz.sizeOf114
  v139 := Tryz.zeroValue114
  t160 := Tryz.underlying119
  a160 := Tryz.isAgg119
  z160 := Tryz.sizeOf119
  v160 := Tryz.zeroValue119
  t162 := Tryz.underlying101
  a162 := Tryz.isAgg101
  z162 := Tryz.sizeOf101
  v162 := Tryz.zeroValue101
  t164 := Tryz.underlying95
  a164 := Tryz.isAgg95
  z164 := Tryz.sizeOf95
  v164 := Tryz.zeroValue95
  t203 := Tryz.underlying99
  a203 := Tryz.isAgg99
  z203 := Tryz.sizeOf99
  v203 := Tryz.zeroValue99
  t206 := Tryz.underlying128
  a206 := Tryz.isAgg128
  z206 := Tryz.sizeOf128
  v206 := Tryz.zeroValue128
  t208 := Tryz.underlying130
  a208 := Tryz.isAgg130
  z208 := Tryz.sizeOf130
  v208 := Tryz.zeroValue130
  g3 := by kernel_rfl
  g4 := by kernel_rfl
  g13 := by kernel_rfl }
theorem Tryz.Builder_Extra_158 : Builder.Extra Tryz.prog Tryz.laysE158_ren := {
  sizeBuilder := by kernel_rfl
  liesBuilder := by kernel_rfl
  t5 := Tryz.underlying5
  a5 := Tryz.isAgg5
  z5 := Tryz.sizeOf5
  v5 := Tryz.zeroValue5
  infoByte := by kernel_rfl
  cellsByte := by kernel_rfl
  sizeByte := by kernel_rfl
  neB5 := by decide }
open Go.RowKit in
/-- strings.ToUpper: "ToUpper returns s with all Unicode letters mapped to their upper case.": ON ASCII TEXT OF AT MOST 2^47 BYTES. Below the heap's end the world is as it was: where a letter turns, the call makes a builder and its buffer. (LAID: no walk: one application.) -/
theorem Tryz.strings_ToUpper_ascii (s : ByteArray) (w : World) (hs : s.size ≤ 140737488355328) (hascii : ∀ (j : Nat) (b : UInt8), s.data.toList[j]? = some b → b.toNat < 128) :
    Calls Tryz.prog 26 #[.string s] w fun e w' => e = .returned (.string ⟨(Lib.toUpperA s.data.toList).toArray⟩) ∧ Below w.heap.size w w' := Any.strings_ToUpper_ascii Tryz.laysE158 Tryz.Builder_Extra_158 s w hs hascii
def Tryz.laysE159_ren : Go.Shelf.Ren := ⟨fun | 159 => 28 | 165 => 50 | 166 => 51 | 167 => 52 | 169 => 53 | 230 => 54 | 204 => 57 | 240 => 72 | 241 => 73 | 197 => 69 | 118 => 74 | 168 => 75 | 270 => 76 | 262 => 77 | 276 => 102 | 277 => 103 | 260 => 99 | 242 => 104 | 313 => 105 | 278 => 121 | 274 => 122 | 275 => 123 | n => n, fun | 9 => 9 | 4 => 4 | 3 => 3 | 5 => 5 | 72 => 62 | 0 => 0 | 76 => 66 | 75 => 65 | 107 => 71 | 70 => 59 | 20 => 20 | 37 => 60 | 127 => 86 | 21 => 21 | 105 => 83 | 164 => 95 | 162 => 101 | 203 => 99 | 119 => 111 | 46 => 110 | 139 => 114 | 138 => 113 | 51 => 118 | 160 => 119 | 208 => 130 | 206 => 128 | 80 => 69 | n => n, fun | 13 => 0 | 3 => 1 | 4 => 2 | n => n⟩
theorem Tryz.laysE159 : Go.Proofs.Lays.n159 Tryz.prog Tryz.laysE159_ren := {
  mixed := by kernel_rfl
  f118 := Tryz.func74.trans (congrArg some (by kernel_rfl))
  f159 := Tryz.func28.trans (congrArg some (by kernel_rfl))
  f165 := Tryz.func50.trans (congrArg some (by kernel_rfl))
  f166 := Tryz.func51.trans (congrArg some (by kernel_rfl))
  f167 := Tryz.func52.trans (congrArg some (by kernel_rfl))
  f168 := Tryz.func75.trans (congrArg some (by kernel_rfl))
  f169 := Tryz.func53.trans (congrArg some (by kernel_rfl))
  f197 := Tryz.func69.trans (congrArg some (by kernel_rfl))
  f204 := Tryz.func57.trans (congrArg some (by kernel_rfl))
  f230 := Tryz.func54.trans (congrArg some (by kernel_rfl))
  f240 := Tryz.func72.trans (congrArg some (by kernel_rfl))
  f241 := Tryz.func73.trans (congrArg some (by kernel_rfl))
  f242 := Tryz.func104.trans (congrArg some (by kernel_rfl))
  f260 := Tryz.func99.trans (congrArg some (by kernel_rfl))
  f262 := Tryz.func77.trans (congrArg some (by kernel_rfl))
  f270 := Tryz.func76.trans (congrArg some (by kernel_rfl))
  f274 := Tryz.func122.trans (congrArg some (by kernel_rfl))
  f275 := Tryz.func123.trans (congrArg some (by kernel_rfl))
  f276 := Tryz.func102.trans (congrArg some (by kernel_rfl))
  f277 := Tryz.func103.trans (congrArg some (by kernel_rfl))
  f278 := Tryz.func121.trans (congrArg some (by kernel_rfl))
  f313 := Tryz.func105.trans (congrArg some (by kernel_rfl))
  t0 := Tryz.underlying0
  a0 := Tryz.isAgg0
  z0 := Tryz.sizeOf0
  v0 := Tryz.zeroValue0
  t3 := Tryz.underlying3
  a3 := Tryz.isAgg3
  z3 := Tryz.sizeOf3
  v3 := Tryz.zeroValue3
  t4 := Tryz.underlying4
  a4 := Tryz.isAgg4
  z4 := Tryz.sizeOf4
  v4 := Tryz.zeroValue4
  t5 := Tryz.underlying5
  a5 := Tryz.isAgg5
  z5 := Tryz.sizeOf5
  v5 := Tryz.zeroValue5
  t9 := Tryz.underlying9
  a9 := Tryz.isAgg9
  z9 := Tryz.sizeOf9
  v9 := Tryz.zeroValue9
  t20 := Tryz.underlying20
  a20 := Tryz.isAgg20
  z20 := Tryz.sizeOf20
  v20 := Tryz.zeroValue20
  t21 := Tryz.underlying21
  a21 := Tryz.isAgg21
  z21 := Tryz.sizeOf21
  v21 := Tryz.zeroValue21
  t37 := Tryz.underlying60
  a37 := Tryz.isAgg60
  z37 := Tryz.sizeOf60
  v37 := Tryz.zeroValue60
  t46 := Tryz.underlying110
  a46 := Tryz.isAgg110
  z46 := Tryz.sizeOf110
  v46 := Tryz.zeroValue110
  t51 := Tryz.underlying118
  a51 := Tryz.isAgg118
  z51 := Tryz.sizeOf118
  v51 := Tryz.zeroValue118
  t70 := Tryz.underlying59
  a70 := Tryz.isAgg59
  z70 := Tryz.sizeOf59
  v70 := Tryz.zeroValue59
  t72 := Tryz.underlying62
  a72 := Tryz.isAgg62
  z72 := Tryz.sizeOf62
  v72 := Tryz.zeroValue62
  t75 := Tryz.underlying65
  a75 := Tryz.isAgg65
  z75 := Tryz.sizeOf65
  v75 := Tryz.zeroValue65
  t76 := Tryz.underlying66
  a76 := Tryz.isAgg66
  z76 := Tryz.sizeOf66
  v76 := Tryz.zeroValue66
  t105 := Tryz.underlying83
  a105 := Tryz.isAgg83
  z105 := Tryz.sizeOf83
  v105 := Tryz.zeroValue83
  t107 := Tryz.underlying71
  a107 := Tryz.isAgg71
  z107 := Tryz.sizeOf71
  v107 := Tryz.zeroValue71
  t119 := Tryz.underlying111
  a119 := Tryz.isAgg111
  z119 := Tryz.sizeOf111
  t127 := Tryz.underlying86
  a127 := Tryz.isAgg86
  z127 := Tryz.sizeOf86
  v127 := Tryz.zeroValue86
  t138 := Tryz.underlying113
  a138 := Tryz.isAgg113
  z138 := Tryz.sizeOf113
  v138 := Tryz.zeroValue113
  t139 := Tryz.underlying114
  a139 := Tryz.isAgg114
  z139 := Tryz.sizeOf114
  v139 := Tryz.zeroValue114
  t160 := Tryz.underlying119
  a160 := Tryz.isAgg119
  z160 := Tryz.sizeOf119
  v160 := Tryz.zeroValue119
  t162 := Tryz.underlying101
  a162 := Tryz.isAgg101
  z162 := Tryz.sizeOf101
  v162 := Tryz.zeroValue101
  t164 := Tryz.underlying95
  a164 := Tryz.isAgg95
  z164 := Tryz.sizeOf95
  v164 := Tryz.zeroValue95
  t203 := Tryz.underlying99
  a203 := Tryz.isAgg99
  z203 := Tryz.sizeOf99
  v203 := Tryz.zeroValue99
  t206 := Tryz.underlying128
  a206 := Tryz.isAgg128
  z206 := Tryz.sizeOf128
  v206 := Tryz.zeroValue128
  t208 := Tryz.underlying130
  a208 := Tryz.isAgg130
  z208 := Tryz.sizeOf130
  v208 := Tryz.zeroValue130
  g3 := by kernel_rfl
  g4 := by kernel_rfl
  g13 := by kernel_rfl }
theorem Tryz.Builder_Extra_159 : Builder.Extra Tryz.prog Tryz.laysE159_ren := {
  sizeBuilder := by kernel_rfl
  liesBuilder := by kernel_rfl
  t5 := Tryz.underlying5
  a5 := Tryz.isAgg5
  z5 := Tryz.sizeOf5
  v5 := Tryz.zeroValue5
  infoByte := by kernel_rfl
  cellsByte := by kernel_rfl
  sizeByte := by kernel_rfl
  neB5 := by decide }
open Go.RowKit in
/-- strings.ToLower: "ToLower returns s with all Unicode letters mapped to their lower case.": ON ASCII TEXT OF AT MOST 2^47 BYTES. Below the heap's end the world is as it was: where a letter turns, the call makes a builder and its buffer. (LAID: no walk: one application.) -/
theorem Tryz.strings_ToLower_ascii (s : ByteArray) (w : World) (hs : s.size ≤ 140737488355328) (hascii : ∀ (j : Nat) (b : UInt8), s.data.toList[j]? = some b → b.toNat < 128) :
    Calls Tryz.prog 28 #[.string s] w fun e w' => e = .returned (.string ⟨(Lib.toLowerA s.data.toList).toArray⟩) ∧ Below w.heap.size w w' := Any.strings_ToLower_ascii Tryz.laysE159 Tryz.Builder_Extra_159 s w hs hascii
def Tryz.laysE104_ren : Go.Shelf.Ren := ⟨fun | 104 => 24 | 211 => 42 | 207 => 56 | n => n, fun | 9 => 9 | 4 => 4 | 24 => 34 | 3 => 3 | n => n, fun | n => n⟩
theorem Tryz.laysE104 : Go.Proofs.Lays.n104 Tryz.prog Tryz.laysE104_ren := {
  mixed := by kernel_rfl
  f104 := Tryz.func24.trans (congrArg some (by kernel_rfl))
  f207 := Tryz.func56.trans (congrArg some (by kernel_rfl))
  f211 := Tryz.func42.trans (congrArg some (by kernel_rfl))
  t3 := Tryz.underlying3
  a3 := Tryz.isAgg3
  z3 := Tryz.sizeOf3
  v3 := Tryz.zeroValue3
  t4 := Tryz.underlying4
  a4 := Tryz.isAgg4
  z4 := Tryz.sizeOf4
  v4 := Tryz.zeroValue4
  t9 := Tryz.underlying9
  a9 := Tryz.isAgg9
  z9 := Tryz.sizeOf9
  v9 := Tryz.zeroValue9
  t24 := Tryz.underlying34
  a24 := Tryz.isAgg34
  z24 := Tryz.sizeOf34
  v24 := Tryz.zeroValue34 }
open Go.RowKit in
/-- strings.CutSuffix: "CutSuffix returns s without the provided ending suffix string and reports whether it found the suffix. If s doesn't end with suffix, CutSuffix returns s, false. If suffix is the empty string, CutSuffix returns s, true.": IT RETURNS '(Lib.trimSuffix s p, Lib.hasSuffix s p)'; the world is as it was. (LAID: no walk: one application.) -/
theorem Tryz.strings_CutSuffix (s p : ByteArray) (w : World) (hs : s.size ≤ 9223372036854775807) :
    Calls Tryz.prog 24 #[.string s, .string p] w fun e w' => e = .returned (.tuple #[.string ⟨(Lib.trimSuffix s.data.toList p.data.toList).toArray⟩, .bool (Lib.hasSuffix s.data.toList p.data.toList)]) ∧ w' = w := Any.strings_CutSuffix Tryz.laysE104 s p w hs
def Tryz.laysEGw17_ren : Go.Shelf.Ren := ⟨fun | 17 => 22 | 15 => 41 | 20 => 67 | n => n, fun | 9 => 9 | 23 => 33 | 4 => 4 | 3 => 3 | 0 => 0 | 21 => 21 | n => n, fun | n => n⟩
theorem Tryz.laysEGw17 : Go.Proofs.LaysGw.n17 Tryz.prog Tryz.laysEGw17_ren := {
  mixed := by kernel_rfl
  f15 := Tryz.func41.trans (congrArg some (by kernel_rfl))
  f17 := Tryz.func22.trans (congrArg some (by kernel_rfl))
  f20 := Tryz.func67.trans (congrArg some (by kernel_rfl))
  t0 := Tryz.underlying0
  a0 := Tryz.isAgg0
  z0 := Tryz.sizeOf0
  v0 := Tryz.zeroValue0
  i0 := by kernel_rfl
  t3 := Tryz.underlying3
  a3 := Tryz.isAgg3
  z3 := Tryz.sizeOf3
  v3 := Tryz.zeroValue3
  i3 := by kernel_rfl
  t4 := Tryz.underlying4
  a4 := Tryz.isAgg4
  z4 := Tryz.sizeOf4
  v4 := Tryz.zeroValue4
  i4 := by kernel_rfl
  t9 := Tryz.underlying9
  a9 := Tryz.isAgg9
  z9 := Tryz.sizeOf9
  v9 := Tryz.zeroValue9
  i9 := by kernel_rfl
  t21 := Tryz.underlying21
  a21 := Tryz.isAgg21
  z21 := Tryz.sizeOf21
  v21 := Tryz.zeroValue21
  i21 := by kernel_rfl
  t23 := Tryz.underlying33
  a23 := Tryz.isAgg33
  z23 := Tryz.sizeOf33
  v23 := Tryz.zeroValue33
  i23 := by kernel_rfl }
open Go.RowKit Go.Lib in
theorem Tryz.strings_ContainsFunc (g : Nat) (lb : Array Value) (eg : ∀ args w, (callFunc g args).run Tryz.prog w = .ok (.enter g args) w) (p : Nat → Bool) (s : ByteArray) (w : World) (hp : PredAt Tryz.prog g lb encR p w) :
    Calls Tryz.prog 22 #[.string s, .func (.func g) #[] lb] w fun e w' => e = .returned (.bool (decide (0 ≤ Lib.idxFunc p true s))) ∧ Below w.heap.size w w' := Any.strings_ContainsFunc Tryz.laysEGw17 g lb eg p s w hp
end Go.Proofs
