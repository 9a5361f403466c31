/-
  DERIVED: THE SHELF's CONTRACTS AT THIS DUMP, IN PLAIN WORDS (tools/lay-plain.mjs out of 'YtcjehiecgdmidaaShelfJ.lean', which tools/lay-shelf.mjs wrote): THE SAME DECLARATIONS UNDER THE SAME NAMES: 'import', 'namespace', 'open', 'def', 'theorem' AND NOTHING ELSE: no command of the shelf's: FOR A HAND-IN. Each laying: the table of numbers ('.._ren') and one theorem, a field a fact of the dump's own or the kernel's comparison; each contract: ONE APPLICATION.
-/
import Derived.Test.YtcjehiecgdmidaaShelfP
import Derived.Shelf.Small.Utf8
import Derived.Shelf.Small.Strs
import Derived.Shelf.Small.Wraps
import Derived.Shelf.Strings.Search1
import Derived.Shelf.Strings.Search2
import Derived.Shelf.Strings.Search3
import Derived.Shelf.Strings.Cut
import Derived.Shelf.LaysM
import Derived.Shelf.Strings.Shaped
import Derived.Shelf.Strings.Prefix
import Derived.Shelf.Strings.Runes
import Derived.Shelf.Strings.IndexAny
import Derived.Shelf.Strings.AsciiSet
import Derived.Shelf.Strings.IndexAnyAll
import Derived.Test.YtcjehiecgdmidaaProg
namespace Go.Proofs
open Go.Shelf
def Try.laysJ152_ren : Go.Shelf.Ren := ⟨fun | 152 => 28 | 137 => 37 | 119 => 38 | 224 => 39 | 225 => 40 | 217 => 41 | 266 => 44 | n => n, fun | 9 => 9 | 21 => 21 | 3 => 3 | 4 => 4 | 5 => 5 | 0 => 0 | 46 => 73 | n => n, fun | n => n⟩
theorem Try.laysJ152 : Go.Proofs.Lays.n152 Try.prog Try.laysJ152_ren := {
  mixed := by kernel_rfl
  f119 := Try.func38.trans (congrArg some (by kernel_rfl))
  f137 := Try.func37.trans (congrArg some (by kernel_rfl))
  f152 := Try.func28.trans (congrArg some (by kernel_rfl))
  f217 := Try.func41.trans (congrArg some (by kernel_rfl))
  f224 := Try.func39.trans (congrArg some (by kernel_rfl))
  f225 := Try.func40.trans (congrArg some (by kernel_rfl))
  f266 := Try.func44.trans (congrArg some (by kernel_rfl))
  t0 := Try.underlying0
  a0 := Try.isAgg0
  z0 := Try.sizeOf0
  v0 := Try.zeroValue0
  t3 := Try.underlying3
  a3 := Try.isAgg3
  z3 := Try.sizeOf3
  v3 := Try.zeroValue3
  t4 := Try.underlying4
  a4 := Try.isAgg4
  z4 := Try.sizeOf4
  v4 := Try.zeroValue4
  t5 := Try.underlying5
  a5 := Try.isAgg5
  z5 := Try.sizeOf5
  v5 := Try.zeroValue5
  t9 := Try.underlying9
  a9 := Try.isAgg9
  z9 := Try.sizeOf9
  v9 := Try.zeroValue9
  t21 := Try.underlying21
  a21 := Try.isAgg21
  z21 := Try.sizeOf21
  v21 := Try.zeroValue21
  t46 := Try.underlying73
  a46 := Try.isAgg73
  z46 := Try.sizeOf73
  v46 := Try.zeroValue73 }
open Go.RowKit Go.Lib in
theorem Try.strings_IndexRune_ascii (s : ByteArray) (r : Int) (w : World) (h0 : 0 ≤ r) (h1 : r < 128) :
    Calls Try.prog 28 #[.string s, .int .i32 r] w fun e w' => e = .returned (.int .i64 (Lib.indexByte s.data.toList r.toNat.toUInt8)) ∧ w' = w := Any.strings_IndexRune_ascii Try.laysJ152 s r w h0 h1
def Try.laysJ226_ren : Go.Shelf.Ren := ⟨fun | 226 => 29 | n => n, fun | 3 => 3 | 4 => 4 | n => n, fun | n => n⟩
theorem Try.laysJ226 : Go.Proofs.Lays.n226 Try.prog Try.laysJ226_ren := {
  mixed := by kernel_rfl
  f226 := Try.func29.trans (congrArg some (by kernel_rfl))
  t3 := Try.underlying3
  a3 := Try.isAgg3
  z3 := Try.sizeOf3
  v3 := Try.zeroValue3
  t4 := Try.underlying4
  a4 := Try.isAgg4
  z4 := Try.sizeOf4
  v4 := Try.zeroValue4 }
open Go.RowKit Go.Lib in
theorem Try.strings_shouldUseASCIISet (n : Int) (w : World) :
    Calls Try.prog 29 #[.int .i64 n] w fun e w' => e = .returned (.bool (decide (8 < n))) ∧ w' = w := Any.strings_shouldUseASCIISet Try.laysJ226 n w
def Try.laysJ153_ren : Go.Shelf.Ren := ⟨fun | 153 => 21 | 152 => 28 | 226 => 29 | 227 => 30 | 228 => 31 | 137 => 37 | 119 => 38 | 224 => 39 | 225 => 40 | 217 => 41 | 266 => 44 | n => n, fun | 9 => 9 | 3 => 3 | 4 => 4 | 5 => 5 | 21 => 21 | 117 => 61 | 116 => 60 | 0 => 0 | 46 => 73 | 124 => 74 | n => n, fun | n => n⟩
theorem Try.laysJ153 : Go.Proofs.Lays.n153 Try.prog Try.laysJ153_ren := {
  mixed := by kernel_rfl
  f119 := Try.func38.trans (congrArg some (by kernel_rfl))
  f137 := Try.func37.trans (congrArg some (by kernel_rfl))
  f152 := Try.func28.trans (congrArg some (by kernel_rfl))
  f153 := Try.func21.trans (congrArg some (by kernel_rfl))
  f217 := Try.func41.trans (congrArg some (by kernel_rfl))
  f224 := Try.func39.trans (congrArg some (by kernel_rfl))
  f225 := Try.func40.trans (congrArg some (by kernel_rfl))
  f226 := Try.func29.trans (congrArg some (by kernel_rfl))
  f227 := Try.func30.trans (congrArg some (by kernel_rfl))
  f228 := Try.func31.trans (congrArg some (by kernel_rfl))
  f266 := Try.func44.trans (congrArg some (by kernel_rfl))
  t0 := Try.underlying0
  a0 := Try.isAgg0
  z0 := Try.sizeOf0
  v0 := Try.zeroValue0
  t3 := Try.underlying3
  a3 := Try.isAgg3
  z3 := Try.sizeOf3
  v3 := Try.zeroValue3
  t4 := Try.underlying4
  a4 := Try.isAgg4
  z4 := Try.sizeOf4
  v4 := Try.zeroValue4
  t5 := Try.underlying5
  a5 := Try.isAgg5
  z5 := Try.sizeOf5
  v5 := Try.zeroValue5
  t9 := Try.underlying9
  a9 := Try.isAgg9
  z9 := Try.sizeOf9
  v9 := Try.zeroValue9
  t21 := Try.underlying21
  a21 := Try.isAgg21
  z21 := Try.sizeOf21
  v21 := Try.zeroValue21
  t46 := Try.underlying73
  a46 := Try.isAgg73
  z46 := Try.sizeOf73
  v46 := Try.zeroValue73
  t116 := Try.underlying60
  a116 := Try.isAgg60
  z116 := Try.sizeOf60
  t117 := Try.underlying61
  a117 := Try.isAgg61
  z117 := Try.sizeOf61
  v117 := Try.zeroValue61
  t124 := Try.underlying74
  a124 := Try.isAgg74
  z124 := Try.sizeOf74
  v124 := Try.zeroValue74 }
open Go.RowKit Go.Lib in
theorem Try.strings_IndexAny_long (hv116 : ∀ w, (zeroValue 60).run Try.prog w = .ok (.agg (Array.replicate 256 (.bool false))) w) (s chars : ByteArray) (w : World) (h2 : 2 ≤ chars.size) (h8 : 8 < s.size) (hs : s.size < 4294967281) (hcs : chars.size < 4294967281) (hascii : ∀ (j : Nat) b, chars.data.toList[j]? = some b → b.toNat < 128) :
    Calls Try.prog 21 #[.string s, .string chars] w fun e w' => e = .returned (.int .i64 (Lib.indexAny s.data.toList chars.data.toList)) ∧ w' = ((w.alloc (.cells (Lib.setCells chars.data.toList) 60)).alloc (.cells (Lib.setCells chars.data.toList) 60)) := Any.strings_IndexAny_long Try.laysJ153 hv116 (by kernel_rfl) s chars w h2 h8 hs hcs hascii
end Go.Proofs
