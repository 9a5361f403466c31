/-
  DERIVED: THE SHELF's CONTRACTS AT THIS DUMP, IN PLAIN WORDS (tools/lay-plain.mjs out of 'YtpfiofgchkfkhaaShelfS.lean', which tools/lay-shelf.mjs wrote): THE SAME DECLARATIONS UNDER THE SAME NAMES: 'import', 'namespace', 'open', 'def', 'theorem' AND NOTHING ELSE: no command of the shelf's: FOR A HAND-IN. Each laying: the table of numbers ('.._ren') and one theorem, a field a fact of the dump's own or the kernel's comparison; each contract: ONE APPLICATION.
-/
import Derived.Shelf.SlGeneric
import Derived.Shelf.SlSortCmp.KitK
import Derived.Ground.SlsfProg
import Derived.Test.YtpfiofgchkfkhaaProg
namespace Go.Proofs
open Go.Shelf
def Try.sortIns_ren : Go.Shelf.Ren := ⟨fun | 20 => 76 | n => n, fun | 24 => 29 | 22 => 23 | 3 => 3 | 25 => 64 | 4 => 4 | 0 => 0 | n => n, fun | n => n⟩
theorem Try.sortIns : Go.Proofs.SlLaysF0.n20 Try.prog Try.sortIns_ren := {
  mixed := by kernel_rfl
  f20 := ⟨Try.f76.name, by decide, Try.func76.trans (congrArg some (by kernel_rfl))⟩
  t0 := Try.underlying0
  a0 := Try.isAgg0
  z0 := Try.sizeOf0
  v0 := Try.zeroValue0
  t3 := Try.underlying3
  a3 := Try.isAgg3
  z3 := Try.sizeOf3
  v3 := Try.zeroValue3
  t4 := Try.underlying4
  a4 := Try.isAgg4
  z4 := Try.sizeOf4
  v4 := Try.zeroValue4
  t22 := Try.underlying23
  a22 := Try.isAgg23
  z22 := Try.sizeOf23
  v22 := Try.zeroValue23
  t25 := Try.underlying64
  a25 := Try.isAgg64
  z25 := Try.sizeOf64
  v25 := Try.zeroValue64 }
end Go.Proofs
