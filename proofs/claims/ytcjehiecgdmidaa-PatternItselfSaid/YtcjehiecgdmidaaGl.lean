/- What the texts of numbers and the searches lean on: Go's table of powers; that the cell of MaxLen holds a number. -/
import Derived.Test.YtcjehiecgdmidaaProg
import Derived.Test.YtcjehiecgdmidaaCard
import Derived.Lib.LaidTab
import Derived.Lib.ItoaNum
import Derived.Shelf.Vars
import Derived.MakeChecks
import Derived.Below
set_option linter.unusedVariables false
namespace Go.Proofs.Ytcjehiecgdmidaa
open Go.RowKit

structure Gl (w : World) : Prop where
  tab : Lib.TabIs Try.prog w "internal/strconv.uint64pow10" .u64 Lib.pow10Tab
  maxLen : ∃ m, w.cell? ⟨0, 0, none⟩ = some (.int .i64 m)
end Go.Proofs.Ytcjehiecgdmidaa
