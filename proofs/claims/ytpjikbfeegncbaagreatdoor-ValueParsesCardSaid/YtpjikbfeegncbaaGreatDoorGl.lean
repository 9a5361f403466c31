/- What the texts of numbers and the searches lean on: Go's table of powers; that the cell of MaxLen holds a number. -/
import Derived.Test.YtpjikbfeegncbaaGreatDoorProg
import Derived.Test.YtpjikbfeegncbaaGreatDoorCard
import Derived.Lib.LaidTab
import Derived.Lib.ItoaNum
import Derived.Shelf.Vars
import Derived.MakeChecks
import Derived.Below
set_option linter.unusedVariables false
namespace Go.Proofs.YtpjikbfeegncbaaGreatDoor
open Go.RowKit

structure Gl (w : World) : Prop where
  tab : Lib.TabIs Tryz.prog w "internal/strconv.uint64pow10" .u64 Lib.pow10Tab
  maxLen : ∃ m, w.cell? ⟨3, 0, none⟩ = some (.int .i64 m)
theorem gTab5 : Tryz.prog.globalNamed "internal/strconv.uint64pow10" = some 4 := by kernel_rfl
theorem Gl.keep {w w' : World} (h : Gl w) (hb : ∀ b, b < w.heap.size → (b = 4 ∨ b = 3) → w'.heap[b]? = w.heap[b]?) : Gl w' := by
  obtain ⟨m, hm⟩ := h.maxLen
  have hz := World.block_lt_of_cell? w _ hm
  refine ⟨?_, m, (World.cell?_of_block (hb _ hz (.inr rfl))).trans hm⟩
  have ht := h.tab
  unfold Lib.TabIs World.var? at ht ⊢
  rw [gTab5] at ht ⊢
  simp only [Option.bind_some] at ht ⊢
  have hlt : 4 < w.heap.size := by
    rcases Nat.lt_or_ge 4 w.heap.size with h' | h'
    · exact h'
    · simp [Array.getElem?_eq_none h'] at ht
  rw [hb _ hlt (.inl rfl)]
  exact ht
theorem Gl.below {w w' : World} (h : Gl w) (hb : Below w.heap.size w w') : Gl w' := h.keep fun b hz _ => hb.block b hz
/-- the two variables lie below every block of a call's own -/
theorem Gl.lt {w : World} (h : Gl w) : 4 < w.heap.size ∧ 3 < w.heap.size := by
  obtain ⟨m, hm⟩ := h.maxLen
  refine ⟨?_, World.block_lt_of_cell? w _ hm⟩
  have ht := h.tab
  unfold Lib.TabIs World.var? at ht
  rw [gTab5] at ht
  rcases Nat.lt_or_ge 4 w.heap.size with h' | h'
  · exact h'
  · simp [Array.getElem?_eq_none h'] at ht
theorem Gl.low {w w' : World} (h : Gl w) {B : Nat} (hB : 4 < B ∧ 3 < B) (hb : Below B w w') : Gl w' :=
  h.keep fun b _ he => hb.block b (by rcases he with rfl | rfl; exact hB.1; exact hB.2)
theorem gl_mk {W : World} {x y : String × DataW Unit} {rest : List (String × DataW Unit)} (h : laidMet Tryz.prog (x :: y :: ("internal/strconv.uint64pow10", Lib.tabData .u64 Lib.pow10Tab) :: rest) W) (hS : W.ShapedOpen Tryz.prog) : Gl W :=
  ⟨Lib.tabIs_of_head gTab5 (by kernel_rfl) Tryz.underlying151 Tryz.underlying133 (by kernel_rfl) (by kernel_rfl) (laidMet.tail (laidMet.tail h)),
    cell_of_shapedOpen_int (t := 3) (zero := #[.int .i64 0]) hS (by decide +kernel) (by kernel_rfl) rfl (by kernel_rfl) (by kernel_rfl) Tryz.underlying3⟩
end Go.Proofs.YtpjikbfeegncbaaGreatDoor
