/- Contracts of the parts that are no items: escaped names, and any path. -/
import Derived.Test.YtcjehiecgdmidaaPtB
set_option linter.unusedVariables false
set_option linter.unusedSimpArgs false
namespace Go.Proofs.Ytcjehiecgdmidaa
open Go.RowKit Go.Shelf

theorem literalMatches_any (l s : ByteArray) (w : World) :
    Calls Try.prog 68 #[.string l, .string s] w fun e w' => e = .returned (.bool ((Pt.lit l.data.toList).ok s.data.toList)) ∧ w' = w := by
  have hb : (Pt.lit l.data.toList).ok s.data.toList = (s.toList == l.toList) := by
    show decide (s.data.toList = l.data.toList) = _
    rw [Bool.eq_iff_iff, decide_eq_true_iff, beq_iff_eq, Lib.toList_data, Lib.toList_data]
  go_enter Try.func68, Try.ntmps68
  go_wp2
  go_ret
  exact ⟨ret_b hb, rfl⟩
theorem literalFixed_any (l : ByteArray) (w : World) :
    Calls Try.prog 67 #[.string l] w fun e w' => e = .returned (.tuple #[.string l, .bool true]) ∧ w' = w := by
  go_enter Try.func67, Try.ntmps67
  go_wp2
  go_ret2
  exact ⟨rfl, rfl⟩
theorem anyMatches_any (s : ByteArray) (w : World) :
    Calls Try.prog 66 #[.agg #[], .string s] w fun e w' => e = .returned (.bool false) ∧ Below w.heap.size w w' := by
  go_enter Try.func66, Try.ntmps66
  go_wp2
  go_ret
  exact ⟨rfl, by first | exact Below.refl _ _ | exact (Below.refl _ _).alloc (Nat.le_refl _) _⟩
theorem anyFixed_any (w : World) :
    Calls Try.prog 65 #[.agg #[]] w fun e w' => e = .returned (.tuple #[.string ⟨#[]⟩, .bool false]) ∧ Below w.heap.size w w' := by
  go_enter Try.func65, Try.ntmps65
  go_wp2
  go_ret2
  exact ⟨rfl, by first | exact Below.refl _ _ | exact (Below.refl _ _).alloc (Nat.le_refl _) _⟩
end Go.Proofs.Ytcjehiecgdmidaa
