/- Contract of name.Range. -/
import Derived.Test.YtcjehiecgdmidaaNmB
set_option linter.unusedVariables false
set_option linter.unusedSimpArgs false
namespace Go.Proofs.Ytcjehiecgdmidaa
open Go.RowKit Go.Shelf Go.Sort

theorem Keeps.to_below {b : Nat} {w w' : World} {o : Obj} (hb : b = w.heap.size) (h : Keeps (fun c => c = b) (w.alloc o) w') : Below w.heap.size w w' :=
  ((Below.refl w.heap.size w).alloc (Nat.le_refl _) o).trans (h.below (by rintro c rfl; exact Nat.le_of_eq hb.symm) (by rw [World.size_alloc]; exact Nat.le_succ _))
theorem bstr_ne {l m : List UInt8} (h : ¬ l = m) : ¬ bstr l = bstr m := fun e => h (by have := congrArg (fun b : ByteArray => b.data.toList) e; exact this)
theorem toList_beq {a b : ByteArray} (h : ¬ a = b) : (a.toList == b.toList) = false := beq_eq_false_iff_ne.2 fun e => h (Go.WideShapes.bytes_inj (by rw [← Lib.toList_data, ← Lib.toList_data, e]))
theorem numS_len (l : List UInt8) : (numS l).2.2.length ≤ l.length := by
  have hr : (numS l).2.2 = (takeS l [45]).2.drop (nd (takeS l [45]).2) := by unfold numS; split <;> rfl
  rw [hr, List.length_drop, takeS_one]
  split
  · simp only [List.length_tail]; omega
  · show l.length - _ ≤ _; omega
theorem takeS_len (l p : List UInt8) : (takeS l p).2.length ≤ l.length := by
  unfold takeS; split
  · simp only [List.length_drop]; omega
  · exact Nat.le_refl _
def Ret3 (r : Int × Int × Int) (B : Nat) (w : World) (e : Ending) (w' : World) : Prop := e = .returned (.tuple #[.int .i64 r.1, .int .i64 r.2.1, .int .i64 r.2.2]) ∧ Below B w w'

end Go.Proofs.Ytcjehiecgdmidaa
