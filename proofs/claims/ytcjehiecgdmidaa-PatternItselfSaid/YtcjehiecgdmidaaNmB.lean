/- Contracts of the scanner of package name: take, number; Range. -/
import Derived.Test.YtcjehiecgdmidaaNmA
import Derived.Deep.DeepCutAuto
import Derived.Deep.CutBlock
set_option linter.unusedVariables false
namespace Go.Proofs.Ytcjehiecgdmidaa
open Go.RowKit Go.Shelf Go.Sort

def bstr (l : List UInt8) : ByteArray := ⟨l.toArray⟩
theorem bstr_list (s : ByteArray) : bstr s.data.toList = s := rfl
theorem list_bstr (l : List UInt8) : (bstr l).data.toList = l := rfl
theorem nd_bytes (r : ByteArray) : nd r.data.toList ≤ r.size ∧ (∀ j (h : j < r.size), j < nd r.data.toList → 48 ≤ (r[j]'h).toNat ∧ (r[j]'h).toNat ≤ 57) ∧ (∀ h : nd r.data.toList < r.size, ¬ (48 ≤ (r[nd r.data.toList]'h).toNat ∧ (r[nd r.data.toList]'h).toNat ≤ 57)) := by
  have hsz := size_list r
  refine ⟨hsz ▸ nd_le _, fun j h hj => ?_, fun h => ?_⟩
  · have := nd_in r.data.toList j (by omega) hj
    rw [Array.getElem_toList] at this
    simp only [isD, decide_eq_true_eq] at this
    exact this
  · have := nd_end r.data.toList (by omega)
    simp only [isD, decide_eq_false_iff_not] at this
    rw [Array.getElem_toList] at this
    exact this

end Go.Proofs.Ytcjehiecgdmidaa
