/- Contracts of the reference's Reference; FormatReference of both. -/
import Derived.Test.YtcjehiecgdmidaaNmF
set_option linter.unusedVariables false
set_option linter.unusedSimpArgs false
namespace Go.Proofs.Ytcjehiecgdmidaa
open Go.RowKit Go.Shelf Go.Sort

/-- what FormatReference returns -/
def fmtRef (nm : ByteArray) (rg : Bool) (m n : Int) : ByteArray := if vN nm.data.toList then (if rg then (if fmtR m n = ⟨#[]⟩ then ⟨#[]⟩ else nm ++ ⟨#[32]⟩ ++ fmtR m n) else nm) else ⟨#[]⟩
theorem fmtR_size (m n : Int) : (fmtR m n).size ≤ 60 := by
  unfold fmtR
  cases hm : bdB m with
  | false => exact Nat.zero_le _
  | true =>
    cases hn : bdB n with
    | false => exact Nat.zero_le _
    | true =>
      have zm := decB_len m hm
      have zn := decB_len n hn
      have z : ∀ c : UInt8, (⟨#[c]⟩ : ByteArray).size = 1 := fun _ => rfl
      rw [Bool.and_true, if_pos rfl]
      split <;> simp only [ByteArray.size_append, z] <;> omega
theorem isEmpty_dec (t : ByteArray) : t.toList.isEmpty = decide (t = ⟨#[]⟩) := by
  rw [Bool.eq_iff_iff, decide_eq_true_eq, List.isEmpty_iff]
  constructor
  · intro h; exact Go.WideShapes.bytes_inj (by rw [← Lib.toList_data, h])
  · intro h; rw [h, Lib.toList_data]
end Go.Proofs.Ytcjehiecgdmidaa
