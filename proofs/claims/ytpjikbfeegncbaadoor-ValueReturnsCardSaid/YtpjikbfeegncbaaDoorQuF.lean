/- Contract of the reference's Unquote. -/
import Derived.Test.YtpjikbfeegncbaaDoorQuE
import Derived.IntWalk
set_option linter.unusedVariables false
namespace Go.Proofs.YtpjikbfeegncbaaDoor
open Go.RowKit Go.Shelf

theorem drop_at (s : ByteArray) (i : Nat) (h : i < s.size) : s.data.toList.drop i = (s[i]'h) :: s.data.toList.drop (i + 1) := by
  have h2 : i < s.data.toList.length := by rw [← Lib.size_eq]; exact h
  have h3 := Lib.data_getElem? s i h
  rw [List.getElem?_eq_getElem h2] at h3
  rw [List.drop_eq_getElem_cons h2, Option.some.inj h3]
theorem drop_end (s : ByteArray) (i : Nat) (h : ¬ i < s.size) : s.data.toList.drop i = [] := List.drop_eq_nil_of_le (by rw [← Lib.size_eq]; omega)
theorem hexI_yes {c : UInt8} (h : 0 ≤ hexI c) : ∃ x, hexV c = some x ∧ hexI c = (x : Int) ∧ x < 16 := by
  have hb := hexI_bd c
  unfold hexI at h hb ⊢
  cases hx : hexV c with
  | none => rw [hx] at h; exact absurd h (by decide)
  | some x => rw [hx] at hb; exact ⟨x, rfl, rfl, by simp only at hb; omega⟩
theorem hexI_not {c : UInt8} (h : ¬ 0 ≤ hexI c) : hexV c = none := by
  unfold hexI at h
  cases hx : hexV c with
  | none => rfl
  | some x => rw [hx] at h; simp only at h; omega

theorem u8_in (a : Int) (h : 0 ≤ a ∧ a ≤ 255) : IntKind.u8.wrap a = a := by
  simp only [IntKind.wrap, IntKind.signed, IntKind.bits]
  simp
  omega
end Go.Proofs.YtpjikbfeegncbaaDoor
