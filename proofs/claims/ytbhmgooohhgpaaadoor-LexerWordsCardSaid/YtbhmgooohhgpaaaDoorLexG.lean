/- The reference's Scan, Position, Printable; Section of both. -/
import Derived.Test.YtbhmgooohhgpaaaDoorLexF
namespace Go.Proofs.YtbhmgooohhgpaaaDoor
open Go.RowKit Go.Shelf

theorem whiteB_ten : whiteB 10 = true := rfl

theorem allPrint_of (s : ByteArray) (h : ∀ j, ∀ h : j < s.size, printB (s[j]'h).toNat = true) : allPrint s = true := by
  unfold allPrint
  rw [List.all_eq_true]
  intro c hc
  obtain ⟨j, hj, rfl⟩ := List.getElem_of_mem hc
  exact h j (by simpa using hj)
theorem allPrint_not (s : ByteArray) (j : Nat) (h : j < s.size) (hp : printB (s[j]'h).toNat = false) : allPrint s = false := by
  unfold allPrint
  rw [List.all_eq_false]
  exact ⟨s[j], (by rw [show s[j] = s.data.toList[j]'(by simpa using h) from rfl]; exact List.getElem_mem _), by simpa using hp⟩

end Go.Proofs.YtbhmgooohhgpaaaDoor
