/- Contracts of the reference's digit, value and Quote, and of quote.first. -/
import Derived.Test.YtpjikbfeegncbaaDoorQuB
import Derived.Lib.QuietBelow
set_option linter.unusedVariables false
namespace Go.Proofs.YtpjikbfeegncbaaDoor
open Go.RowKit Go.Shelf

theorem digits_cut (n : Nat) (h : n < 16) : (⟨#[48, 49, 50, 51, 52, 53, 54, 55, 56, 57, 97, 98, 99, 100, 101, 102]⟩ : ByteArray).extract n (n + 1) = ⟨#[hexD n]⟩ := by
  have : n = 0 ∨ n = 1 ∨ n = 2 ∨ n = 3 ∨ n = 4 ∨ n = 5 ∨ n = 6 ∨ n = 7 ∨ n = 8 ∨ n = 9 ∨ n = 10 ∨ n = 11 ∨ n = 12 ∨ n = 13 ∨ n = 14 ∨ n = 15 := by omega
  rcases this with rfl | rfl | rfl | rfl | rfl | rfl | rfl | rfl | rfl | rfl | rfl | rfl | rfl | rfl | rfl | rfl <;> decide +kernel

def hexI (c : UInt8) : Int := match hexV c with
  | some v => v
  | none => -1
theorem hexI_lo (c : UInt8) (h1 : 48 ≤ c.toNat) (h2 : c.toNat ≤ 57) : hexI c = (c.toNat : Int) - 48 := by unfold hexI hexV; rw [if_pos ⟨h1, h2⟩]; simp only; omega
theorem hexI_hi (c : UInt8) (h1 : 97 ≤ c.toNat) (h2 : c.toNat ≤ 102) : hexI c = (c.toNat : Int) - 87 := by unfold hexI hexV; rw [if_neg (by omega), if_pos ⟨h1, h2⟩]; simp only; omega
theorem hexI_no (c : UInt8) (h1 : ¬ (48 ≤ c.toNat ∧ c.toNat ≤ 57)) (h2 : ¬ (97 ≤ c.toNat ∧ c.toNat ≤ 102)) : hexI c = -1 := by unfold hexI hexV; rw [if_neg h1, if_neg h2]
theorem ret_i {a b : Int} (h : a = b) : Ending.returned (.int .i64 a) = .returned (.int .i64 b) := by rw [h]

theorem take_snoc (s : ByteArray) (k : Nat) (hlt : k < s.size) : s.data.toList.take (k + 1) = s.data.toList.take k ++ [s[k]'hlt] := by
  have h := Lib.data_getElem? s k hlt
  have h2 : k < s.data.toList.length := by rw [← Lib.size_eq]; exact hlt
  rw [List.take_succ_eq_append_getElem h2]
  rw [List.getElem?_eq_getElem h2] at h
  rw [Option.some.inj h]
theorem take_all (s : ByteArray) : s.data.toList.take s.size = s.data.toList := by rw [Lib.size_eq]; exact List.take_length
theorem extract_one (s : ByteArray) (k : Nat) (h : k < s.size) : s.extract k (k + 1) = ⟨#[s[k]'h]⟩ := by
  apply ByteArray.ext
  apply Array.toList_inj.1
  rw [Lib.extract_data]
  have h2 : k < s.data.toList.length := by rw [← Lib.size_eq]; exact h
  have h3 := Lib.data_getElem? s k h
  rw [List.getElem?_eq_getElem h2] at h3
  rw [List.drop_eq_getElem_cons h2, show k + 1 - k = 1 by omega, Option.some.inj h3]
  rfl
theorem run_cat {P : Program} (a b : List UInt8) (h : a.length + b.length ≤ 70368744177664) (w : World) : (Op.stringOp .add ⟨a.toArray⟩ ⟨b.toArray⟩).run P w = .ok (.string ⟨(a ++ b).toArray⟩) w := by
  rw [run_string_add_sum w _ _ (by show a.toArray.size + b.toArray.size ≤ _; simp only [List.size_toArray]; omega)]
  congr 2

end Go.Proofs.YtpjikbfeegncbaaDoor
