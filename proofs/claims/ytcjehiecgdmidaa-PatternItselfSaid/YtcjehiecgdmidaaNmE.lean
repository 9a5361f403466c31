/- Contract of the reference's Range. -/
import Derived.Test.YtcjehiecgdmidaaNmD
set_option linter.unusedVariables false
set_option linter.unusedSimpArgs false
namespace Go.Proofs.Ytcjehiecgdmidaa
open Go.RowKit Go.Shelf Go.Sort

def both (a b : Option Int) : Int × Int × Int := match (a, b) with
  | (some m, some n) => if bdB m && bdB n then (m, n, 0) else (0, 0, 2)
  | _ => (0, 0, 3)
theorem idx58 (l : List UInt8) (k : Nat) (hk : k < l.length) (he : ((l[k]'hk).toNat : Int) = 58) (hno : ∀ j (hj : j < k), ((l[j]'(by omega)).toNat : Int) ≠ 58) :
    l.contains 58 = true ∧ l.takeWhile (· != 58) = l.take k ∧ (l.dropWhile (· != 58)).drop 1 = l.drop (k + 1) := by
  have h58 : l[k]'hk = 58 := (u8_eq _ 58 (by decide)).2 he
  have e : l = l.take k ++ 58 :: l.drop (k + 1) := by
    rw [← h58, ← List.drop_eq_getElem_cons hk, List.take_append_drop]
  have hp : ∀ c ∈ l.take k, c ≠ 58 := fun c hc h => by
    obtain ⟨j, hj, rfl⟩ := List.mem_iff_getElem.1 hc
    rw [List.length_take] at hj
    rw [List.getElem_take] at h
    exact hno j (by omega) ((u8_eq _ 58 (by decide)).1 h)
  obtain ⟨q1, q2, q3⟩ := split58 _ (l.drop (k + 1)) hp
  rw [← e] at q1 q2 q3
  exact ⟨q1, q2, q3⟩
/-- the parts of a bit range between the brackets -/
theorem range_parts (s : ByteArray) (m : ByteArray) (hm : m.data.toList ≠ []) (h : s.data.toList = 91 :: (m.data.toList ++ [93])) :
    ∃ x y : ByteArray, rangeW s.data.toList = both (numW x.data.toList) (numW y.data.toList) ∧ x.size ≤ m.size ∧ y.size ≤ m.size ∧
      ((idxI 58 m.data.toList = -1 ∧ x = m ∧ y = m) ∨ ∃ k : Nat, idxI 58 m.data.toList = k ∧ k < m.size ∧ m.extract 0 k = x ∧ m.extract (k + 1) m.size = y) := by
  have hR := rangeW_mid m.data.toList hm
  rw [h, hR]
  rcases idxI_cases 58 m.data.toList with ⟨hi, hno⟩ | ⟨k, hi, hk, he, hno⟩
  · refine ⟨m, m, ?_, Nat.le_refl _, Nat.le_refl _, .inl ⟨hi, rfl, rfl⟩⟩
    rw [if_neg]
    · rfl
    · intro hc
      have : (58 : UInt8) ∈ m.data.toList := by simpa using hc
      exact hno 58 this rfl
  · obtain ⟨q1, q2, q3⟩ := idx58 _ k hk he hno
    have hkz : k < m.size := by rw [← size_list]; exact hk
    refine ⟨m.extract 0 k, m.extract (k + 1) m.size, ?_, by rw [ByteArray.size_extract]; omega, by rw [ByteArray.size_extract]; omega, .inr ⟨k, hi, hkz, rfl, rfl⟩⟩
    rw [if_pos q1, q2, q3, Lib.extract_from_zero, Lib.extract_to_end]
    rfl

end Go.Proofs.Ytcjehiecgdmidaa
