/- Contracts of package quote and of the reference 16: printable, words, digits; a row of bytes made a string. -/
import Derived.Test.YtpjikbfeegncbaaGreatDoorQuP
import Derived.Test.YtpjikbfeegncbaaGreatDoorShelfQ
import Derived.Lib.IndexBytes
import Derived.Laws.Runes
import Derived.WalkMore
import Derived.Deep.QuietTactic
import Derived.BigQuiet
set_option linter.unusedVariables false
namespace Go.Proofs.YtpjikbfeegncbaaGreatDoor
open Go.RowKit Go.Shelf

theorem ret_b {a b : Bool} (h : a = b) : Ending.returned (.bool b) = .returned (.bool a) := by rw [h]
theorem allPr_of (s : ByteArray) (h : ∀ j, ∀ hj : j < s.size, prB (s[j]'hj) = true) : allPr s.data.toList = true := by
  unfold allPr
  rw [List.all_eq_true]
  intro c hc
  obtain ⟨j, hj, rfl⟩ := List.mem_iff_getElem.1 hc
  exact h j (by simpa using hj)
theorem allPr_not (s : ByteArray) (j : Nat) (hj : j < s.size) (h : prB (s[j]'hj) = false) : allPr s.data.toList = false := by
  unfold allPr
  rw [List.all_eq_false]
  exact ⟨s[j]'hj, List.mem_of_getElem? (Lib.data_getElem? s j hj), by rw [h]; decide⟩
theorem prB_true {c : UInt8} (h : prB c = true) : (33 : Int) ≤ (c.toNat : Int) ∧ (c.toNat : Int) ≤ 126 := by have := of_decide_eq_true h; omega
theorem prB_false {c : UInt8} (h : prB c = false) : (c.toNat : Int) < 33 ∨ 126 < (c.toNat : Int) := by have := of_decide_eq_false h; omega

set_option maxHeartbeats 4000000 in
set_option maxRecDepth 100000 in
theorem printable_any (s : ByteArray) (w : World) :
    Calls Tryz.prog 134 #[.string s] w fun e w' => e = .returned (.bool (allPr s.data.toList)) ∧ Below w.heap.size w w' := by
  go_enter Tryz.func134, Tryz.ntmps134
  go_wp2
  go_loopg [4] s.size (fun g _ wx => ∃ i : Nat, i + g = s.size ∧ wx = w.iter s i ∧ ∀ j, j < i → ∀ hj : j < s.size, prB (s[j]'hj) = true)
  case atStart => exact ⟨0, by omega, rfl, fun j h => absurd h (by omega)⟩
  case round =>
    obtain ⟨i, hig, rfl, hpr⟩ := hrel
    have Hpr := hide hpr
    clear hpr
    cases gk with
    | zero =>
      obtain rfl : i = s.size := by omega
      have hnx := run_next_end (P := Tryz.prog) w s s.size
      go_wp2
      go_ret
      exact ⟨ret_b (allPr_of s fun j hj => Hpr.out j hj hj), (Below.refl _ _).alloc (Nat.le_refl _) _⟩
    | succ g =>
      have hi : i < s.size := by omega
      cases hp : prB (s[i]'hi) with
      | true =>
        obtain ⟨p1, p2⟩ := prB_true hp
        have hnx := fun ty => run_next_ascii (P := Tryz.prog) w s i ty hi (by omega)
        have Hp := hide hp
        clear hp
        go_wp2
        go_roundg g
        case measure => omega
        case rel =>
          refine ⟨i + 1, by omega, rfl, fun j hj hj' => ?_⟩
          rcases Nat.lt_or_ge j i with h | h
          · exact Hpr.out j h hj'
          · obtain rfl : j = i := by omega
            exact Hp.out
      | false =>
        have p := prB_false hp
        have Hf := hide (allPr_not s i hi hp)
        clear hp
        by_cases hx : (s[i]'hi).toNat < 128
        · have hnx := fun ty => run_next_ascii (P := Tryz.prog) w s i ty hi hx
          rcases p with p | p
          all_goals
            go_wp2
            go_ret
            exact ⟨ret_b Hf.out, (Below.refl _ _).alloc (Nat.le_refl _) _⟩
        · have hnx := fun ty => run_next_any (P := Tryz.prog) w s i ty hi
          have hdh := decode_high s i hi (by omega)
          generalize Utf8.decode s i = d at hnx hdh
          have q : (126 : Int) < (d.1 : Int) := by omega
          clear p hdh hx
          go_wp2
          go_ret
          exact ⟨ret_b Hf.out, (Below.refl _ _).alloc (Nat.le_refl _) _⟩

theorem wordB_at (s : ByteArray) (h : 0 < s.size) : wordB s.data.toList = (!((s[0]'h) == 36) && allPr s.data.toList) := by
  have h0 := Lib.data_getElem? s 0 h
  cases hl : s.data.toList with
  | nil => rw [hl] at h0; cases h0
  | cons c l =>
    rw [hl] at h0
    have : s[0]'h = c := by simpa using h0.symm
    rw [this]; rfl
theorem empty_of {s : ByteArray} (h : ¬ 0 < s.size) : s = ⟨#[]⟩ := ByteArray.ext (Array.eq_empty_of_size_eq_zero (by have : s.data.size = s.size := rfl; omega))
theorem toList_ne {s : ByteArray} (h : 0 < s.size) : ¬ s.toList = [] ∧ s.toList.isEmpty = false := by
  have h0 : ¬ s.toList = [] := by
    rw [Lib.toList_data]; intro e; rw [Lib.size_eq, e] at h; exact absurd h (by simp)
  refine ⟨h0, ?_⟩
  cases hh : s.toList with
  | nil => exact absurd hh h0
  | cons => rfl

theorem refPrintable_u8 (c : UInt8) (w : World) :
    Calls Tryz.prog 64 #[.int .u8 c.toNat] w fun e w' => e = .returned (.bool (prB c)) ∧ w' = w := by
  go_enter Tryz.func64, Tryz.ntmps64
  go_wp2
  all_goals go_ret
  all_goals refine ⟨ret_b ?_, rfl⟩
  all_goals (rw [Bool.eq_iff_iff]; simp [prB]; omega)

end Go.Proofs.YtpjikbfeegncbaaGreatDoor
