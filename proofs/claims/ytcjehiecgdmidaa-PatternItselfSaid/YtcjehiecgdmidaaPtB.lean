/- Contract of pattern's element. -/
import Derived.Test.YtcjehiecgdmidaaPtQ
import Derived.Test.YtcjehiecgdmidaaPtA
import Derived.Test.YtcjehiecgdmidaaShelfP
set_option linter.unusedVariables false
set_option linter.unusedSimpArgs false
namespace Go.Proofs.Ytcjehiecgdmidaa
open Go.RowKit Go.Shelf

theorem elSet_mem (c : UInt8) : decide (0 ≤ Lib.indexByte [46, 92, 91, 93] c) = (c == 46 || c == 92 || c == 91 || c == 93) := by
  by_cases h : c = 46 ∨ c = 92 ∨ c = 91 ∨ c = 93
  · rcases h with rfl | rfl | rfl | rfl <;> decide
  · have hd : (c == 46 || c == 92 || c == 91 || c == 93) = false := by
      rw [Bool.eq_false_iff]; intro h2
      simp only [Bool.or_eq_true, beq_iff_eq] at h2
      rcases h2 with ((h2 | h2) | h2) | h2
      · exact h (.inl h2)
      · exact h (.inr (.inl h2))
      · exact h (.inr (.inr (.inl h2)))
      · exact h (.inr (.inr (.inr h2)))
    rw [hd]
    refine decide_eq_false ?_
    intro h0
    have h2 := Lib.indexByte_some (l := [46, 92, 91, 93]) (c := c) (o := (Lib.indexByte [46, 92, 91, 93] c).toNat) (by omega)
    have hm : c ∈ ([46, 92, 91, 93] : List UInt8) := List.mem_of_getElem? h2.1
    simp only [List.mem_cons, List.not_mem_nil, or_false] at hm
    exact h hm
theorem element_any (c : UInt8) (w : World) :
    Calls Try.prog 47 #[.int .u8 (c.toNat : Int)] w fun e w' => e = .returned (.bool (elB c)) ∧ w' = w := by
  by_cases h1 : 33 ≤ c.toNat
  · have h1' : (33 : Int) ≤ (c.toNat : Int) := by omega
    by_cases h2 : c.toNat ≤ 126
    · have h2' : (c.toNat : Int) ≤ 126 := by omega
      have CR := hide (fun W : World => Try.strings_ContainsRune_ascii ⟨#[46, 92, 91, 93]⟩ ((c.toNat : Nat) : Int) W (by omega) (by omega))
      rw [show (((c.toNat : Nat) : Int)).toNat.toUInt8 = c by simp, show (⟨#[46, 92, 91, 93]⟩ : ByteArray).data.toList = [46, 92, 91, 93] from rfl, elSet_mem] at CR
      have HV := hide (show elB c = !(c == 46 || c == 92 || c == 91 || c == 93) by unfold elB; rw [decide_eq_true ⟨h1, h2⟩, Bool.true_and])
      have hw : IntKind.i32.wrap (c.toNat : Int) = (c.toNat : Int) := by rw [IntKind.wrap_i32]; omega
      generalize (c == 46 || c == 92 || c == 91 || c == 93) = q at *
      go_enter Try.func47, Try.ntmps47
      go_wp2_with fail
      refine (CR.out _).mono ?_
      rintro e wx ⟨rfl, rfl⟩
      go_wp2
      go_ret
      exact ⟨ret_b HV.out, rfl⟩
    · have h2' : ¬ (c.toNat : Int) ≤ 126 := by omega
      have HV := hide (show elB c = false by unfold elB; rw [decide_eq_false (fun h => h2 h.2), Bool.false_and])
      go_enter Try.func47, Try.ntmps47
      go_wp2
      go_ret
      exact ⟨ret_b HV.out, rfl⟩
  · have h1' : ¬ (33 : Int) ≤ (c.toNat : Int) := by omega
    have HV := hide (show elB c = false by unfold elB; rw [decide_eq_false (fun h => h1 h.1), Bool.false_and])
    go_enter Try.func47, Try.ntmps47
    go_wp2
    go_ret
    exact ⟨ret_b HV.out, rfl⟩
end Go.Proofs.Ytcjehiecgdmidaa
