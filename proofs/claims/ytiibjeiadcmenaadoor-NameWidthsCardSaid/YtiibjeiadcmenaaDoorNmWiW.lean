/- The walk of NameWidths. -/
import Derived.Test.YtiibjeiadcmenaaDoorNmK
set_option linter.unusedVariables false
set_option linter.unusedSimpArgs false
namespace Go.Proofs.YtiibjeiadcmenaaDoor.nameWidths
open Go.RowKit Go.Shelf Go.Sort

theorem inside_any (n : Int) (w : World) :
    Calls Tryd.prog 15 #[.int .i64 n] w fun e w' => e = .returned (.bool (bdB n)) ∧ w' = w := by
  go_enter Tryd.func15, Tryd.ntmps15
  go_wp2
  all_goals go_ret
  all_goals refine ⟨ret_b ?_, rfl⟩
  all_goals (rw [Bool.eq_iff_iff]; simp [bdB]; omega)
theorem width_sym (m n : Int) : widthS n m = widthS m n := by
  unfold widthS
  rw [Bool.and_comm]
  split
  · split <;> split <;> omega
  · rfl
theorem width_zero (m n : Int) : (widthS m n == 0) = !(bdB m && bdB n) := by
  unfold widthS
  cases h : bdB m && bdB n with
  | false => rfl
  | true =>
    rw [if_pos rfl]
    rw [Bool.not_true, beq_eq_false_iff_ne]
    split <;> omega
theorem width_yes (m n : Int) (h : (bdB m && bdB n) = true) : widthS m n = max m n - min m n + 1 := by
  unfold widthS
  rw [h, if_pos rfl]
  split <;> omega
theorem fmtR_empty (m n : Int) : (fmtR m n).toList.isEmpty = !(bdB m && bdB n) := by
  rw [isEmpty_dec]
  unfold fmtR
  cases h : bdB m && bdB n with
  | false => rfl
  | true =>
    rw [if_pos rfl, Bool.not_true, decide_eq_false_iff_not]
    have z : ∀ c : UInt8, (⟨#[c]⟩ : ByteArray).size = 1 := fun _ => rfl
    intro e
    have := congrArg ByteArray.size e
    have z0 : (⟨#[]⟩ : ByteArray).size = 0 := rfl
    split at this <;> simp only [ByteArray.size_append, z, z0] at this <;> omega

set_option maxRecDepth 20000 in
set_option maxHeartbeats 8000000 in
theorem walk (m n : Int) (w : World) (_ : (Lit.int .i64 m).wf = true) (_ : (Lit.int .i64 n).wf = true) (hg : Gl w) :
    Calls Tryd.prog 4 #[.int .i64 m, .int .i64 n] w fun e w' => e = .returned (.bool true) ∧ Below w.heap.size w w' := by
  have A := hide (awake_any w hg)
  have G := hide hg
  clear hg
  have B0 := hide (Below.refl w.heap.size w)
  have X := hide (fun (W : World) => Width_any m n W)
  have X2 := hide (fun (W : World) => Width_any n m W)
  rw [width_sym] at X2
  have F := hide (fun (W : World) (h : Gl W) => FormatRange_any m n W h)
  have I1 := hide (fun (W : World) => inside_any m W)
  have I2 := hide (fun (W : World) => inside_any n W)
  have hw0 := width_zero m n
  have hf0 := fmtR_empty m n
  have hwy := width_yes m n
  generalize widthS m n = x at *
  generalize fmtR m n = f at *
  cases hm : bdB m with
  | false =>
    rw [hm] at I1 hw0 hf0 hwy
    rw [Bool.false_and, Bool.not_false] at hw0 hf0
    clear hm hwy
    go_enter Tryd.func4, Tryd.ntmps4
    go_wp2_with fail
    refine (A.out).mono ?_
    rintro e w1 ⟨rfl, hb⟩
    have B1 := hide (B0.out.trans (hb.mono B0.out.size))
    clear hb
    go_wp2_with fail
    refine (X.out _).mono ?_
    rintro e wx ⟨rfl, rfl⟩
    go_wp2_with fail
    refine (X2.out _).mono ?_
    rintro e wx ⟨rfl, rfl⟩
    go_wp2_with fail
    refine (F.out _ (G.out.below B1.out)).mono ?_
    rintro e w2 ⟨rfl, hb⟩
    have B2 := hide (B1.out.trans (hb.mono B1.out.size))
    clear hb
    go_wp2_with fail
    refine (I1.out _).mono ?_
    rintro e wx ⟨rfl, rfl⟩
    go_wp2
    go_ret
    exact ⟨rfl, B2.out⟩
  | true =>
    rw [hm] at I1 hw0 hf0 hwy
    cases hn : bdB n with
    | false =>
      rw [hn] at I2 hw0 hf0 hwy
      rw [Bool.and_false, Bool.not_false] at hw0 hf0
      clear hm hn hwy
      go_enter Tryd.func4, Tryd.ntmps4
      go_wp2_with fail
      refine (A.out).mono ?_
      rintro e w1 ⟨rfl, hb⟩
      have B1 := hide (B0.out.trans (hb.mono B0.out.size))
      clear hb
      go_wp2_with fail
      refine (X.out _).mono ?_
      rintro e wx ⟨rfl, rfl⟩
      go_wp2_with fail
      refine (X2.out _).mono ?_
      rintro e wx ⟨rfl, rfl⟩
      go_wp2_with fail
      refine (F.out _ (G.out.below B1.out)).mono ?_
      rintro e w2 ⟨rfl, hb⟩
      have B2 := hide (B1.out.trans (hb.mono B1.out.size))
      clear hb
      go_wp2_with fail
      refine (I1.out _).mono ?_
      rintro e wx ⟨rfl, rfl⟩
      go_wp2_with fail
      refine (I2.out _).mono ?_
      rintro e wx ⟨rfl, rfl⟩
      go_wp2
      go_ret
      exact ⟨rfl, B2.out⟩
    | true =>
      rw [hn] at I2 hw0 hf0 hwy
      rw [Bool.and_true, Bool.not_true] at hw0 hf0
      obtain ⟨m1, m2⟩ := bdB_bd hm
      obtain ⟨n1, n2⟩ := bdB_bd hn
      have hx := hwy rfl
      have HX := hide (show (x == max m n - min m n + 1) = true from beq_iff_eq.2 hx)
      clear hm hn hwy hx
      go_enter Tryd.func4, Tryd.ntmps4
      go_wp2_with fail
      refine (A.out).mono ?_
      rintro e w1 ⟨rfl, hb⟩
      have B1 := hide (B0.out.trans (hb.mono B0.out.size))
      clear hb
      go_wp2_with fail
      refine (X.out _).mono ?_
      rintro e wx ⟨rfl, rfl⟩
      go_wp2_with fail
      refine (X2.out _).mono ?_
      rintro e wx ⟨rfl, rfl⟩
      go_wp2_with fail
      refine (F.out _ (G.out.below B1.out)).mono ?_
      rintro e w2 ⟨rfl, hb⟩
      have B2 := hide (B1.out.trans (hb.mono B1.out.size))
      clear hb
      go_wp2_with fail
      refine (I1.out _).mono ?_
      rintro e wx ⟨rfl, rfl⟩
      go_wp2_with fail
      refine (I2.out _).mono ?_
      rintro e wx ⟨rfl, rfl⟩
      go_wp2
      go_ret
      exact ⟨by rw [← HX.out]; rfl, B2.out⟩
end Go.Proofs.YtiibjeiadcmenaaDoor.nameWidths
