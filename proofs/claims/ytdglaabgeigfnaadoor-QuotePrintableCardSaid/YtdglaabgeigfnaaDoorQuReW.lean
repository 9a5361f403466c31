/- The walk of the law QuoteReturns. -/
import Derived.Test.YtdglaabgeigfnaaDoorQuK
set_option linter.unusedVariables false
namespace Go.Proofs.YtdglaabgeigfnaaDoor.quoteReturns
open Go.RowKit Go.Shelf

theorem hexV_D : ∀ n, n < 16 → hexV (hexD n) = some n := by decide +kernel
theorem step1_quote (c : UInt8) (l : List UInt8) : step1 (quoteB c ++ l) = some (c, (quoteB c).length) := by
  unfold quoteB
  by_cases hc : c = 92
  · rw [if_pos hc, hc]; rfl
  · rw [if_neg hc]
    cases hp : prB c with
    | true =>
      rw [if_pos rfl]
      show step1 (c :: l) = _
      unfold step1; simp only; rw [if_neg hc, hp]; rfl
    | false =>
      rw [if_neg (by decide)]
      show step1 (92 :: 120 :: hexD (c.toNat / 16) :: hexD (c.toNat % 16) :: l) = _
      have hlt := c.toNat_lt
      unfold step1; simp only
      rw [if_pos trivial, if_neg (by decide), if_pos trivial, hexV_D _ (by omega), hexV_D _ (by omega)]
      simp only
      rw [show 16 * (c.toNat / 16) + c.toNat % 16 = c.toNat by omega, UInt8.ofNat_toNat]; rfl
theorem unq_quote_app (l r : List UInt8) : unq (quoteL l ++ r) = (unq r).map (l ++ ·) := by
  induction l with
  | nil => simp [quoteL]
  | cons c l ih =>
    have e : quoteL (c :: l) ++ r = quoteB c ++ (quoteL l ++ r) := by
      show (quoteB c ++ quoteL l) ++ r = _
      rw [List.append_assoc]
    rw [e, unq_step (step1_quote c _), List.drop_left, ih]
    cases unq r <;> simp
theorem unq_quote (l : List UInt8) : unq (quoteL l) = some l := by
  have := unq_quote_app l []
  rw [List.append_nil, unq_nil] at this
  rw [this]; simp
theorem unqRes_quote (s : ByteArray) : unqRes (quoteL s.data.toList) = if 64 < s.size then (⟨#[]⟩, 9) else (s, 0) := by
  unfold unqRes
  rw [unq_quote]
  simp only
  rw [← Lib.size_eq, bytes_of s _ rfl]

set_option maxHeartbeats 2000000 in
theorem walk (a0 : ByteArray) (w : World) (w0 : a0.size ≤ maxLen) :
    Calls Tryd.prog 5 #[.string a0] w fun e w' => e = .returned (.bool true) ∧ Below w.heap.size w w' := by
  unfold maxLen at w0
  by_cases h0 : (300 : Int) < (a0.size : Int)
  · go_enter Tryd.func5, Tryd.ntmps5
    go_wp2_with fail
    refine (awake_any _).mono ?_
    rintro e w1 ⟨rfl, hB1⟩
    have B1 := hide hB1
    clear hB1
    go_wp2
    go_ret
    exact ⟨rfl, B1.out⟩
  have Q := hide (fun W : World => Quote_any a0 W (by omega))
  have hql := quoteL_len a0.data.toList
  rw [← Lib.size_eq] at hql
  have U := hide (fun W : World => Unquote_any ⟨(quoteL a0.data.toList).toArray⟩ W (by show (quoteL a0.data.toList).toArray.size ≤ _; simp only [List.size_toArray]; omega))
  rw [show (⟨(quoteL a0.data.toList).toArray⟩ : ByteArray).data.toList = quoteL a0.data.toList from rfl, unqRes_quote] at U
  generalize (⟨(quoteL a0.data.toList).toArray⟩ : ByteArray) = q at Q U
  clear hql
  by_cases h1 : (64 : Int) < (a0.size : Int)
  · rw [if_pos (by omega)] at U
    go_enter Tryd.func5, Tryd.ntmps5
    go_wp2_with fail
    refine (awake_any _).mono ?_
    rintro e w1 ⟨rfl, hB1⟩
    have B1 := hide hB1
    clear hB1
    go_wp2_with fail
    refine (Q.out _).mono ?_
    rintro e w2 ⟨rfl, hB2⟩
    have B2 := hide hB2
    clear hB2
    go_wp2_with fail
    refine (U.out _).mono ?_
    rintro e w3 ⟨rfl, hB3⟩
    have B3 := hide hB3
    clear hB3
    go_wp2
    go_ret
    exact ⟨rfl, (B1.out.trans (B2.out.mono B1.out.size)).trans (B3.out.mono (Nat.le_trans B1.out.size B2.out.size))⟩
  · rw [if_neg (by omega)] at U
    go_enter Tryd.func5, Tryd.ntmps5
    go_wp2_with fail
    refine (awake_any _).mono ?_
    rintro e w1 ⟨rfl, hB1⟩
    have B1 := hide hB1
    clear hB1
    go_wp2_with fail
    refine (Q.out _).mono ?_
    rintro e w2 ⟨rfl, hB2⟩
    have B2 := hide hB2
    clear hB2
    go_wp2_with fail
    refine (U.out _).mono ?_
    rintro e w3 ⟨rfl, hB3⟩
    have B3 := hide hB3
    clear hB3
    go_wp2
    go_ret
    exact ⟨rfl, (B1.out.trans (B2.out.mono B1.out.size)).trans (B3.out.mono (Nat.le_trans B1.out.size B2.out.size))⟩
end Go.Proofs.YtdglaabgeigfnaaDoor.quoteReturns
