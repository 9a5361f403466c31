/- Contracts of the reference's power, split, Decimal, units, Show, Format. -/
import Derived.Test.YtglfnbhcdblpiaaDoorTsE
set_option linter.unusedVariables false
namespace Go.Proofs.YtglfnbhcdblpiaaDoor
open Go.RowKit Go.Shelf Go.Sort

set_option maxHeartbeats 1000000 in
theorem refPower_any (n : Nat) (w : World) (hn : n ≤ 18) :
    Calls Tryd.prog 44 #[.int .i64 n] w fun e w' => e = .returned (.int .i64 (p10 n)) ∧ w' = w := by
  go_enter Tryd.func44, Tryd.ntmps44
  go_wp2
  go_loop [3, 4] (fun p v => ∃ k : Nat, v = .int .i64 k ∧ k ≤ n ∧ p = .int .i64 (p10 k)) (fun _ v => n - (intOf v).toNat)
  case atStart => exact ⟨0, rfl, Nat.zero_le _, rfl⟩
  case round =>
    obtain ⟨k, rfl, hk, rfl⟩ := hrel
    by_cases hlt : k < n
    · have h2 := p10_le (n := k + 1) (by omega)
      have h4 : p10 (k + 1) = p10 k * 10 := rfl
      have h1 := p10_pos k
      have H4 := hide h4
      have h5 : p10 k * 10 ≤ 1000000000000000000 := by omega
      clear h2 h4
      generalize p10 k = p at H4 h1 h5
      go_wp2
      go_round
      case rel => exact ⟨k + 1, by go_num, by omega, by rw [H4.out]⟩
      case measure => simp [intOf]; omega
    · obtain rfl : k = n := Nat.le_antisymm hk (Nat.le_of_not_lt hlt)
      go_wp2
      go_ret
      exact ⟨rfl, rfl⟩

set_option maxHeartbeats 1000000 in
theorem split_any (s : Int) (w : World) (h1 : -15 ≤ s) (h2 : s ≤ 2) :
    Calls Tryd.prog 26 #[.int .i64 s] w fun e w' => e = .returned (.tuple #[.int .i64 (unitIx s), .int .i64 (facS s)]) ∧ w' = w := by
  obtain ⟨u1, u2, u3, u4⟩ := unitIx_spec s h1 h2
  obtain ⟨k1, k2⟩ := fac_lt s h1 h2
  have P := hide (fun W : World => (show Calls Tryd.prog 44 #[.int .i64 (s + 3 * (unitIx s : Int))] W _ from k2 ▸ refPower_any (s + 3 * (unitIx s : Int)).toNat W (by omega)))
  have hfd : p10 (s + 3 * (unitIx s : Int)).toNat = facS s := rfl
  rw [hfd] at P
  generalize facS s = f at P ⊢
  clear hfd k1 k2
  generalize unitIx s = x at *
  have U4 := hide u4
  clear u4
  go_enter Tryd.func26, Tryd.ntmps26
  go_wp2
  go_loop [4] (fun v => ∃ k : Nat, v = .int .i64 k ∧ k ≤ x) (fun v => x - (intOf v).toNat)
  case atStart => exact ⟨0, rfl, Nat.zero_le _⟩
  case round =>
    obtain ⟨k, rfl, hk⟩ := hrel
    by_cases hlt : k < x
    · have hno : s < -(3 * (k : Int)) := by have := U4.out k hlt; omega
      go_wp2
      go_round
      case rel => exact ⟨k + 1, by go_num, by omega⟩
      case measure => simp [intOf]; omega
    · obtain rfl : k = x := Nat.le_antisymm hk (Nat.le_of_not_lt hlt)
      go_wp2_with fail
      refine (P.out _).mono ?_
      rintro e w1 ⟨rfl, rfl⟩
      go_wp2
      go_ret2
      exact ⟨rfl, rfl⟩

theorem refUnits_any (w : World) :
    Calls Tryd.prog 28 #[] w fun e w' => e = .returned (.slice (some ⟨w.heap.size, 0, none⟩) 6 6) ∧ Row w' w.heap.size 9 ((List.range 6).map fun i => Value.string (uname i)).toArray ∧ Below w.heap.size w w' := by
  go_enter Tryd.func28, Tryd.ntmps28
  go_wp2
  go_ret
  exact ⟨rfl, Row.new _ _ _, (Below.refl _ _).alloc (Nat.le_refl _) _⟩

theorem dec_small (n : Nat) (h : n < 10) : decB n = ⟨#[UInt8.ofNat (48 + n % 10)]⟩ := by
  unfold decB
  rw [Lib.itoa_nonneg, Lib.decDigits, dif_pos h, Nat.mod_eq_of_lt h]
theorem dec_big (n : Nat) (h : ¬ n < 10) : decB n = decB ((n / 10 : Nat) : Int) ++ ⟨#[UInt8.ofNat (48 + n % 10)]⟩ := by
  unfold decB
  rw [Lib.itoa_nonneg, Lib.itoa_nonneg, Lib.decDigits, dif_neg h]
  apply ByteArray.ext
  simp

theorem conv1 (w : World) (c : UInt8) : (convert 57 9 (.slice (some ⟨w.heap.size, 0, none⟩) 1 1)).run Tryd.prog (w.alloc (.cells #[.int .u8 (c.toNat : Int)] 5)) = .ok (.string ⟨#[c]⟩) (w.alloc (.cells #[.int .u8 (c.toNat : Int)] 5)) := by
  refine run_convert_bytes_back _ _ _ 5 ⟨w.heap.size, 0, none⟩ 1 [c] (by kernel_rfl) (by kernel_rfl) (by kernel_rfl) ?_
  intro j hj
  obtain rfl : j = 0 := by simpa using hj
  exact (Row.new w 5 #[.int .u8 (c.toNat : Int)]).cell 0

set_option maxHeartbeats 1000000 in
set_option maxRecDepth 20000 in
theorem Decimal_any (n : Nat) : ∀ (w : World) (hn : n ≤ 999999999999999),
    Calls Tryd.prog 27 #[.int .i64 n] w fun e w' => e = .returned (.string (decB n)) ∧ Below w.heap.size w w' := by
  induction n using Nat.strongRecOn with
  | _ n ih =>
  intro w hn
  obtain ⟨c, hc⟩ : ∃ c : UInt8, UInt8.ofNat (48 + n % 10) = c := ⟨_, rfl⟩
  have hct : (c.toNat : Int) = 48 + (n : Int) % 10 := by
    rw [← hc, UInt8.toNat_ofNat', Nat.mod_eq_of_lt (by omega)]
    omega
  have hw : IntKind.u8.wrap (48 + (n : Int) % 10) = (c.toNat : Int) := by rw [hct, IntKind.wrap_u8]; omega
  have hcv := conv1 w c
  by_cases h : n < 10
  · rw [dec_small n h, hc]
    clear hc hct ih
    go_enter Tryd.func27, Tryd.ntmps27
    go_wp2
    go_ret
    exact ⟨rfl, (Below.refl _ _).alloc (Nat.le_refl _) _⟩
  · have D := hide (fun W : World => ih (n / 10) (by omega) W (by omega))
    have hq : ((n / 10 : Nat) : Int) = (n : Int) / 10 := by omega
    rw [hq] at D
    have z1 := decB_size ((n : Int) / 10) (by omega) (by omega)
    have c1 := fun W => cat_run (P := Tryd.prog) (decB ((n : Int) / 10)) ⟨#[c]⟩ (by show _ + 1 ≤ _; omega) W
    rw [dec_big n h, hc, hq]
    clear hc hct ih z1 hq
    go_enter Tryd.func27, Tryd.ntmps27
    go_wp2_with fail
    refine (D.out _).mono ?_
    rintro e w1 ⟨rfl, hb⟩
    have HB := hide (((Below.refl w.heap.size w).alloc (Nat.le_refl _) (.cells #[.int .u8 (c.toNat : Int)] 5)).trans (hb.mono (by rw [World.size_alloc]; exact Nat.le_succ _)))
    clear hb
    go_wp2
    go_ret
    exact ⟨rfl, HB.out⟩
theorem Decimal_i (i : Int) (w : World) (h0 : 0 ≤ i) (h1 : i ≤ 999999999999999) :
    Calls Tryd.prog 27 #[.int .i64 i] w fun e w' => e = .returned (.string (decB i)) ∧ Below w.heap.size w w' := by
  obtain ⟨n, rfl⟩ : ∃ n : Nat, i = n := ⟨i.toNat, by omega⟩
  exact Decimal_any n w (by omega)
end Go.Proofs.YtglfnbhcdblpiaaDoor
