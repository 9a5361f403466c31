/- The walk of the law LexerSections. -/
import Derived.Test.YtbhmgooohhgpaaaLexO
namespace Go.Proofs.Ytbhmgooohhgpaaa.lexerSections
open Go.RowKit Go.Shelf
set_option linter.unusedVariables false

theorem secFrom_spec (z : List Wd) : ∀ (f k : Nat), z.length - k = f → k ≤ z.length →
    (∃ m, ∃ h : m < z.length, secFrom z f k = ((m : Int) + 1, true) ∧ k ≤ m ∧ (z[m].1.toList == [36, 101, 110, 100]) = true ∧ ∀ j, k ≤ j → j < m → ∀ h : j < z.length, (z[j].1.toList == [36, 101, 110, 100]) = false) ∨
    (secFrom z f k = ((z.length : Int), false) ∧ ∀ j, k ≤ j → ∀ h : j < z.length, (z[j].1.toList == [36, 101, 110, 100]) = false) := by
  intro f
  induction f with
  | zero =>
    intro k hf hk
    exact .inr ⟨rfl, fun j hj h => absurd h (by omega)⟩
  | succ f ih =>
    intro k hf hk
    have hlt : k < z.length := by omega
    cases he : (z[k].1.toList == [36, 101, 110, 100]) with
    | true => exact .inl ⟨k, hlt, by rw [← hf]; exact secFrom_hit z k hlt he, Nat.le_refl _, he, fun j h1 h2 => absurd h2 (by omega)⟩
    | false =>
      have e := secFrom_miss z k hlt he
      rw [hf, show z.length - (k + 1) = f by omega] at e
      rcases ih (k + 1) (by omega) (by omega) with ⟨m, hm, h1, h2, h3, h4⟩ | ⟨h1, h2⟩
      · refine .inl ⟨m, hm, e.trans h1, by omega, h3, fun j hj hjm h => ?_⟩
        rcases Nat.eq_or_lt_of_le hj with h' | h'
        · subst h'; exact he
        · exact h4 j h' hjm h
      · refine .inr ⟨e.trans h1, fun j hj h => ?_⟩
        rcases Nat.eq_or_lt_of_le hj with h' | h'
        · subst h'; exact he
        · exact h2 j h' h

set_option maxHeartbeats 2000000 in
theorem walk_in (a0 : Option Addr) (cap0 : Nat) (z : List Wd) (i : Nat) (w : World) (w0 : WSl w a0 z) (hl : z.length ≤ 200) (hi : i < z.length) :
    Calls Try.prog 5 #[.slice a0 z.length cap0, .int .i64 i] w fun e w' => e = .returned (.bool true) ∧ Below w.heap.size w w' := by
  obtain ⟨b, off, rfl, hat⟩ := w0 (by omega)
  have hbw : b < w.heap.size := World.block_lt_of_cell? w _ (hat 0 (by omega)).1
  have hsec : secS z i = secFrom z (z.length - (i + 1)) (i + 1) := by unfold secS; rw [if_pos ⟨by omega, by omega⟩]; rfl
  have hkeep : ∀ w' : World, Below w.heap.size w w' → ∀ k, ∀ h : k < z.length, w'.cell? ⟨b, off + k * 4, none⟩ = some (.string z[k].1) := fun w' hb k h => (hb.cell (p := ⟨b, _, none⟩) hbw).trans (hat k h).1
  have hkw : ∀ w' : World, Below w.heap.size w w' → WSl w' (some ⟨b, off, none⟩) z := fun w' hb => w0.keep (B := w.heap.size) (fun a e => by cases e; exact hbw) hb
  have Hk := hide hkeep
  have Hw := hide hkw
  clear hkeep hkw hat
  have h1 : ¬ (200 : Int) < (z.length : Int) := by omega
  rcases secFrom_spec z (z.length - (i + 1)) (i + 1) rfl (by omega) with ⟨m, hm, e1, e2, e3, e4⟩ | ⟨e1, e2⟩
  · have Hs := hide (hsec.trans e1)
    have E4 := hide e4
    clear hsec e1 e4
    go_enter Try.func5, Try.ntmps5
    go_wp2_with fail
    refine (awake_any _).mono ?_
    rintro e w1 ⟨rfl, hb1⟩
    go_wp2_with fail
    refine (Section_any _ _ cap0 z i _ (Hw.out _ hb1) rfl (by omega) (by omega) (by omega)).mono ?_
    rintro e w2 ⟨rfl, rfl⟩
    rw [Hs.out]
    have hcm := Hk.out _ hb1 m hm
    have q1 : ¬ ((m : Int) + 1 < (i : Int) + 2) := by omega
    go_wp2
    go_loop [8] (fun v => ∃ k : Nat, i + 1 ≤ k ∧ k ≤ m ∧ v = .int .i64 k) (fun v => m - (intOf v).toNat)
    case atStart => exact ⟨i + 1, by omega, e2, by go_num⟩
    case round =>
      obtain ⟨k, hk1, hk, rfl⟩ := hrel
      by_cases hlt : k < m
      · have hck := Hk.out _ hb1 k (by omega)
        have hek := E4.out k hk1 hlt (by omega)
        clear hcm
        go_wp2
        go_round
        case rel => exact ⟨k + 1, by omega, by omega, by go_num⟩
        case measure => simp [intOf]; omega
      · obtain rfl : k = m := by omega
        go_wp2
        go_ret
        exact ⟨rfl, hb1⟩
  · have Hs := hide (hsec.trans e1)
    have E2 := hide e2
    clear hsec e1 e2
    go_enter Try.func5, Try.ntmps5
    go_wp2_with fail
    refine (awake_any _).mono ?_
    rintro e w1 ⟨rfl, hb1⟩
    go_wp2_with fail
    refine (Section_any _ _ cap0 z i _ (Hw.out _ hb1) rfl (by omega) (by omega) (by omega)).mono ?_
    rintro e w2 ⟨rfl, rfl⟩
    rw [Hs.out]
    go_wp2
    go_loop [8] (fun v => ∃ k : Nat, i + 1 ≤ k ∧ k ≤ z.length ∧ v = .int .i64 k) (fun v => z.length - (intOf v).toNat)
    case atStart => exact ⟨i + 1, by omega, by omega, by go_num⟩
    case round =>
      obtain ⟨k, hk1, hk, rfl⟩ := hrel
      by_cases hlt : k < z.length
      · have hck := Hk.out _ hb1 k (by omega)
        have hek := E2.out k hk1 hlt
        go_wp2
        go_round
        case rel => exact ⟨k + 1, by omega, by omega, by go_num⟩
        case measure => simp [intOf]; omega
      · obtain rfl : k = z.length := by omega
        go_wp2
        go_ret
        exact ⟨rfl, hb1⟩

theorem walk (a0 : Option Addr) (len0 cap0 : Nat) (z0 : List Wd) (a1 : Int) (w : World) (hz0 : z0.length = len0) (hm0 : len0 ≤ maxLen) (w0 : WSl w a0 z0) (w1 : (Lit.int .i64 a1).wf = true) :
    Calls Try.prog 5 #[.slice a0 len0 cap0, .int .i64 a1] w fun e w' => e = .returned (.bool true) ∧ Below w.heap.size w w' := by
  unfold maxLen at hm0
  obtain ⟨hb0, hb1⟩ := i64_bounds w1
  subst hz0
  by_cases hl : z0.length ≤ 200
  · by_cases hi : a1 < 0 ∨ (z0.length : Int) ≤ a1
    · have hs := secS_out z0 a1 hi
      have Hs := hide hs
      have hA : ∀ w' : World, Below w.heap.size w w' → WSl w' a0 z0 := by
        intro w' hb
        rcases Nat.eq_zero_or_pos z0.length with h | h
        · exact fun h' => absurd h' (by omega)
        · obtain ⟨b, off, rfl, hc⟩ := w0 (by omega)
          exact w0.keep (B := w.heap.size) (fun a e => by cases e; exact World.block_lt_of_cell? w _ (hc 0 (by omega)).1) hb
      have HA := hide hA
      clear hs hA w1
      have h1 : ¬ (200 : Int) < (z0.length : Int) := by omega
      by_cases h0 : a1 < 0
      · clear hi
        go_enter Try.func5, Try.ntmps5
        go_wp2_with fail
        refine (awake_any _).mono ?_
        rintro e w1 ⟨rfl, hb1⟩
        go_wp2_with fail
        refine (Section_any _ _ cap0 z0 a1 _ (HA.out _ hb1) rfl (by omega) (by omega) (by omega)).mono ?_
        rintro e w2 ⟨rfl, rfl⟩
        rw [Hs.out]
        go_wp2
        go_ret
        exact ⟨rfl, hb1⟩
      · have h2 : (z0.length : Int) ≤ a1 := by omega
        clear hi
        go_enter Try.func5, Try.ntmps5
        go_wp2_with fail
        refine (awake_any _).mono ?_
        rintro e w1 ⟨rfl, hb1⟩
        go_wp2_with fail
        refine (Section_any _ _ cap0 z0 a1 _ (HA.out _ hb1) rfl (by omega) (by omega) (by omega)).mono ?_
        rintro e w2 ⟨rfl, rfl⟩
        rw [Hs.out]
        go_wp2
        go_ret
        exact ⟨rfl, hb1⟩
    · obtain ⟨i, rfl⟩ := Int.eq_ofNat_of_zero_le (show 0 ≤ a1 by omega)
      exact walk_in a0 cap0 z0 i w w0 hl (by omega)
  · have h1 : (200 : Int) < (z0.length : Int) := by omega
    go_enter Try.func5, Try.ntmps5
    go_wp2_with (go_at_call 9; refine (awake_any _).mono ?_; rintro e w1 ⟨rfl, hb1⟩)
    go_ret
    exact ⟨rfl, hb1⟩
end Go.Proofs.Ytbhmgooohhgpaaa.lexerSections
