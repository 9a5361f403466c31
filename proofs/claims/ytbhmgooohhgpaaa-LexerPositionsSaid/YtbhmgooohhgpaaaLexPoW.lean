/- The walk of the law LexerPositions. -/
import Derived.Test.YtbhmgooohhgpaaaLexO
namespace Go.Proofs.Ytbhmgooohhgpaaa.lexerPositions
open Go.RowKit Go.Shelf
set_option linter.unusedVariables false

theorem walk (a0 : ByteArray) (a1 : Int) (a2 : Option Addr) (len2 cap2 : Nat) (z2 : List Wd) (a3 : Int) (w : World) (w0 : a0.size ≤ maxLen) (w1 : (Lit.int .i64 a1).wf = true) (hz2 : z2.length = len2) (hm2 : len2 ≤ maxLen) (w2 : WSl w a2 z2) (w3 : (Lit.int .i64 a3).wf = true) :
    Calls Try.prog 4 #[.string a0, .int .i64 a1, .slice a2 len2 cap2, .int .i64 a3] w fun e w' => e = .returned (.bool true) ∧ Below w.heap.size w w' := by
  unfold maxLen at w0 hm2
  obtain ⟨hb0, hb1⟩ := i64_bounds w3
  have hA : ∀ a, a2 = some a → len2 = 0 ∨ a.block < w.heap.size := by
    rintro a rfl
    rcases Nat.eq_zero_or_pos len2 with h | h
    · exact .inl h
    · obtain ⟨b, off, e, hc⟩ := w2 (by omega)
      obtain rfl : a = ⟨b, off, none⟩ := by injection e
      exact .inr (World.block_lt_of_cell? w _ (hc 0 (by omega)).1)
  have HA := hide hA
  have Hz2 := hide hz2
  clear hz2 hA w1 w3
  by_cases hsz : a0.size ≤ 2000
  · by_cases hl : len2 ≤ 200
    · have h1 : ¬ (2000 : Int) < (a0.size : Int) := by omega
      have h2 : ¬ (200 : Int) < (len2 : Int) := by omega
      have hkeep : ∀ w' : World, Below w.heap.size w w' → WSl w' a2 z2 := by
        intro w' hb
        rcases Nat.eq_zero_or_pos len2 with h | h
        · exact fun h' => absurd h' (by rw [Hz2.out]; omega)
        · exact w2.keep (B := w.heap.size) (fun a e => (HA.out a e).elim (fun h' => by omega) id) hb
      have Hk := hide hkeep
      clear hkeep
      go_enter Try.func4, Try.ntmps4
      go_wp2_with fail
      refine (awake_any _).mono ?_
      rintro e w1 ⟨rfl, hb1⟩
      go_wp2_with fail
      refine (Position_any a0 (by omega) a1 _).mono ?_
      rintro e w2 ⟨rfl, hb2⟩
      go_wp2_with fail
      refine (refPosition_any a0 (by omega) a1 _).mono ?_
      rintro e w3 ⟨rfl, rfl⟩
      have hb := hb1.trans (hb2.mono hb1.size)
      go_wp2_with fail
      refine (Section_any a2 len2 cap2 z2 a3 _ (Hk.out _ hb) Hz2.out.symm (by rw [Hz2.out]; omega) (by omega) (by omega)).mono ?_
      rintro e w3 ⟨rfl, rfl⟩
      go_wp2_with fail
      refine (refSection_any a2 len2 cap2 z2 a3 _ (Hk.out _ hb) Hz2.out.symm (by rw [Hz2.out]; omega)).mono ?_
      rintro e w3 ⟨rfl, rfl⟩
      go_wp2_with fail
      go_ret
      exact ⟨rfl, hb⟩
    · have h1 : ¬ (2000 : Int) < (a0.size : Int) := by omega
      have h2 : (200 : Int) < (len2 : Int) := by omega
      go_enter Try.func4, Try.ntmps4
      go_wp2_with (go_at_call 9; refine (awake_any _).mono ?_; rintro e w1 ⟨rfl, hb1⟩)
      go_ret
      exact ⟨rfl, hb1⟩
  · have h1 : (2000 : Int) < (a0.size : Int) := by omega
    go_enter Try.func4, Try.ntmps4
    go_wp2_with (go_at_call 9; refine (awake_any _).mono ?_; rintro e w1 ⟨rfl, hb1⟩)
    go_ret
    exact ⟨rfl, hb1⟩
end Go.Proofs.Ytbhmgooohhgpaaa.lexerPositions
