/- The walk of the law LexerScans. -/
import Derived.Test.YtbhmgooohhgpaaaLexO
namespace Go.Proofs.Ytbhmgooohhgpaaa.lexerScans
open Go.RowKit Go.Shelf

theorem walk (a0 : ByteArray) (w : World) (w0 : a0.size ≤ maxLen) :
    Calls Try.prog 3 #[.string a0] w fun e w' => e = .returned (.bool true) ∧ Below w.heap.size w w' := by
  unfold maxLen at w0
  by_cases hsz : a0.size ≤ 2000
  · have h1 : ¬ (2000 : Int) < (a0.size : Int) := by omega
    go_enter Try.func3, Try.ntmps3
    go_wp2_with fail
    refine (awake_any _).mono ?_
    rintro e w1 ⟨rfl, hb1⟩
    go_wp2_with fail
    refine (Scan_any a0 (by omega) _).mono ?_
    rintro e w2 ⟨v2, rfl, hown2, hb2⟩
    obtain ⟨A, cap, rfl, hws⟩ := WSl_own hown2
    go_wp2_with fail
    refine (refScan_any a0 (by omega) _).mono ?_
    rintro e w3 ⟨v3, rfl, hown3, hb3⟩
    obtain ⟨A', cap', rfl, hws'⟩ := WSl_own hown3
    go_wp2_with fail
    have hl := wordsOf_len a0
    have hA : ∀ a, A = some a → a.block < w2.heap.size := fun a e => (hown2.lt _ (by subst e; rfl)).2
    refine (Same_any A A' _ _ _ _ _ _ (hws.keep hA hb3) hws' (by simp) (by simp) (by simp; omega)).mono ?_
    clear hl
    rintro e w4 ⟨rfl, hb4⟩
    go_wp2_with fail
    refine (Printable_any a0 (by omega) _).mono ?_
    rintro e w5 ⟨rfl, hb5⟩
    go_wp2_with fail
    refine (refWordPrintable_any a0 (by omega) _).mono ?_
    rintro e w6 ⟨rfl, rfl⟩
    go_wp2_with fail
    go_ret
    have z1 := hb1.size
    have z2 := hb2.size
    have z3 := hb3.size
    have z4 := hb4.size
    exact ⟨rfl, (((hb1.trans (hb2.mono (by omega))).trans (hb3.mono (by omega))).trans (hb4.mono (by omega))).trans (hb5.mono (by omega))⟩
  · have h1 : (2000 : Int) < (a0.size : Int) := by omega
    go_enter Try.func3, Try.ntmps3
    go_wp2_with (go_at_call 9; refine (awake_any _).mono ?_; rintro e w1 ⟨rfl, hb1⟩)
    go_ret
    exact ⟨rfl, hb1⟩
end Go.Proofs.Ytbhmgooohhgpaaa.lexerScans
