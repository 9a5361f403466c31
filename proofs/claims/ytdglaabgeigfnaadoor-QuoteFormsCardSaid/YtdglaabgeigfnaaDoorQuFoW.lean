/- The walk of the law QuoteForms. -/
import Derived.Test.YtdglaabgeigfnaaDoorQuK
set_option linter.unusedVariables false
namespace Go.Proofs.YtdglaabgeigfnaaDoor.quoteForms
open Go.RowKit Go.Shelf

set_option maxHeartbeats 2000000 in
theorem walk (a0 a1 : ByteArray) (w : World) (w0 : a0.size ≤ maxLen) (w1 : a1.size ≤ maxLen) :
    Calls Tryd.prog 3 #[.string a0, .string a1] w fun e w' => e = .returned (.bool true) ∧ Below w.heap.size w w' := by
  unfold maxLen at w0 w1
  by_cases h0 : (300 : Int) < (a0.size : Int)
  · go_enter Tryd.func3, Tryd.ntmps3
    go_wp2_with fail
    refine (awake_any _).mono ?_
    rintro e w1 ⟨rfl, hB1⟩
    have B1 := hide hB1
    clear hB1
    go_wp2
    go_ret
    exact ⟨rfl, B1.out⟩
  by_cases h1 : (300 : Int) < (a1.size : Int)
  · go_enter Tryd.func3, Tryd.ntmps3
    go_wp2_with fail
    refine (awake_any _).mono ?_
    rintro e w1 ⟨rfl, hB1⟩
    have B1 := hide hB1
    clear hB1
    go_wp2
    go_ret
    exact ⟨rfl, B1.out⟩
  have U := hide (fun W : World => Unquote_any a1 W (by omega))
  have V := hide (fun W : World => refUnquote_any a1 W (by omega))
  have Q := hide (fun W : World => Quote_any a0 W (by omega))
  have R := hide (fun W : World => refQuote_any a0 W (by omega))
  generalize unqRes a1.data.toList = r at U V
  generalize (⟨(quoteL a0.data.toList).toArray⟩ : ByteArray) = q at Q R
  go_enter Tryd.func3, Tryd.ntmps3
  go_wp2_with fail
  refine (awake_any _).mono ?_
  rintro e w1 ⟨rfl, hB1⟩
  have B1 := hide hB1
  clear hB1
  go_wp2_with fail
  refine (U.out _).mono ?_
  rintro e w2 ⟨rfl, hB2⟩
  have B2 := hide hB2
  clear hB2
  go_wp2_with fail
  refine (V.out _).mono ?_
  rintro e w3 ⟨rfl, hB3⟩
  have B3 := hide hB3
  clear hB3
  go_wp2_with fail
  refine (Q.out _).mono ?_
  rintro e w4 ⟨rfl, hB4⟩
  have B4 := hide hB4
  clear hB4
  go_wp2_with fail
  refine (R.out _).mono ?_
  rintro e w5 ⟨rfl, hB5⟩
  have B5 := hide hB5
  clear hB5
  go_wp2
  go_ret
  have z1 := B1.out.size
  have z2 := B2.out.size
  have z3 := B3.out.size
  have z4 := B4.out.size
  exact ⟨rfl, (((B1.out.trans (B2.out.mono z1)).trans (B3.out.mono (by omega))).trans (B4.out.mono (by omega))).trans (B5.out.mono (by omega))⟩
end Go.Proofs.YtdglaabgeigfnaaDoor.quoteForms
