/- The walk of QlexQuotes. -/
import Derived.Test.YtjlpekjfmgcbdaaGreatDoorMgG
import Derived.Test.YtjlpekjfmgcbdaaGreatDoorRows
import Derived.MakeChecks
set_option linter.unusedVariables false
set_option linter.unusedSimpArgs false
namespace Go.Proofs.YtjlpekjfmgcbdaaGreatDoor.qlexQuotes
open Go.RowKit Go.Shelf
theorem gl_of {W : World} (h : laidMetH Tryz.prog Rows.qlexQuotesRow.laid W) (hS : W.ShapedOpen Tryz.prog) : Gl W := by
  rw [MakeChecks.laidMetH_plain _ _ _ (by kernel_rfl)] at h
  exact gl_mk (x := ("math/bits.deBruijn32tab", Rows.laid_math_bits_deBruijn32tab)) (y := ("math/bits.deBruijn64tab", Rows.laid_math_bits_deBruijn64tab)) (rest := Rows.qlexQuotesRow.laid.drop 3) h hS
theorem long (s : ByteArray) (w : World) (hg : Gl w) (h : 300 < s.size) : Calls Tryz.prog 5 #[.string s] w fun e w' => e = .returned (.bool true) ∧ Below w.heap.size w w' := by
  have A := hide (awakeQ_any w hg)
  have q : (300 : Int) < (s.size : Int) := by omega
  clear hg h
  go_enter Tryz.func5, Tryz.ntmps5
  go_wp2_with fail
  refine A.out.mono ?_
  rintro e w1 ⟨rfl, hb⟩
  have Hb := hide hb
  clear hb
  go_wp2
  go_ret
  exact ⟨rfl, Hb.out⟩
set_option maxRecDepth 20000 in
set_option maxHeartbeats 4000000 in
theorem walk (s : ByteArray) (w : World) (w0 : s.size ≤ maxLen) (hg : Gl w) :
    Calls Tryz.prog 5 #[.string s] w fun e w' => e = .returned (.bool true) ∧ Below w.heap.size w w' := by
  by_cases h : 300 < s.size
  · exact long s w hg h
  obtain ⟨l, rfl⟩ : ∃ l, s = bsQ l := ⟨_, bsQ_of s⟩
  have hz := bsQ_size l
  have Q := hide (fun W : World => quoteQl_any l W (by omega))
  have RQ := hide (fun W : World => refQuoteQ_any l W (by omega))
  have U := hide (fun W : World => unquoteQl_any l W (by omega))
  have RU := hide (fun W : World => refUnquoteQ_any l W (by omega))
  have AW := hide (fun (W : World) (hg : Gl W) => awakeQ_any W hg)
  have HG := hide hg
  have q0 : ¬ (300 : Int) < ((bsQ l).size : Int) := by omega
  obtain ⟨⟨t, er⟩, hp⟩ : ∃ p, unqQ l = p := ⟨_, rfl⟩
  rw [hp] at U RU
  obtain ⟨u, hu⟩ : ∃ u, bsQ t = u := ⟨_, rfl⟩
  have U := hide (fun W : World => show Calls Tryz.prog 15 #[.string (bsQ l)] W fun e w' => e = .returned (.tuple #[.string u, .int .i64 er]) ∧ Below W.heap.size W w' by rw [← hu]; exact U.out W)
  have RU := hide (fun W : World => show Calls Tryz.prog 16 #[.string (bsQ l)] W fun e w' => e = .returned (.tuple #[.string u, .int .i64 er]) ∧ Below W.heap.size W w' by rw [← hu]; exact RU.out W)
  generalize bsQ (quoQ l) = v at *
  generalize bsQ l = s at *
  have e1 : (u.toList == u.toList) = true := beq_self_eq_true _
  have e2 : (v.toList == v.toList) = true := beq_self_eq_true _
  have e3 : (er == er) = true := beq_self_eq_true _
  clear hz hg h w0 hp hu
  go_enter Tryz.func5, Tryz.ntmps5
  go_wp2_with fail
  refine (U.out _).mono ?_
  rintro e w1 ⟨rfl, hb1⟩
  have B1 := hide hb1
  clear hb1
  go_wp2_with fail
  refine (RU.out _).mono ?_
  rintro e w2 ⟨rfl, hb2⟩
  have B2 := hide (B1.out.trans (hb2.mono B1.out.size))
  clear hb2
  go_wp2_with fail
  refine (Q.out _).mono ?_
  rintro e w3 ⟨rfl, hb3⟩
  have B3 := hide (B2.out.trans (hb3.mono B2.out.size))
  clear hb3
  go_wp2_with fail
  refine (RQ.out _).mono ?_
  rintro e w4 ⟨rfl, hb4⟩
  have B4 := hide (B3.out.trans (hb4.mono B3.out.size))
  clear hb4
  have G4 := hide (HG.out.below B4.out)
  go_wp2_with fail
  refine (AW.out _ G4.out).mono ?_
  rintro e w5 ⟨rfl, hb5⟩
  have B5 := hide (B4.out.trans (hb5.mono B4.out.size))
  clear hb5
  go_wp2
  go_ret
  exact ⟨rfl, B5.out⟩
end Go.Proofs.YtjlpekjfmgcbdaaGreatDoor.qlexQuotes
