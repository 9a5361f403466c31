/- The walk of ValueForms. -/
import Derived.Test.YtpjikbfeegncbaaGreatDoorVaZ
import Derived.MakeChecks
set_option linter.unusedVariables false
set_option linter.unusedSimpArgs false
namespace Go.Proofs.YtpjikbfeegncbaaGreatDoor.valueForms
open Go.RowKit Go.Shelf Go.Sort

theorem gl_of {W : World} (h : laidMetH Tryz.prog Rows.valueFormsRow.laid W) (hS : W.ShapedOpen Tryz.prog) : Gl W := by
  rw [MakeChecks.laidMetH_plain _ _ _ (by kernel_rfl)] at h
  exact gl_mk (x := ("math/bits.deBruijn32tab", Rows.laid_math_bits_deBruijn32tab)) (y := ("math/bits.deBruijn64tab", Rows.laid_math_bits_deBruijn64tab)) (rest := Rows.valueFormsRow.laid.drop 3) h hS

set_option maxHeartbeats 4000000 in
theorem long (n wd : Int) (a : ByteArray) (w : World) (hg : Gl w) (h : 300 < a.size) :
    Calls Tryz.prog 3 #[.int .i64 n, .int .i64 wd, .string a] w fun e w' => e = .returned (.bool true) ∧ Below w.heap.size w w' := by
  have A := hide (awake_any w hg)
  clear hg
  have h1' : (300 : Int) < (a.size : Int) := by omega
  clear h
  go_enter Tryz.func3, Tryz.ntmps3
  go_wp2_with fail
  refine A.out.mono ?_
  rintro e w1 ⟨rfl, hb⟩
  have Hb := hide hb
  clear hb
  go_wp2
  go_ret
  exact ⟨rfl, Hb.out⟩
set_option maxRecDepth 20000 in
set_option maxHeartbeats 8000000 in
theorem good (n wd : Int) (l : List UInt8) (w : World) (hg : Gl w) (hl : l.length ≤ 300) :
    Calls Tryz.prog 3 #[.int .i64 n, .int .i64 wd, .string (bsV l)] w fun e w' => e = .returned (.bool true) ∧ Below w.heap.size w w' := by
  have A := hide (awake_any w hg)
  have G := hide hg
  have z1 := bs_size l
  have hs1 : ((300 : Int) < (l.length : Int)) = False := by simp; omega
  have C1 := hide (fun W : World => ValidType_any n wd W)
  have C2 := hide (fun W : World => refValidType_any n wd W)
  have C3 := hide (fun (W : World) (h : Gl W) => Valid_any n wd l W (by omega) h)
  have C4 := hide (fun W : World => refValid17_any n wd l W (by omega))
  have C5 := hide (fun W : World => Initial_any n wd W)
  have C6 := hide (fun W : World => refInitial17_any n wd W)
  generalize inK n wd = x at *
  generalize validN n wd l = y at *
  generalize initN n wd = z at *
  have hx : (x == x) = true := beq_self_eq_true x
  have hy : (y == y) = true := beq_self_eq_true y
  have hz : (z.toList == z.toList) = true := by simp
  clear hg
  have B0 := hide (Below.refl w.heap.size w)
  go_enter Tryz.func3, Tryz.ntmps3
  go_wp2_with fail
  refine (A.out).mono ?_
  rintro e w1 ⟨rfl, hb⟩
  have B1 := hide (B0.out.trans (hb.mono B0.out.size))
  clear hb
  go_wp2_with fail
  refine (C1.out _).mono ?_
  rintro e w2 ⟨rfl, hb⟩
  have B2 := hide (B1.out.trans (hb.mono B1.out.size))
  clear hb
  go_wp2_with fail
  refine (C2.out _).mono ?_
  rintro e wx ⟨rfl, rfl⟩
  go_wp2_with fail
  refine (C3.out _ (G.out.below B2.out)).mono ?_
  rintro e w3 ⟨rfl, hb⟩
  have B3 := hide (B2.out.trans (hb.mono B2.out.size))
  clear hb
  go_wp2_with fail
  refine (C4.out _).mono ?_
  rintro e w4 ⟨rfl, hb⟩
  have B4 := hide (B3.out.trans (hb.mono B3.out.size))
  clear hb
  go_wp2_with fail
  refine (C5.out _).mono ?_
  rintro e w5 ⟨rfl, hb⟩
  have B5 := hide (B4.out.trans (hb.mono B4.out.size))
  clear hb
  go_wp2_with fail
  refine (C6.out _).mono ?_
  rintro e w6 ⟨rfl, hb⟩
  have B6 := hide (B5.out.trans (hb.mono B5.out.size))
  clear hb
  go_wp2
  go_ret
  exact ⟨rfl, B6.out⟩
theorem walk (n wd : Int) (a : ByteArray) (w : World) (_ : (Lit.int .i64 n).wf = true) (_ : (Lit.int .i64 wd).wf = true) (w2 : a.size ≤ maxLen) (hg : Gl w) :
    Calls Tryz.prog 3 #[.int .i64 n, .int .i64 wd, .string a] w fun e w' => e = .returned (.bool true) ∧ Below w.heap.size w w' := by
  by_cases h : 300 < a.size
  · exact long n wd a w hg h
  · rw [bs_of a]
    exact good n wd _ w hg (by rw [← Lib.size_eq]; omega)
end Go.Proofs.YtpjikbfeegncbaaGreatDoor.valueForms
