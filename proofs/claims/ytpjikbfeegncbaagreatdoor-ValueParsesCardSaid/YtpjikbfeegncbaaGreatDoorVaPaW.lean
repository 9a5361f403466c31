/- The walk of ValueParses. -/
import Derived.Test.YtpjikbfeegncbaaGreatDoorVaZC
import Derived.MakeChecks
set_option linter.unusedVariables false
set_option linter.unusedSimpArgs false
namespace Go.Proofs.YtpjikbfeegncbaaGreatDoor.valueParses
open Go.RowKit Go.Shelf Go.Sort

theorem gl_of {W : World} (h : laidMetH Tryz.prog Rows.valueParsesRow.laid W) (hS : W.ShapedOpen Tryz.prog) : Gl W := by
  rw [MakeChecks.laidMetH_plain _ _ _ (by kernel_rfl)] at h
  exact gl_mk (x := ("math/bits.deBruijn32tab", Rows.laid_math_bits_deBruijn32tab)) (y := ("math/bits.deBruijn64tab", Rows.laid_math_bits_deBruijn64tab)) (rest := Rows.valueParsesRow.laid.drop 3) h hS

set_option maxHeartbeats 4000000 in
theorem long (n wd : Int) (a b : ByteArray) (w : World) (hg : Gl w) (h : 300 < a.size ∨ 60 < b.size) :
    Calls Tryz.prog 4 #[.int .i64 n, .int .i64 wd, .string a, .string b] w fun e w' => e = .returned (.bool true) ∧ Below w.heap.size w w' := by
  have A := hide (awake_any w hg)
  clear hg
  by_cases h1 : 300 < a.size
  · have h1' : (300 : Int) < (a.size : Int) := by omega
    clear h
    go_enter Tryz.func4, Tryz.ntmps4
    go_wp2_with fail
    refine A.out.mono ?_
    rintro e w1 ⟨rfl, hb⟩
    have Hb := hide hb
    clear hb
    go_wp2
    go_ret
    exact ⟨rfl, Hb.out⟩
  · have h2 : 60 < b.size := by omega
    have h1' : ¬ (300 : Int) < (a.size : Int) := by omega
    have h2' : (60 : Int) < (b.size : Int) := by omega
    clear h
    go_enter Tryz.func4, Tryz.ntmps4
    go_wp2_with fail
    refine A.out.mono ?_
    rintro e w1 ⟨rfl, hb⟩
    have Hb := hide hb
    clear hb
    go_wp2
    go_ret
    exact ⟨rfl, Hb.out⟩
set_option maxRecDepth 20000 in
set_option maxHeartbeats 8000000 in
theorem good (n wd : Int) (l id : List UInt8) (w : World) (hg : Gl w) (hl : l.length ≤ 300) (hi : id.length ≤ 60) :
    Calls Tryz.prog 4 #[.int .i64 n, .int .i64 wd, .string (bsV l), .string (bsV id)] w fun e w' => e = .returned (.bool true) ∧ Below w.heap.size w w' := by
  have A := hide (awake_any w hg)
  have G := hide hg
  have z1 := bs_size l
  have z2 := bs_size id
  have hs1 : ((300 : Int) < (l.length : Int)) = False := by simp; omega
  have hs2 : ((60 : Int) < (id.length : Int)) = False := by simp; omega
  have P1 := hide (fun (W : World) (h : Gl W) => Parse_any n wd l W (by omega) h)
  have P2 := hide (fun W : World => refParse17_any n wd l W (by omega))
  have F1 := hide (fun (W : World) (h : Gl W) => Format_any n wd l W (by omega) h)
  have F2 := hide (fun W : World => refFormat17_any n wd l W (by omega))
  have C1 := hide (fun (W : World) (h : Gl W) => Command_any n wd l id W (by omega) (by omega) h)
  have C2 := hide (fun W : World => refCommand_any n wd l id W (by omega) (by omega))
  generalize parseN n wd l = p at *
  obtain ⟨p1, p2⟩ := p
  generalize bsV (formatN n wd l) = f at *
  generalize bsV (commandN n wd l id) = c at *
  have hp1 : (p1.toList == p1.toList) = true := by simp
  have hp2 : (p2 == p2) = true := by simp
  have hf : (f.toList == f.toList) = true := by simp
  have hc : (c.toList == c.toList) = true := by simp
  clear hg
  have B0 := hide (Below.refl w.heap.size w)
  go_enter Tryz.func4, Tryz.ntmps4
  go_wp2_with fail
  refine (A.out).mono ?_
  rintro e w1 ⟨rfl, hb⟩
  have B1 := hide (B0.out.trans (hb.mono B0.out.size))
  clear hb
  go_wp2_with fail
  refine (P1.out _ (G.out.below B1.out)).mono ?_
  rintro e w2 ⟨rfl, hb⟩
  have B2 := hide (B1.out.trans (hb.mono B1.out.size))
  clear hb
  go_wp2_with fail
  refine (P2.out _).mono ?_
  rintro e w3 ⟨rfl, hb⟩
  have B3 := hide (B2.out.trans (hb.mono B2.out.size))
  clear hb
  go_wp2_with fail
  refine (F1.out _ (G.out.below B3.out)).mono ?_
  rintro e w4 ⟨rfl, hb⟩
  have B4 := hide (B3.out.trans (hb.mono B3.out.size))
  clear hb
  go_wp2_with fail
  refine (F2.out _).mono ?_
  rintro e w5 ⟨rfl, hb⟩
  have B5 := hide (B4.out.trans (hb.mono B4.out.size))
  clear hb
  go_wp2_with fail
  refine (C1.out _ (G.out.below B5.out)).mono ?_
  rintro e w6 ⟨rfl, hb⟩
  have B6 := hide (B5.out.trans (hb.mono B5.out.size))
  clear hb
  go_wp2_with fail
  refine (C2.out _).mono ?_
  rintro e w7 ⟨rfl, hb⟩
  have B7 := hide (B6.out.trans (hb.mono B6.out.size))
  clear hb
  go_wp2
  go_ret
  exact ⟨rfl, B7.out⟩
theorem walk (n wd : Int) (a b : ByteArray) (w : World) (_ : (Lit.int .i64 n).wf = true) (_ : (Lit.int .i64 wd).wf = true) (w2 : a.size ≤ maxLen) (w3 : b.size ≤ maxLen) (hg : Gl w) :
    Calls Tryz.prog 4 #[.int .i64 n, .int .i64 wd, .string a, .string b] w fun e w' => e = .returned (.bool true) ∧ Below w.heap.size w w' := by
  by_cases h : 300 < a.size ∨ 60 < b.size
  · exact long n wd a b w hg h
  · rw [bs_of a, bs_of b]
    exact good n wd _ _ w hg (by rw [← Lib.size_eq]; omega) (by rw [← Lib.size_eq]; omega)
end Go.Proofs.YtpjikbfeegncbaaGreatDoor.valueParses
