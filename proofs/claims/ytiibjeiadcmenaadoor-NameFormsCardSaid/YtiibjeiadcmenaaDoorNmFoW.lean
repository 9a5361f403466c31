/- The walk of NameForms. -/
import Derived.Test.YtiibjeiadcmenaaDoorNmK
set_option linter.unusedVariables false
namespace Go.Proofs.YtiibjeiadcmenaaDoor.nameForms
open Go.RowKit Go.Shelf Go.Sort

set_option maxRecDepth 20000 in
set_option maxHeartbeats 8000000 in
theorem walk (s : ByteArray) (m n : Int) (w : World) (hz : s.size ≤ maxLen) (_ : (Lit.int .i64 m).wf = true) (_ : (Lit.int .i64 n).wf = true) (hg : Gl w) :
    Calls Tryd.prog 5 #[.string s, .int .i64 m, .int .i64 n] w fun e w' => e = .returned (.bool true) ∧ Below w.heap.size w w' := by
  have A := hide (awake_any w hg)
  have G := hide hg
  clear hg
  unfold maxLen at hz
  have B0 := hide (Below.refl w.heap.size w)
  by_cases hbig : 60 < s.size
  · have h60 : (60 : Int) < (s.size : Int) := by omega
    go_enter Tryd.func5, Tryd.ntmps5
    go_wp2_with fail
    refine (A.out).mono ?_
    rintro e w1 ⟨rfl, hb⟩
    have B1 := hide (B0.out.trans (hb.mono B0.out.size))
    clear hb
    go_wp2
    go_ret
    exact ⟨rfl, B1.out⟩
  · have h60 : (s.size : Int) ≤ 60 := by omega
    have R := hide (fun W : World => Range_any s W (by omega))
    have RR := hide (fun W : World => refRange_any s W (by omega))
    have V := hide (fun W : World => Valid_any s W (by omega))
    have RV := hide (fun W : World => refValid_any s W (by omega))
    have E := hide (fun W : World => Escaped_any s W (by omega))
    have RE := hide (fun W : World => refEscaped_any s W (by omega))
    have F := hide (fun (W : World) (h : Gl W) => FormatRange_any m n W h)
    have RF := hide (fun (W : World) => refFormatRange_any m n W)
    have X := hide (fun (W : World) => Width_any m n W)
    have RX := hide (fun (W : World) => refWidth_any m n W)
    rw [← range_eq] at RR
    generalize rangeS s.data.toList = r at R RR
    obtain ⟨r1, r2, r3⟩ := r
    generalize vN s.data.toList = v at V RV
    generalize escN s.data.toList = ev at E RE
    generalize fmtR m n = f at F RF
    generalize widthS m n = x at X RX
    go_enter Tryd.func5, Tryd.ntmps5
    go_wp2_with fail
    refine (A.out).mono ?_
    rintro e w1 ⟨rfl, hb⟩
    have B1 := hide (B0.out.trans (hb.mono B0.out.size))
    clear hb
    go_wp2_with fail
    refine (R.out _).mono ?_
    rintro e w2 ⟨rfl, hb⟩
    have B2 := hide (B1.out.trans (hb.mono B1.out.size))
    clear hb
    go_wp2_with fail
    refine (RR.out _).mono ?_
    rintro e w3 ⟨rfl, hb⟩
    have B3 := hide (B2.out.trans (hb.mono B2.out.size))
    clear hb
    go_wp2_with fail
    refine (V.out _).mono ?_
    rintro e w4 ⟨rfl, hb⟩
    have B4 := hide (B3.out.trans (hb.mono B3.out.size))
    clear hb
    go_wp2_with fail
    refine (RV.out _).mono ?_
    rintro e wx ⟨rfl, rfl⟩
    go_wp2_with fail
    refine (E.out _).mono ?_
    rintro e w5 ⟨rfl, hb⟩
    have B5 := hide (B4.out.trans (hb.mono B4.out.size))
    clear hb
    go_wp2_with fail
    refine (RE.out _).mono ?_
    rintro e wx ⟨rfl, rfl⟩
    go_wp2_with fail
    refine (F.out _ (G.out.below B5.out)).mono ?_
    rintro e w6 ⟨rfl, hb⟩
    have B6 := hide (B5.out.trans (hb.mono B5.out.size))
    clear hb
    go_wp2_with fail
    refine (RF.out _).mono ?_
    rintro e w7 ⟨rfl, hb⟩
    have B7 := hide (B6.out.trans (hb.mono B6.out.size))
    clear hb
    go_wp2_with fail
    refine (X.out _).mono ?_
    rintro e wx ⟨rfl, rfl⟩
    go_wp2_with fail
    refine (RX.out _).mono ?_
    rintro e wx ⟨rfl, rfl⟩
    go_wp2
    go_ret
    exact ⟨rfl, B7.out⟩
end Go.Proofs.YtiibjeiadcmenaaDoor.nameForms
