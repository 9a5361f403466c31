/- The walk of TimescaleReads. -/
import Derived.Test.YtglfnbhcdblpiaaDoorTsN
set_option linter.unusedVariables false
namespace Go.Proofs.YtglfnbhcdblpiaaDoor.timescaleReads
open Go.RowKit Go.Shelf Go.Sort

set_option maxRecDepth 20000 in
set_option maxHeartbeats 4000000 in
theorem walk (t s : Int) (text : ByteArray) (w : World) (wt : (Lit.int .i64 t).wf = true) (_ : (Lit.int .i64 s).wf = true) (hz : text.size ≤ maxLen) (hg : Gl w) :
    Calls Tryd.prog 5 #[.int .i64 t, .int .i64 s, .string text] w fun e w' => e = .returned (.bool true) ∧ Below w.heap.size w w' := by
  have A := hide (awake_any w hg)
  have G := hide hg
  clear hg
  obtain ⟨t1, t2⟩ := i64_bounds wt
  unfold maxLen at hz
  have B0 := hide (Below.refl w.heap.size w)
  by_cases hbig : 60 < text.size
  · have h60 : (60 : Int) < (text.size : Int) := by omega
    go_enter Tryd.func5, Tryd.ntmps5
    go_wp2_with fail
    refine (A.out).mono ?_
    rintro e w1 ⟨rfl, hb⟩
    have B1 := hide (B0.out.trans (hb.mono B0.out.size))
    clear hb
    go_wp2
    go_ret
    exact ⟨rfl, B1.out⟩
  · have h60 : (text.size : Int) ≤ 60 := by omega
    have R := hide (fun (W : World) (h : Gl W) => Read_any text s W (by omega) h)
    have RR := hide (fun W : World => refRead_any text s W (by omega))
    have F := hide (fun (W : World) (h : Gl W) => Show_any t s W t1 t2 h)
    have RF := hide (fun (W : World) => refShow_any t s W t1 t2)
    generalize readS text s = r at R RR
    obtain ⟨r1, r2⟩ := r
    generalize showS t s = f at F RF
    go_enter Tryd.func5, Tryd.ntmps5
    go_wp2_with fail
    refine (A.out).mono ?_
    rintro e w1 ⟨rfl, hb⟩
    have B1 := hide (B0.out.trans (hb.mono B0.out.size))
    clear hb
    go_wp2_with fail
    refine (R.out _ (G.out.below B1.out)).mono ?_
    rintro e w2 ⟨rfl, hb⟩
    have B2 := hide (B1.out.trans (hb.mono B1.out.size))
    clear hb
    go_wp2_with fail
    refine (RR.out _).mono ?_
    rintro e w3 ⟨rfl, hb⟩
    have B3 := hide (B2.out.trans (hb.mono B2.out.size))
    clear hb
    go_wp2_with fail
    refine (F.out _ (G.out.below B3.out)).mono ?_
    rintro e w4 ⟨rfl, hb⟩
    have B4 := hide (B3.out.trans (hb.mono B3.out.size))
    clear hb
    go_wp2_with fail
    refine (RF.out _).mono ?_
    rintro e w5 ⟨rfl, hb⟩
    have B5 := hide (B4.out.trans (hb.mono B4.out.size))
    clear hb
    go_wp2
    go_ret
    exact ⟨rfl, B5.out⟩
end Go.Proofs.YtglfnbhcdblpiaaDoor.timescaleReads
