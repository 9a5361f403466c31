/- The walk of TimescaleConverts. -/
import Derived.Test.YtglfnbhcdblpiaaDoorTsN
set_option linter.unusedVariables false
namespace Go.Proofs.YtglfnbhcdblpiaaDoor.timescaleConverts
open Go.RowKit Go.Shelf Go.Sort

set_option maxRecDepth 20000 in
set_option maxHeartbeats 4000000 in
theorem walk (t a b : Int) (w : World) (_ : (Lit.int .i64 t).wf = true) (_ : (Lit.int .i64 a).wf = true) (_ : (Lit.int .i64 b).wf = true) (hg : Gl w) :
    Calls Tryd.prog 4 #[.int .i64 t, .int .i64 a, .int .i64 b] w fun e w' => e = .returned (.bool true) ∧ Below w.heap.size w w' := by
  have A := hide (awake_any w hg)
  clear hg
  have C := hide (fun W : World => Convert_any t a b W)
  have RC := hide (fun W : World => refConvert_any t a b W)
  have F := hide (fun W : World => Floor_any t a b W)
  have RF := hide (fun W : World => refFloor_any t a b W)
  generalize convertS t a b = r at C RC
  obtain ⟨r1, r2⟩ := r
  generalize floorS t a b = r at F RF
  obtain ⟨s1, s2⟩ := r
  go_enter Tryd.func4, Tryd.ntmps4
  go_wp2_with fail
  refine A.out.mono ?_
  rintro e w1 ⟨rfl, hb1⟩
  have B1 := hide hb1
  clear hb1
  go_wp2_with fail
  refine (C.out _).mono ?_
  rintro e w2 ⟨rfl, hb2⟩
  have B2 := hide (B1.out.trans (hb2.mono B1.out.size))
  clear hb2
  go_wp2_with fail
  refine (RC.out _).mono ?_
  rintro e w3 ⟨rfl, rfl⟩
  go_wp2_with fail
  refine (F.out _).mono ?_
  rintro e w4 ⟨rfl, hb4⟩
  have B4 := hide (B2.out.trans (hb4.mono B2.out.size))
  clear hb4
  go_wp2_with fail
  refine (RF.out _).mono ?_
  rintro e w5 ⟨rfl, rfl⟩
  go_wp2
  go_ret
  exact ⟨rfl, B4.out⟩
end Go.Proofs.YtglfnbhcdblpiaaDoor.timescaleConverts
