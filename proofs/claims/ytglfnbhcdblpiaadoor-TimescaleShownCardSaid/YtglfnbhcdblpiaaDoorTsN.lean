/- What the laws lean on: the examples of the chapter, and the table of powers out of what is laid. -/
import Derived.Test.YtglfnbhcdblpiaaDoorTsO
import Derived.Test.YtglfnbhcdblpiaaDoorCard
import Derived.Test.YtglfnbhcdblpiaaDoorRows
import Derived.Lib.LaidTab
import Derived.Shelf.Vars
import Derived.MakeChecks
set_option linter.unusedVariables false
namespace Go.Proofs.YtglfnbhcdblpiaaDoor
open Go.RowKit Go.Shelf Go.Sort

theorem gl_of {W : World} (h : laidMetH Tryd.prog Rows.timescaleTextsRow.laid W) (hS : W.ShapedOpen Tryd.prog) : Gl W := by
  rw [MakeChecks.laidMetH_plain _ _ _ (by kernel_rfl)] at h
  have h2 : laidMet Tryd.prog (("internal/strconv.uint64pow10", Lib.tabData .u64 Lib.pow10Tab) :: (Rows.timescaleTextsRow.laid.drop 3)) W := laidMet.tail (laidMet.tail h)
  exact ⟨Lib.tabIs_of_head gTab5 (by kernel_rfl) Tryd.underlying105 Tryd.underlying84 (by kernel_rfl) (by kernel_rfl) h2,
    cell_of_shapedOpen_int (t := 3) (zero := #[.int .i64 0]) hS (by decide +kernel) (by kernel_rfl) rfl (by kernel_rfl) (by kernel_rfl) Tryd.underlying3⟩

theorem read_1ns : readS ⟨#[49, 110, 115]⟩ (-11) = (100, 0) := by decide +kernel
theorem parse_10ps : parseS ⟨#[49, 48, 112, 115]⟩ = (-11, 0) := by decide +kernel
theorem conv_3 : convertS 3 (-11) (-12) = (30, 0) := by decide +kernel
theorem floor_30 : floorS 30 (-12) (-11) = (3, 0) := by decide +kernel
theorem show_3 : showS 3 (-11) = ⟨#[51, 48, 32, 112, 115]⟩ := by decide +kernel
theorem format_11 : formatS (-11) = ⟨#[49, 48, 32, 112, 115]⟩ := by decide +kernel

set_option maxRecDepth 20000 in
set_option maxHeartbeats 4000000 in
theorem awake_any (w : World) (hg : Gl w) :
    Calls Tryd.prog 10 #[] w fun e w' => e = .returned (.bool true) ∧ Below w.heap.size w w' := by
  have G := hide hg
  clear hg
  have P1 := hide (fun (W : World) (h : Gl W) => Parse_any ⟨#[49, 48, 112, 115]⟩ W h)
  have P2 := hide (fun (W : World) => Convert_any 3 (-11) (-12) W)
  have P3 := hide (fun (W : World) => Floor_any 30 (-12) (-11) W)
  have P4 := hide (fun (W : World) (h : Gl W) => Read_any ⟨#[49, 110, 115]⟩ (-11) W (by decide) h)
  have P5 := hide (fun (W : World) (h : Gl W) => Show_any 3 (-11) W (by decide) (by decide) h)
  have P6 := hide (fun (W : World) (h : Gl W) => Format_any (-11) W h)
  rw [parse_10ps] at P1
  rw [conv_3] at P2
  rw [floor_30] at P3
  rw [read_1ns] at P4
  rw [show_3] at P5
  rw [format_11] at P6
  go_enter Tryd.func10, Tryd.ntmps10
  go_wp2_with fail
  refine (P1.out _ G.out).mono ?_
  rintro e w1 ⟨rfl, hb1⟩
  have B1 := hide hb1
  clear hb1
  go_wp2_with fail
  refine (P2.out _).mono ?_
  rintro e w2 ⟨rfl, hb2⟩
  have B2 := hide (B1.out.trans (hb2.mono B1.out.size))
  clear hb2
  go_wp2_with fail
  refine (P3.out _).mono ?_
  rintro e w3 ⟨rfl, hb3⟩
  have B3 := hide (B2.out.trans (hb3.mono B2.out.size))
  clear hb3
  go_wp2_with fail
  refine (P4.out _ (G.out.below B3.out)).mono ?_
  rintro e w4 ⟨rfl, hb4⟩
  have B4 := hide (B3.out.trans (hb4.mono B3.out.size))
  clear hb4
  go_wp2_with fail
  refine (P5.out _ (G.out.below B4.out)).mono ?_
  rintro e w5 ⟨rfl, hb5⟩
  have B5 := hide (B4.out.trans (hb5.mono B4.out.size))
  clear hb5
  go_wp2_with fail
  refine (P6.out _ (G.out.below B5.out)).mono ?_
  rintro e w6 ⟨rfl, hb6⟩
  have B6 := hide (B5.out.trans (hb6.mono B5.out.size))
  clear hb6
  go_wp2
  go_ret
  exact ⟨rfl, B6.out⟩
end Go.Proofs.YtglfnbhcdblpiaaDoor
