/- The walk of QlexBits. -/
import Derived.Test.YtjlpekjfmgcbdaaGreatDoorMgJ
import Derived.Test.YtjlpekjfmgcbdaaGreatDoorRows
import Derived.MakeChecks
set_option linter.unusedVariables false
set_option linter.unusedSimpArgs false
namespace Go.Proofs.YtjlpekjfmgcbdaaGreatDoor.qlexBits
open Go.RowKit Go.Shelf
theorem gl_of {W : World} (h : laidMetH Tryz.prog Rows.qlexBitsRow.laid W) (hS : W.ShapedOpen Tryz.prog) : Gl W := by
  rw [MakeChecks.laidMetH_plain _ _ _ (by kernel_rfl)] at h
  exact gl_mk (x := ("math/bits.deBruijn32tab", Rows.laid_math_bits_deBruijn32tab)) (y := ("math/bits.deBruijn64tab", Rows.laid_math_bits_deBruijn64tab)) (rest := Rows.qlexBitsRow.laid.drop 3) h hS
theorem long (s : ByteArray) (w : World) (hg : Gl w) (h : 300 < s.size) : Calls Tryz.prog 4 #[.string s] w fun e w' => e = .returned (.bool true) ∧ Below w.heap.size w w' := by
  have A := hide (awakeQ_any w hg)
  have q : (300 : Int) < (s.size : Int) := by omega
  clear hg h
  go_enter Tryz.func4, Tryz.ntmps4
  go_wp2_with fail
  refine A.out.mono ?_
  rintro e w1 ⟨rfl, hb⟩
  have Hb := hide hb
  clear hb
  go_wp2
  go_ret
  exact ⟨rfl, Hb.out⟩
set_option maxRecDepth 20000 in
set_option maxHeartbeats 4000000 in
theorem walk (s : ByteArray) (w : World) (w0 : s.size ≤ maxLen) (hg : Gl w) :
    Calls Tryz.prog 4 #[.string s] w fun e w' => e = .returned (.bool true) ∧ Below w.heap.size w w' := by
  by_cases h : 300 < s.size
  · exact long s w hg h
  obtain ⟨l, rfl⟩ : ∃ l, s = bsQ l := ⟨_, bsQ_of s⟩
  have hz := bsQ_size l
  have U := hide (fun W : World => bits48_any l W (by omega))
  have RU := hide (fun W : World => refBitsQ_any l W (by omega))
  have AW := hide (fun (W : World) (hg : Gl W) => awakeQ_any W hg)
  have HG := hide hg
  have q0 : ¬ (300 : Int) < ((bsQ l).size : Int) := by omega
  obtain ⟨⟨t, er⟩, hp⟩ : ∃ p, bitsQ l = p := ⟨_, rfl⟩
  rw [hp] at U RU
  obtain ⟨u, hu⟩ : ∃ u, bsQ t = u := ⟨_, rfl⟩
  have U := hide (fun W : World => show Calls Tryz.prog 13 #[.string (bsQ l)] W fun e w' => e = .returned (.tuple #[.string u, .int .i64 er]) ∧ Below W.heap.size W w' by rw [← hu]; exact U.out W)
  have RU := hide (fun W : World => show Calls Tryz.prog 14 #[.string (bsQ l)] W fun e w' => e = .returned (.tuple #[.string u, .int .i64 er]) ∧ Below W.heap.size W w' by rw [← hu]; exact RU.out W)
  generalize bsQ l = s at *
  have e1 : (u.toList == u.toList) = true := beq_self_eq_true _
  have e3 : (er == er) = true := beq_self_eq_true _
  clear hz hg h w0 hp hu
  go_enter Tryz.func4, Tryz.ntmps4
  go_wp2_with fail
  refine (U.out _).mono ?_
  rintro e w1 ⟨rfl, hb1⟩
  have B1 := hide hb1
  clear hb1
  go_wp2_with fail
  refine (RU.out _).mono ?_
  rintro e w2 ⟨rfl, hb2⟩
  have B2 := hide (B1.out.trans (hb2.mono B1.out.size))
  clear hb2
  have G2 := hide (HG.out.below B2.out)
  go_wp2_with fail
  refine (AW.out _ G2.out).mono ?_
  rintro e w5 ⟨rfl, hb5⟩
  have B5 := hide (B2.out.trans (hb5.mono B2.out.size))
  clear hb5
  go_wp2
  go_ret
  exact ⟨rfl, B5.out⟩
end Go.Proofs.YtjlpekjfmgcbdaaGreatDoor.qlexBits
