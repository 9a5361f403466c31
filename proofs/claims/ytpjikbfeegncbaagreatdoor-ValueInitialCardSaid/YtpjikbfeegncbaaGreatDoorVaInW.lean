/- The walk of ValueInitial. -/
import Derived.Test.YtpjikbfeegncbaaGreatDoorVaS
import Derived.Test.YtpjikbfeegncbaaGreatDoorShelfE
import Derived.MakeChecks
set_option linter.unusedVariables false
set_option linter.unusedSimpArgs false
namespace Go.Proofs.YtpjikbfeegncbaaGreatDoor.valueInitial
open Go.RowKit Go.Shelf Go.Sort

theorem gl_of {W : World} (h : laidMetH Tryz.prog Rows.valueInitialRow.laid W) (hS : W.ShapedOpen Tryz.prog) : Gl W := by
  rw [MakeChecks.laidMetH_plain _ _ _ (by kernel_rfl)] at h
  exact gl_mk (x := ("math/bits.deBruijn32tab", Rows.laid_math_bits_deBruijn32tab)) (y := ("math/bits.deBruijn64tab", Rows.laid_math_bits_deBruijn64tab)) (rest := Rows.valueInitialRow.laid.drop 3) h hS

theorem all_x (wd : Int) (h1 : 1 ≤ wd) (h2 : wd ≤ 128) : allV wd 120 = List.replicate wd.toNat 120 := by
  unfold allV; rw [if_neg]; rintro (h | h | h)
  · omega
  · omega
  · exact absurd h (by decide)
theorem trim_x (n : Nat) : Lib.trimB (List.replicate n 120) 120 = [] := by
  unfold Lib.trimB Lib.trimLeftB Lib.trimRightB
  have : ∀ n, (List.replicate n (120 : UInt8)).dropWhile (· == 120) = [] := by
    intro n
    induction n with
    | zero => rfl
    | succ n ih => rw [List.replicate_succ, List.dropWhile_cons_of_pos (by decide)]; exact ih
  rw [List.reverse_replicate, this]; rfl
theorem val_x (wd : Int) (h1 : 1 ≤ wd) (h2 : wd ≤ 128) : valV wd (List.replicate wd.toNat 120) = true := by
  rw [valV_iff]
  refine ⟨?_, h1, h2, ?_⟩
  · rw [List.all_eq_true]; intro x hx; rw [(List.mem_replicate.1 hx).2]; decide
  · rw [List.length_replicate]; omega
theorem can_0 : canV [48] = true := by decide +kernel

set_option maxRecDepth 20000 in
set_option maxHeartbeats 8000000 in
theorem walk (n wd : Int) (w : World) (_ : (Lit.int .i64 n).wf = true) (_ : (Lit.int .i64 wd).wf = true) (hg : Gl w) :
    Calls Tryz.prog 6 #[.int .i64 n, .int .i64 wd] w fun e w' => e = .returned (.bool true) ∧ Below w.heap.size w w' := by
  have A := hide (awake_any w hg)
  have G := hide hg
  have I := hide (fun W : World => Initial_any n wd W)
  have T := hide (fun W : World => ValidType_any n wd W)
  cases hk : inK n wd with
  | false =>
    have hi : initN n wd = ⟨#[]⟩ := by unfold initN; rw [hk]; rfl
    have hv : validN n wd [] = false := by unfold validN; rw [hk]; rfl
    have V := hide (fun (W : World) (h : Gl W) => Valid_any n wd [] W (by decide) h)
    rw [hv, show bsV [] = (⟨#[]⟩ : ByteArray) from rfl] at V
    rw [hi] at I
    rw [hk] at T
    clear hi hv hk hg
    have B0 := hide (Below.refl w.heap.size w)
    go_enter Tryz.func6, Tryz.ntmps6
    go_wp2_with fail
    refine (A.out).mono ?_
    rintro e w1 ⟨rfl, hb⟩
    have B1 := hide (B0.out.trans (hb.mono B0.out.size))
    clear hb
    go_wp2_with fail
    refine (I.out _).mono ?_
    rintro e w2 ⟨rfl, hb⟩
    have B2 := hide (B1.out.trans (hb.mono B1.out.size))
    clear hb
    go_wp2_with fail
    refine (T.out _).mono ?_
    rintro e w3 ⟨rfl, hb⟩
    have B3 := hide (B2.out.trans (hb.mono B2.out.size))
    clear hb
    go_wp2_with fail
    refine (V.out _ (G.out.below B3.out)).mono ?_
    rintro e w4 ⟨rfl, hb⟩
    have B4 := hide (B3.out.trans (hb.mono B3.out.size))
    clear hb
    go_wp2
    go_ret
    exact ⟨rfl, B4.out⟩
  | true =>
    obtain ⟨k, rfl, hk4, ho⟩ := inK_k hk
    have hk5 : k = 0 ∨ k = 1 ∨ k = 2 ∨ k = 3 := by omega
    rcases hk5 with rfl | rfl | rfl | rfl
    · skip
      obtain ⟨h1, h2⟩ := okW_0 ho
      have hi : initN (0 : Int) wd = bsV (List.replicate wd.toNat 120) := by
        unfold initN; rw [show inK (0 : Int) wd = true from hk, if_pos rfl]
        show bsV (allV wd 120) = _
        rw [all_x wd h1 h2]
      have hz : (bsV (List.replicate wd.toNat 120)).size = wd.toNat := by rw [bs_size, List.length_replicate]
      have hv : validN (0 : Int) wd (List.replicate wd.toNat 120) = true := by
        unfold validN; rw [show inK (0 : Int) wd = true from hk, Bool.true_and]
        exact val_x wd h1 h2
      have V := hide (fun (W : World) (h : Gl W) => Valid_any 0 wd (List.replicate wd.toNat 120) W (by rw [List.length_replicate]; omega) h)
      have TR := hide (fun W : World => Tryz.strings_Trim_one (bsV (List.replicate wd.toNat 120)) 120 (by decide) W (by rw [hz]; omega))
      rw [bsV_list, trim_x] at TR
      rw [show ((0 : Nat) : Int) = 0 from rfl] at *
      rw [hv] at V
      rw [hi] at I
      rw [hk] at T
      have hlen : ((wd.toNat : Int) == wd) = true := by rw [beq_iff_eq]; omega
      generalize bsV (List.replicate wd.toNat 120) = s at *
      clear hi hv hk hg ho
      have B0 := hide (Below.refl w.heap.size w)
      go_enter Tryz.func6, Tryz.ntmps6
      go_wp2_with fail
      refine (A.out).mono ?_
      rintro e w1 ⟨rfl, hb⟩
      have B1 := hide (B0.out.trans (hb.mono B0.out.size))
      clear hb
      go_wp2_with fail
      refine (I.out _).mono ?_
      rintro e w2 ⟨rfl, hb⟩
      have B2 := hide (B1.out.trans (hb.mono B1.out.size))
      clear hb
      go_wp2_with fail
      refine (T.out _).mono ?_
      rintro e w3 ⟨rfl, hb⟩
      have B3 := hide (B2.out.trans (hb.mono B2.out.size))
      clear hb
      go_wp2_with fail
      refine (TR.out _).mono ?_
      rintro e wx ⟨rfl, hx⟩
      have Bx : Hid (RowKit.Below w.heap.size w wx) := hide (by rcases hx with rfl | rfl; exact B3.out; exact B3.out.drew)
      clear hx
      go_wp2_with fail
      refine (V.out _ (G.out.below Bx.out)).mono ?_
      rintro e wy ⟨rfl, hb⟩
      have By := hide (Bx.out.trans (hb.mono Bx.out.size))
      clear hb
      go_wp2
      go_ret
      exact ⟨rfl, By.out⟩
    · skip
      have hi : initN (1 : Int) wd = ⟨#[48]⟩ := by
        unfold initN; rw [show inK (1 : Int) wd = true from hk, if_pos rfl]; rfl
      have hv : validN (1 : Int) wd [48] = true := by
        unfold validN; rw [show inK (1 : Int) wd = true from hk, Bool.true_and]
        exact can_0
      have V := hide (fun (W : World) (h : Gl W) => Valid_any 1 wd [48] W (by decide) h)
      rw [show ((1 : Nat) : Int) = 1 from rfl] at *
      rw [hv, show bsV [48] = (⟨#[48]⟩ : ByteArray) from rfl] at V
      rw [hi] at I
      rw [hk] at T
      clear hi hv hk hg ho
      have B0 := hide (Below.refl w.heap.size w)
      go_enter Tryz.func6, Tryz.ntmps6
      go_wp2_with fail
      refine (A.out).mono ?_
      rintro e w1 ⟨rfl, hb⟩
      have B1 := hide (B0.out.trans (hb.mono B0.out.size))
      clear hb
      go_wp2_with fail
      refine (I.out _).mono ?_
      rintro e w2 ⟨rfl, hb⟩
      have B2 := hide (B1.out.trans (hb.mono B1.out.size))
      clear hb
      go_wp2_with fail
      refine (T.out _).mono ?_
      rintro e w3 ⟨rfl, hb⟩
      have B3 := hide (B2.out.trans (hb.mono B2.out.size))
      clear hb
      go_wp2_with fail
      refine (V.out _ (G.out.below B3.out)).mono ?_
      rintro e w4 ⟨rfl, hb⟩
      have B4 := hide (B3.out.trans (hb.mono B3.out.size))
      clear hb
      go_wp2
      go_ret
      exact ⟨rfl, B4.out⟩
    · skip
      have hi : initN (2 : Int) wd = ⟨#[]⟩ := by
        unfold initN; rw [show inK (2 : Int) wd = true from hk, if_pos rfl]; rfl
      have hv : validN (2 : Int) wd [] = true := by
        unfold validN; rw [show inK (2 : Int) wd = true from hk, Bool.true_and]
        exact rfl
      have V := hide (fun (W : World) (h : Gl W) => Valid_any 2 wd [] W (by decide) h)
      rw [show ((2 : Nat) : Int) = 2 from rfl] at *
      rw [hv, show bsV [] = (⟨#[]⟩ : ByteArray) from rfl] at V
      rw [hi] at I
      rw [hk] at T
      clear hi hv hk hg ho
      have B0 := hide (Below.refl w.heap.size w)
      go_enter Tryz.func6, Tryz.ntmps6
      go_wp2_with fail
      refine (A.out).mono ?_
      rintro e w1 ⟨rfl, hb⟩
      have B1 := hide (B0.out.trans (hb.mono B0.out.size))
      clear hb
      go_wp2_with fail
      refine (I.out _).mono ?_
      rintro e w2 ⟨rfl, hb⟩
      have B2 := hide (B1.out.trans (hb.mono B1.out.size))
      clear hb
      go_wp2_with fail
      refine (T.out _).mono ?_
      rintro e w3 ⟨rfl, hb⟩
      have B3 := hide (B2.out.trans (hb.mono B2.out.size))
      clear hb
      go_wp2_with fail
      refine (V.out _ (G.out.below B3.out)).mono ?_
      rintro e w4 ⟨rfl, hb⟩
      have B4 := hide (B3.out.trans (hb.mono B3.out.size))
      clear hb
      go_wp2
      go_ret
      exact ⟨rfl, B4.out⟩
    · skip
      have hi : initN (3 : Int) wd = ⟨#[]⟩ := by
        unfold initN; rw [show inK (3 : Int) wd = true from hk, if_pos rfl]; rfl
      have hv : validN (3 : Int) wd [] = true := by
        unfold validN; rw [show inK (3 : Int) wd = true from hk, Bool.true_and]
        exact rfl
      have V := hide (fun (W : World) (h : Gl W) => Valid_any 3 wd [] W (by decide) h)
      rw [show ((3 : Nat) : Int) = 3 from rfl] at *
      rw [hv, show bsV [] = (⟨#[]⟩ : ByteArray) from rfl] at V
      rw [hi] at I
      rw [hk] at T
      clear hi hv hk hg ho
      have B0 := hide (Below.refl w.heap.size w)
      go_enter Tryz.func6, Tryz.ntmps6
      go_wp2_with fail
      refine (A.out).mono ?_
      rintro e w1 ⟨rfl, hb⟩
      have B1 := hide (B0.out.trans (hb.mono B0.out.size))
      clear hb
      go_wp2_with fail
      refine (I.out _).mono ?_
      rintro e w2 ⟨rfl, hb⟩
      have B2 := hide (B1.out.trans (hb.mono B1.out.size))
      clear hb
      go_wp2_with fail
      refine (T.out _).mono ?_
      rintro e w3 ⟨rfl, hb⟩
      have B3 := hide (B2.out.trans (hb.mono B2.out.size))
      clear hb
      go_wp2_with fail
      refine (V.out _ (G.out.below B3.out)).mono ?_
      rintro e w4 ⟨rfl, hb⟩
      have B4 := hide (B3.out.trans (hb.mono B3.out.size))
      clear hb
      go_wp2
      go_ret
      exact ⟨rfl, B4.out⟩
end Go.Proofs.YtpjikbfeegncbaaGreatDoor.valueInitial
