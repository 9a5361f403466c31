/- The walk of QlexForms. -/
import Derived.Test.YtjlpekjfmgcbdaaGreatDoorMgR
import Derived.Test.YtjlpekjfmgcbdaaGreatDoorRows
import Derived.MakeChecks
import Derived.Lib.QuietBelow
set_option linter.unusedVariables false
set_option linter.unusedSimpArgs false
namespace Go.Proofs.YtjlpekjfmgcbdaaGreatDoor.qlexForms
open Go.RowKit Go.Shelf Go.Sort
theorem gl_of {W : World} (h : laidMetH Tryz.prog Rows.qlexFormsRow.laid W) (hS : W.ShapedOpen Tryz.prog) : Gl W := by
  rw [MakeChecks.laidMetH_plain _ _ _ (by kernel_rfl)] at h
  exact gl_mk (x := ("math/bits.deBruijn32tab", Rows.laid_math_bits_deBruijn32tab)) (y := ("math/bits.deBruijn64tab", Rows.laid_math_bits_deBruijn64tab)) (rest := Rows.qlexFormsRow.laid.drop 3) h hS
set_option maxRecDepth 20000 in
set_option maxHeartbeats 4000000 in
theorem walk (A : Option Addr) (n cap : Nat) (ys : List Ly) (s : ByteArray) (w : World) (hn : ys.length = n) (hm : n ≤ maxLen) (hs : LySl w A ys) (w0 : s.size ≤ maxLen) (hg : Gl w) :
    Calls Tryz.prog 8 #[.slice A n cap, .string s] w fun e w' => e = .returned (.bool true) ∧ Below w.heap.size w w' := by
  unfold maxLen at hm w0
  have SH := hide (fun (W : World) (hb : Below w.heap.size w W) => show Calls Tryz.prog 22 #[.slice A n cap] W fun e w' => e = .returned (.bool (shortY ys)) ∧ Below W.heap.size W w' from by
    have := short_any A cap ys W (hs.below hb) (by omega)
    rw [hn] at this
    exact this)
  have AW := hide (fun (W : World) (hg : Gl W) => awakeQ_any W hg)
  have HG := hide hg
  by_cases hsh : shortY ys = true
  rotate_left
  · have hsh : shortY ys = false := by simpa using hsh
    rw [hsh] at SH
    clear hsh hg hs hn
    go_enter Tryz.func8, Tryz.ntmps8
    go_wp2_with fail
    refine (SH.out _ (Below.refl _ _)).mono ?_
    rintro e w1 ⟨rfl, hb1⟩
    have B1 := hide hb1
    have G1 := hide (HG.out.below hb1)
    clear hb1
    go_wp2_with fail
    refine (AW.out _ G1.out).mono ?_
    rintro e w5 ⟨rfl, hb5⟩
    have B5 := hide (B1.out.trans (hb5.mono B1.out.size))
    clear hb5
    go_wp2
    go_ret
    exact ⟨rfl, B5.out⟩
  by_cases hbig : 200 < s.size
  · have q : (200 : Int) < (s.size : Int) := by omega
    rw [hsh] at SH
    clear hsh hg hs hn hbig
    go_enter Tryz.func8, Tryz.ntmps8
    go_wp2_with fail
    refine (SH.out _ (Below.refl _ _)).mono ?_
    rintro e w1 ⟨rfl, hb1⟩
    have B1 := hide hb1
    have G1 := hide (HG.out.below hb1)
    clear hb1
    go_wp2_with fail
    refine (AW.out _ G1.out).mono ?_
    rintro e w5 ⟨rfl, hb5⟩
    have B5 := hide (B1.out.trans (hb5.mono B1.out.size))
    clear hb5
    go_wp2
    go_ret
    exact ⟨rfl, B5.out⟩
  have q : ¬ (200 : Int) < (s.size : Int) := by omega
  obtain ⟨hall, h20⟩ : (∀ y ∈ ys, y.text.length ≤ 200) ∧ ys.length ≤ 20 := by
    have h := hsh
    unfold shortY at h
    rw [Bool.and_eq_true] at h
    exact ⟨fun y hy => of_decide_eq_true (List.all_eq_true.1 h.1 y hy), of_decide_eq_true h.2⟩
  rw [hsh] at SH
  obtain ⟨l, rfl⟩ : ∃ l, s = bsQ l := ⟨_, bsQ_of s⟩
  have VA := hide (fun (i : Nat) (hi : i < ys.length) (W : World) (hg : Gl W) => ValidQ_any ys[i].kind ys[i].pos ys[i].text W (by have := hall _ (List.getElem_mem hi); omega) hg)
  have VR := hide (fun (i : Nat) (hi : i < ys.length) (W : World) => refValidQ_any ys[i].kind ys[i].pos ys[i].text W (hall _ (List.getElem_mem hi)))
  unfold lxV at VA VR
  have J1 := hide (fun (W : World) (hb : Below w.heap.size w W) (hg : Gl W) => show Calls Tryz.prog 20 #[.slice A n cap] W fun e w' => e = .returned (.string (bsQ (joinY ys))) ∧ Below W.heap.size W w' from by
    have := JoinQ_any A cap ys W (hs.below hb) (by omega) (fun y hy => by have := hall y hy; omega) hg
    rw [hn] at this
    exact this)
  have J2 := hide (fun (W : World) (hb : Below w.heap.size w W) => show Calls Tryz.prog 24 #[.slice A n cap] W fun e w' => e = .returned (.string (bsQ (joinY ys))) ∧ Below W.heap.size W w' from by
    have := refJoinQ_any A cap ys W (hs.below hb) (by omega) hall
    rw [hn] at this
    exact this)
  have RS := hide (fun W : World => Reserved_any l W)
  have WO := hide refWords_any
  have HA := hide (fun (A' : Option Addr) (cap' : Nat) (W : World) (h : Sl strQ W A' langQ) => show Calls Tryz.prog 26 #[.slice A' 22 cap', .string (bsQ l)] W fun e w' => e = .returned (.bool (decide (l ∈ langQ))) ∧ w' = W from refHas_any A' cap' langQ l W h (by decide))
  generalize decide (l ∈ langQ) = dR at *
  have hn20 : n ≤ 20 := by omega
  have Hn := hide hn
  have Hs := hide hs
  generalize bsQ (joinY ys) = sj at *
  generalize bsQ l = s at *
  have eJ : (sj.toList == sj.toList) = true := beq_self_eq_true _
  have eR : (dR == dR) = true := beq_self_eq_true _
  clear hsh hall h20 hs hn hg hbig
  go_enter Tryz.func8, Tryz.ntmps8
  go_wp2_with fail
  refine (SH.out _ (Below.refl _ _)).mono ?_
  rintro e w1 ⟨rfl, hb1⟩
  have B1 := hide hb1
  have G1 := hide (HG.out.below hb1)
  clear hb1
  go_wp2_with fail
  go_loopw [18] (fun v wr => ∃ i : Nat, v = .int .i64 (i : Int) ∧ i ≤ n ∧ Below w.heap.size w wr) (fun v _ => n - (intOf v).toNat)
  case atStart => exact ⟨0, rfl, Nat.zero_le _, B1.out⟩
  case round =>
    obtain ⟨i, rfl, hi, hb⟩ := hrel
    have Hb := hide hb
    clear hb
    by_cases hlt : i < n
    · have hi' : (i : Int) < (n : Int) := by omega
      have hi0 : (0 : Int) ≤ (i : Int) := by omega
      have hw1 : IntKind.i64.wrap ((i : Int) + 1) = (i : Int) + 1 := IntWalk.i64_in _ (by omega)
      have hix : i < ys.length := by rw [Hn.out]; exact hlt
      obtain ⟨b, off, rfl, hbz, hat⟩ := Hs.out.at hix
      obtain ⟨c0, c1, c2⟩ := hat wr Hb.out
      have VI := hide (fun (W : World) (hg : Gl W) => VA.out i hix W hg)
      have RI := hide (fun (W : World) => VR.out i hix W)
      obtain ⟨y, hy⟩ : ∃ y, ys[i]'hix = y := ⟨_, rfl⟩
      rw [hy] at c0 c1 c2 VI RI
      generalize bsQ y.text = sy at *
      generalize validQ y.kind y.text = dv at *
      have eV : (dv == dv) = true := beq_self_eq_true _
      have eV2 : (dv != dv) = false := by rw [bne, eV]; rfl
      clear hat hy
      go_wp2_with fail
      obtain ⟨W1, hW1⟩ : ∃ W1, wr.alloc (.cells #[.int .i64 y.kind, .string sy, .int .i64 y.pos] 33) = W1 := ⟨_, rfl⟩
      rw [hW1]
      have hr : Row W1 wr.heap.size 33 #[.int .i64 y.kind, .string sy, .int .i64 y.pos] := by rw [← hW1]; exact Row.new _ _ _
      have HB1 := hide (show Below w.heap.size w W1 by rw [← hW1]; exact Hb.out.alloc Hb.out.size _)
      have CV := hide (fun (d : Nat) (os : Array Obj) => Calls.regrown_of (d := d) (os := os) (w := W1) (VI.out _ ((HG.out.below HB1.out).below (below_regrown W1 d os))))
      have CR := hide (fun (d : Nat) (os : Array Obj) => Calls.regrown_of (d := d) (os := os) (w := W1) (RI.out _))
      have r0 := fun d os => cell_regrown (hr.cell 0) d os
      have r1 := fun d os => cell_regrown (hr.cell 1) d os
      have r2 := fun d os => cell_regrown (hr.cell 2) d os
      clear hW1 hr c0 c1 c2
      refine wp_region_quiet_below (by kernel_rfl) (by kernel_rfl) ?_
      repeat (go_big_quiet_step (first | with_reducible exact CV.out _ _ | with_reducible exact CR.out _ _))
      refine wpQuiet_nil ?_
      intro _ hw'
      obtain ⟨⟨dq, osq⟩, hw''⟩ := hw'
      subst hw''
      go_wp2
      go_roundw
      case rel => exact ⟨i + 1, by go_num, by omega, HB1.out.trans ((below_regrown _ dq osq).mono HB1.out.size)⟩
      case measure => simp [intOf]; omega
    · obtain rfl : i = n := by omega
      have hi' : ¬ (i : Int) < (i : Int) := by omega
      have G2 := hide (HG.out.below Hb.out)
      go_wp2_with fail
      refine (J1.out _ Hb.out G2.out).mono ?_
      rintro e w3 ⟨rfl, hb3⟩
      have B3 := hide (Hb.out.trans (hb3.mono Hb.out.size))
      clear hb3
      go_wp2_with fail
      refine (J2.out _ B3.out).mono ?_
      rintro e w4 ⟨rfl, hb4⟩
      have B4 := hide (B3.out.trans (hb4.mono B3.out.size))
      clear hb4
      go_wp2_with fail
      refine (RS.out _).mono ?_
      rintro e w5 ⟨rfl, hb5⟩
      have B5 := hide (B4.out.trans (hb5.mono B4.out.size))
      clear hb5
      go_wp2_with fail
      refine (WO.out _).mono ?_
      rintro e w6 ⟨rfl, hs6, hb6⟩
      have B6 := hide (B5.out.trans (hb6.mono B5.out.size))
      have S6 := hide hs6
      clear hb6 hs6
      go_wp2_with fail
      refine (HA.out _ _ _ S6.out).mono ?_
      rintro e w7 ⟨rfl, rfl⟩
      have G6 := hide (HG.out.below B6.out)
      go_wp2_with fail
      refine (AW.out _ G6.out).mono ?_
      rintro e w8 ⟨rfl, hb8⟩
      have B8 := hide (B6.out.trans (hb8.mono B6.out.size))
      clear hb8
      go_wp2
      go_ret
      exact ⟨rfl, B8.out⟩
end Go.Proofs.YtjlpekjfmgcbdaaGreatDoor.qlexForms
