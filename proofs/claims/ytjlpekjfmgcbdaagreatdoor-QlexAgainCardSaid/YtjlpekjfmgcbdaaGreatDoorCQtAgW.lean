/- The walk of QlexAgain. -/
import Derived.Test.YtjlpekjfmgcbdaaGreatDoorMgR
import Derived.Test.YtjlpekjfmgcbdaaGreatDoorRows
import Derived.MakeChecks
set_option linter.unusedVariables false
set_option linter.unusedSimpArgs false
namespace Go.Proofs.YtjlpekjfmgcbdaaGreatDoor.qlexAgain
open Go.RowKit Go.Shelf
theorem gl_of {W : World} (h : laidMetH Tryz.prog Rows.qlexAgainRow.laid W) (hS : W.ShapedOpen Tryz.prog) : Gl W := by
  rw [MakeChecks.laidMetH_plain _ _ _ (by kernel_rfl)] at h
  exact gl_mk (x := ("math/bits.deBruijn32tab", Rows.laid_math_bits_deBruijn32tab)) (y := ("math/bits.deBruijn64tab", Rows.laid_math_bits_deBruijn64tab)) (rest := Rows.qlexAgainRow.laid.drop 3) h hS
theorem long (s : ByteArray) (w : World) (hg : Gl w) (h : 400 < s.size) : Calls Tryz.prog 7 #[.string s] w fun e w' => e = .returned (.bool true) ∧ Below w.heap.size w w' := by
  have A := hide (awakeQ_any w hg)
  have q : (400 : Int) < (s.size : Int) := by omega
  clear hg h
  go_enter Tryz.func7, Tryz.ntmps7
  go_wp2_with fail
  refine A.out.mono ?_
  rintro e w1 ⟨rfl, hb⟩
  have Hb := hide hb
  clear hb
  go_wp2
  go_ret
  exact ⟨rfl, Hb.out⟩
set_option maxRecDepth 20000 in
set_option maxHeartbeats 4000000 in
theorem walk (s : ByteArray) (w : World) (w0 : s.size ≤ maxLen) (hg : Gl w) :
    Calls Tryz.prog 7 #[.string s] w fun e w' => e = .returned (.bool true) ∧ Below w.heap.size w w' := by
  by_cases h : 400 < s.size
  · exact long s w hg h
  obtain ⟨l, rfl⟩ : ∃ l, s = bsQ l := ⟨_, bsQ_of s⟩
  have hz := bsQ_size l
  obtain ⟨⟨out, a, er⟩, hp⟩ : ∃ p, lexQ l = p := ⟨_, rfl⟩
  have LX := hide (fun (W : World) (hg : Gl W) => Lex_at l (by omega) out a er hp W hg)
  have AW := hide (fun (W : World) (hg : Gl W) => awakeQ_any W hg)
  have HG := hide hg
  have HL := hide hp
  have hl4 : l.length ≤ 400 := by omega
  have q0 : ¬ (400 : Int) < ((bsQ l).size : Int) := by omega
  generalize bsQ l = s at *
  clear hz hg h w0 hp
  go_enter Tryz.func7, Tryz.ntmps7
  go_wp2_with fail
  refine (LX.out _ HG.out).mono ?_
  rintro e w1 ⟨A, cap, rfl, hs1, hb1⟩
  have B1 := hide hb1
  have S1 := hide hs1
  have G1 := hide (HG.out.below hb1)
  clear hb1 hs1
  by_cases her : er = 0
  rotate_left
  · have e1 : (er == 0) = false := beq_eq_false_iff_ne.2 her
    have e2 : (er != 0) = true := by rw [bne, e1]; rfl
    have h0 : out = [] := lexQ_err HL.out her
    subst h0
    clear her
    go_wp2_with fail
    refine (AW.out _ G1.out).mono ?_
    rintro e w5 ⟨rfl, hb5⟩
    have B5 := hide (B1.out.trans (hb5.mono B1.out.size))
    clear hb5
    go_wp2
    go_ret
    exact ⟨rfl, B5.out⟩
  subst her
  obtain ⟨hv, h5, hjl, ys, hy, hal, hyl⟩ := lex_again HL.out hl4
  obtain ⟨n, hn⟩ : ∃ n, out.length = n := ⟨_, rfl⟩
  have hlx := hide (lexQ_ok HL.out)
  have VA := hide (fun (i : Nat) (hi : i < out.length) (W : World) (hg : Gl W) => show Calls Tryz.prog 19 #[.agg #[.int .i64 out[i].kind, .string (bsQ out[i].text), .int .i64 (out[i].at0 : Int)]] W fun e w' => e = .returned (.bool true) ∧ Below W.heap.size W w' from by
    have h1 := hv out[i] (List.getElem_mem hi)
    have h2 : out[i].text.length ≤ 10000 := by
      have := lexQ_text HL.out hl4 _ (List.getElem_mem hi)
      omega
    have := ValidQ_any out[i].kind (out[i].at0 : Int) out[i].text W h2 hg
    rw [h1] at this
    exact this)
  have JN := hide (fun (W : World) (hs : LxSl W A out) (hg : Gl W) => show Calls Tryz.prog 20 #[.slice A out.length cap] W fun e w' => e = .returned (.string (bsQ (joinY (out.map lyOf)))) ∧ Below W.heap.size W w' from by
    have := JoinQ_any A cap (out.map lyOf) W hs.ly (by rw [List.length_map]; omega) (by
      intro y hy
      obtain ⟨x, hx, rfl⟩ := List.mem_map.1 hy
      show x.text.length ≤ 1000
      exact lexQ_text HL.out hl4 x hx) hg
    rw [List.length_map] at this
    exact this)
  have LY := hide (fun (W : World) (hg : Gl W) => Lex_at (joinY (out.map lyOf)) (by omega) ys 0 0 hy W hg)
  have AL := hide (fun (A' : Option Addr) (cap' : Nat) (W : World) (h1 : LxSl W A out) (h2 : LxSl W A' ys) => show Calls Tryz.prog 21 #[.slice A out.length cap, .slice A' ys.length cap'] W fun e w' => e = .returned (.bool true) ∧ Below W.heap.size W w' from by
    have := Alike_any A A' cap cap' out ys W h1 h2 (by omega) (by omega)
    rw [hal] at this
    exact this)
  rw [hn] at JN AL ⊢
  have hn5 : n ≤ 512 := by omega
  have Hn := hide hn
  generalize joinY (out.map lyOf) = J at *
  generalize bsQ J = sj at *
  clear hv h5 hjl hy hal hyl hn
  go_wp2_with fail
  go_loopw [30] (fun v wr => ∃ i : Nat, v = .int .i64 (i : Int) ∧ i ≤ n ∧ Below w1.heap.size w1 wr) (fun v _ => n - (intOf v).toNat)
  case atStart => exact ⟨0, rfl, Nat.zero_le _, Below.refl _ _⟩
  case round =>
    obtain ⟨i, rfl, hi, hb⟩ := hrel
    have Hb := hide hb
    clear hb
    by_cases hlt : i < n
    · have hi' : (i : Int) < (n : Int) := by omega
      have hi0 : (0 : Int) ≤ (i : Int) := by omega
      have hw1 : IntKind.i64.wrap ((i : Int) + 1) = (i : Int) + 1 := IntWalk.i64_in _ (by omega)
      have hix : i < out.length := by rw [Hn.out]; exact hlt
      obtain ⟨b, off, rfl, hbz, hat⟩ := S1.out.at hix
      obtain ⟨c0, c1, c2⟩ := hat wr Hb.out
      have VI := hide (fun (W : World) (hg : Gl W) => VA.out i hix W hg)
      obtain ⟨y, hy⟩ : ∃ y, out[i]'hix = y := ⟨_, rfl⟩
      rw [hy] at c0 c1 c2 VI
      generalize bsQ y.text = sy at *
      have HB2 := hide (fun o => Hb.out.alloc Hb.out.size o)
      clear hat hy
      go_wp2_with fail
      refine (VI.out _ (G1.out.below (HB2.out _))).mono ?_
      rintro e w2 ⟨rfl, hb2⟩
      have Hb2 := hide ((HB2.out _).trans (hb2.mono (HB2.out _).size))
      clear hb2
      go_wp2
      go_roundw
      case rel => exact ⟨i + 1, by go_num, by omega, Hb2.out⟩
      case measure => simp [intOf]; omega
    · obtain rfl : i = n := by omega
      have hi' : ¬ (i : Int) < (i : Int) := by omega
      have S2 := hide (S1.out.below Hb.out)
      have G2 := hide (G1.out.below Hb.out)
      have B2 := hide (B1.out.trans (Hb.out.mono B1.out.size))
      go_wp2_with fail
      refine (JN.out _ S2.out G2.out).mono ?_
      rintro e w3 ⟨rfl, hb3⟩
      have S3 := hide (S2.out.below hb3)
      have G3 := hide (G2.out.below hb3)
      have B3 := hide (B2.out.trans (hb3.mono B2.out.size))
      clear hb3
      go_wp2_with fail
      refine (LY.out _ G3.out).mono ?_
      rintro e w4 ⟨A', cap', rfl, hs4, hb4⟩
      have S4 := hide (S3.out.below hb4)
      have S4' := hide hs4
      have G4 := hide (G3.out.below hb4)
      have B4 := hide (B3.out.trans (hb4.mono B3.out.size))
      clear hb4 hs4
      go_wp2_with fail
      refine (AL.out A' cap' _ S4.out S4'.out).mono ?_
      rintro e w5 ⟨rfl, hb5⟩
      have G5 := hide (G4.out.below hb5)
      have B5 := hide (B4.out.trans (hb5.mono B4.out.size))
      clear hb5
      go_wp2_with fail
      refine (AW.out _ G5.out).mono ?_
      rintro e w6 ⟨rfl, hb6⟩
      have B6 := hide (B5.out.trans (hb6.mono B5.out.size))
      clear hb6
      go_wp2
      go_ret
      exact ⟨rfl, B6.out⟩
end Go.Proofs.YtjlpekjfmgcbdaaGreatDoor.qlexAgain
