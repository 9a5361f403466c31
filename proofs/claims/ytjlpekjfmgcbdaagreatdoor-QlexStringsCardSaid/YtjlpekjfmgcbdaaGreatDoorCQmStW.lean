/- The walk of QlexStrings. -/
import Derived.Test.YtjlpekjfmgcbdaaGreatDoorMgF
import Derived.Test.YtjlpekjfmgcbdaaGreatDoorRows
import Derived.MakeChecks
set_option linter.unusedVariables false
set_option linter.unusedSimpArgs false
namespace Go.Proofs.YtjlpekjfmgcbdaaGreatDoor.qlexStrings
open Go.RowKit Go.Shelf
theorem gl_of {W : World} (h : laidMetH Tryz.prog Rows.qlexStringsRow.laid W) (hS : W.ShapedOpen Tryz.prog) : Gl W := by
  rw [MakeChecks.laidMetH_plain _ _ _ (by kernel_rfl)] at h
  exact gl_mk (x := ("math/bits.deBruijn32tab", Rows.laid_math_bits_deBruijn32tab)) (y := ("math/bits.deBruijn64tab", Rows.laid_math_bits_deBruijn64tab)) (rest := Rows.qlexStringsRow.laid.drop 3) h hS
theorem long (s : ByteArray) (w : World) (hg : Gl w) (h : 100 < s.size) : Calls Tryz.prog 6 #[.string s] w fun e w' => e = .returned (.bool true) ∧ Below w.heap.size w w' := by
  have A := hide (awakeQ_any w hg)
  have q : (100 : Int) < (s.size : Int) := by omega
  clear hg h
  go_enter Tryz.func6, Tryz.ntmps6
  go_wp2_with fail
  refine A.out.mono ?_
  rintro e w1 ⟨rfl, hb⟩
  have Hb := hide hb
  clear hb
  go_wp2
  go_ret
  exact ⟨rfl, Hb.out⟩
set_option maxRecDepth 20000 in
set_option maxHeartbeats 4000000 in
theorem walk (s : ByteArray) (w : World) (w0 : s.size ≤ maxLen) (hg : Gl w) :
    Calls Tryz.prog 6 #[.string s] w fun e w' => e = .returned (.bool true) ∧ Below w.heap.size w w' := by
  by_cases h : 100 < s.size
  · exact long s w hg h
  obtain ⟨l, rfl⟩ : ∃ l, s = bsQ l := ⟨_, bsQ_of s⟩
  have hz := bsQ_size l
  have hl : l.length ≤ 100 := by omega
  have he := escs_len l
  have hq := quoQ_len l
  have Q := hide (fun W : World => quoteQl_any l W (by omega))
  have U := hide (fun W : World => unquoteQl_any (quoQ l) W (by omega))
  have AW := hide (fun (W : World) (hg : Gl W) => awakeQ_any W hg)
  have HG := hide hg
  have hx := lexQ_quo l hl
  have hu := unqQ_quo l
  rw [hu] at U
  have q0 : ¬ (100 : Int) < ((bsQ l).size : Int) := by omega
  by_cases hbig : 64 < l.length
  · rw [if_pos hbig] at hx U
    have LX := hide (fun (W : World) (hg : Gl W) => Lex_at (quoQ l) (by omega) _ _ _ hx W hg)
    have LX := hide (fun (W : World) (hg : Gl W) => show Calls Tryz.prog 10 #[.string (bsQ (quoQ l))] W fun e w' => ∃ A cap, e = .returned (.tuple #[.slice A 0 cap, .int .i64 0, .int .i64 9]) ∧ LxSl w' A [] ∧ Below W.heap.size W w' from LX.out W hg)
    have U := hide (fun W : World => show Calls Tryz.prog 15 #[.string (bsQ (quoQ l))] W fun e w' => e = .returned (.tuple #[.string ⟨#[]⟩, .int .i64 9]) ∧ Below W.heap.size W w' from U.out W)
    have q1 : (64 : Int) < ((bsQ l).size : Int) := by omega
    generalize bsQ (quoQ l) = t at *
    generalize bsQ l = s at *
    clear hz hl he hq hg hx hu hbig h w0
    go_enter Tryz.func6, Tryz.ntmps6
    go_wp2_with fail
    refine (Q.out _).mono ?_
    rintro e w1 ⟨rfl, hb1⟩
    have B1 := hide hb1
    clear hb1
    go_wp2_with fail
    refine (U.out _).mono ?_
    rintro e w2 ⟨rfl, hb2⟩
    have B2 := hide (B1.out.trans (hb2.mono B1.out.size))
    clear hb2
    go_wp2_with fail
    refine (Q.out _).mono ?_
    rintro e w3 ⟨rfl, hb3⟩
    have B3 := hide (B2.out.trans (hb3.mono B2.out.size))
    clear hb3
    have G3 := hide (HG.out.below B3.out)
    go_wp2_with fail
    refine (LX.out _ G3.out).mono ?_
    rintro e w4 ⟨A, cap, rfl, _, hb4⟩
    have B4 := hide (B3.out.trans (hb4.mono B3.out.size))
    clear hb4
    have G4 := hide (HG.out.below B4.out)
    go_wp2_with fail
    refine (AW.out _ G4.out).mono ?_
    rintro e w5 ⟨rfl, hb5⟩
    have B5 := hide (B4.out.trans (hb5.mono B4.out.size))
    clear hb5
    go_wp2
    go_ret
    exact ⟨rfl, B5.out⟩
  · rw [if_neg hbig] at hx U
    have LX := hide (fun (W : World) (hg : Gl W) => Lex_at (quoQ l) (by omega) _ _ _ hx W hg)
    have LX := hide (fun (W : World) (hg : Gl W) => show Calls Tryz.prog 10 #[.string (bsQ (quoQ l))] W fun e w' => ∃ A cap, e = .returned (.tuple #[.slice A 1 cap, .int .i64 0, .int .i64 0]) ∧ LxSl w' A [⟨5, l, 0⟩] ∧ Below W.heap.size W w' from LX.out W hg)
    have U := hide (fun W : World => show Calls Tryz.prog 15 #[.string (bsQ (quoQ l))] W fun e w' => e = .returned (.tuple #[.string (bsQ l), .int .i64 0]) ∧ Below W.heap.size W w' from U.out W)
    have q1 : ¬ (64 : Int) < ((bsQ l).size : Int) := by omega
    generalize bsQ (quoQ l) = t at *
    have hat := fun (A : Option Addr) (W : World) (h : LxSl W A [⟨5, l, 0⟩]) => h Nat.one_pos
    obtain ⟨s, hs⟩ : ∃ s, bsQ l = s := ⟨_, rfl⟩
    have HC := hide (fun (A : Option Addr) (W : World) (h : LxSl W A [⟨5, l, 0⟩]) => show ∃ b off, A = some ⟨b, off, none⟩ ∧ W.cell? ⟨b, off, none⟩ = some (.int .i64 5) ∧ W.cell? ⟨b, off + 1, none⟩ = some (.string s) ∧ W.cell? ⟨b, off + 2, none⟩ = some (.int .i64 0) by
      obtain ⟨b, off, rfl, hc⟩ := hat A W h
      obtain ⟨c0, c1, c2⟩ := hc 0 Nat.one_pos
      rw [← hs]
      exact ⟨b, off, rfl, by simpa using c0, by simpa using c1, by simpa using c2⟩)
    rw [hs] at Q U q0 q1 ⊢
    clear hz hl he hq hg hx hu hbig h w0 hat hs
    have es : (s.toList == s.toList) = true := beq_self_eq_true _
    go_enter Tryz.func6, Tryz.ntmps6
    go_wp2_with fail
    refine (Q.out _).mono ?_
    rintro e w1 ⟨rfl, hb1⟩
    have B1 := hide hb1
    clear hb1
    go_wp2_with fail
    refine (U.out _).mono ?_
    rintro e w2 ⟨rfl, hb2⟩
    have B2 := hide (B1.out.trans (hb2.mono B1.out.size))
    clear hb2
    go_wp2_with fail
    refine (Q.out _).mono ?_
    rintro e w3 ⟨rfl, hb3⟩
    have B3 := hide (B2.out.trans (hb3.mono B2.out.size))
    clear hb3
    have G3 := hide (HG.out.below B3.out)
    go_wp2_with fail
    refine (LX.out _ G3.out).mono ?_
    rintro e w4 ⟨A, cap, rfl, hs4, hb4⟩
    have B4 := hide (B3.out.trans (hb4.mono B3.out.size))
    clear hb4
    have G4 := hide (HG.out.below B4.out)
    obtain ⟨bm, om, rfl, m0, m1, m2⟩ := HC.out A w4 hs4
    clear hs4
    go_wp2_with fail
    refine (AW.out _ G4.out).mono ?_
    rintro e w5 ⟨rfl, hb5⟩
    have B5 := hide (B4.out.trans (hb5.mono B4.out.size))
    clear hb5
    go_wp2
    go_ret
    exact ⟨rfl, B5.out⟩
end Go.Proofs.YtjlpekjfmgcbdaaGreatDoor.qlexStrings
