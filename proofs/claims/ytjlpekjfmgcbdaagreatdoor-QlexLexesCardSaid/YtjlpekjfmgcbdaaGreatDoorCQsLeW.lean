/- The walk of QlexLexes. -/
import Derived.Test.YtjlpekjfmgcbdaaGreatDoorMgP
import Derived.Test.YtjlpekjfmgcbdaaGreatDoorRows
import Derived.MakeChecks
set_option linter.unusedVariables false
set_option linter.unusedSimpArgs false
namespace Go.Proofs.YtjlpekjfmgcbdaaGreatDoor.qlexLexes
open Go.RowKit Go.Shelf
theorem gl_of {W : World} (h : laidMetH Tryz.prog Rows.qlexLexesRow.laid W) (hS : W.ShapedOpen Tryz.prog) : Gl W := by
  rw [MakeChecks.laidMetH_plain _ _ _ (by kernel_rfl)] at h
  exact gl_mk (x := ("math/bits.deBruijn32tab", Rows.laid_math_bits_deBruijn32tab)) (y := ("math/bits.deBruijn64tab", Rows.laid_math_bits_deBruijn64tab)) (rest := Rows.qlexLexesRow.laid.drop 3) h hS
theorem lexF_len : ∀ (xs : List (Nat × Wq)) (out : List Lx), out.length ≤ 512 → (lexF xs out).1.length ≤ 512
  | [], out, h => h
  | (a, x) :: r, out, h => by
    show (if x.err = 0 then _ else _ : List Lx × Nat × Int).1.length ≤ 512
    by_cases h1 : x.err = 0
    · rw [if_pos h1]
      by_cases h2 : out.length = 512
      · rw [if_pos h2]; exact Nat.zero_le _
      · rw [if_neg h2]
        exact lexF_len r _ (by rw [List.length_append]; show out.length + 1 ≤ 512; omega)
    · rw [if_neg h1]; exact Nat.zero_le _
theorem lexQ_len {l : List UInt8} {out : List Lx} {a : Nat} {er : Int} (h : lexQ l = (out, a, er)) : out.length ≤ 512 := by
  have h2 : (lexQ l).1.length ≤ 512 := by
    unfold lexQ
    by_cases hb : 16384 < l.length
    · rw [if_pos hb]; exact Nat.zero_le _
    · rw [if_neg hb]; exact lexF_len _ _ (Nat.zero_le _)
  rw [h] at h2
  exact h2
theorem long (s : ByteArray) (w : World) (hg : Gl w) (h : 400 < s.size) : Calls Tryz.prog 3 #[.string s] w fun e w' => e = .returned (.bool true) ∧ Below w.heap.size w w' := by
  have A := hide (awakeQ_any w hg)
  have q : (400 : Int) < (s.size : Int) := by omega
  clear hg h
  go_enter Tryz.func3, Tryz.ntmps3
  go_wp2_with fail
  refine A.out.mono ?_
  rintro e w1 ⟨rfl, hb⟩
  have Hb := hide hb
  clear hb
  go_wp2
  go_ret
  exact ⟨rfl, Hb.out⟩
set_option maxRecDepth 20000 in
set_option maxHeartbeats 4000000 in
theorem walk (s : ByteArray) (w : World) (w0 : s.size ≤ maxLen) (hg : Gl w) :
    Calls Tryz.prog 3 #[.string s] w fun e w' => e = .returned (.bool true) ∧ Below w.heap.size w w' := by
  by_cases h : 400 < s.size
  · exact long s w hg h
  obtain ⟨l, rfl⟩ : ∃ l, s = bsQ l := ⟨_, bsQ_of s⟩
  have hz := bsQ_size l
  obtain ⟨⟨out, a, er⟩, hp⟩ : ∃ p, lexQ l = p := ⟨_, rfl⟩
  have LX := hide (fun (W : World) (hg : Gl W) => Lex_at l (by omega) out a er hp W hg)
  have RX := hide (fun W : World => refLex_at l (by omega) out a er hp W)
  have hlo : out.length ≤ 512 := lexQ_len hp
  have SM := hide (fun (A A' : Option Addr) (cap cap' : Nat) (W : World) (h1 : LxSl W A out) (h2 : LxSl W A' out) => Same_self A A' cap cap' out W h1 h2 (by omega))
  have AW := hide (fun (W : World) (hg : Gl W) => awakeQ_any W hg)
  have HG := hide hg
  have q0 : ¬ (400 : Int) < ((bsQ l).size : Int) := by omega
  generalize bsQ l = s at *
  have e1 : (er == er) = true := beq_self_eq_true _
  have e2 : ((a : Int) == (a : Int)) = true := beq_self_eq_true _
  clear hz hg h w0 hp hlo
  go_enter Tryz.func3, Tryz.ntmps3
  go_wp2_with fail
  refine (LX.out _ HG.out).mono ?_
  rintro e w1 ⟨A, cap, rfl, hs1, hb1⟩
  have B1 := hide hb1
  have S1 := hide hs1
  clear hb1 hs1
  go_wp2_with fail
  refine (RX.out _).mono ?_
  rintro e w2 ⟨A', cap', rfl, hs2, hb2⟩
  have S1 := hide (S1.out.below hb2)
  have S2 := hide hs2
  have B2 := hide (B1.out.trans (hb2.mono B1.out.size))
  clear hb2 hs2
  go_wp2_with fail
  refine (SM.out _ _ _ _ _ S1.out S2.out).mono ?_
  rintro e w3 ⟨rfl, hb3⟩
  have B3 := hide (B2.out.trans (hb3.mono B2.out.size))
  clear hb3
  have G3 := hide (HG.out.below B3.out)
  go_wp2_with fail
  refine (AW.out _ G3.out).mono ?_
  rintro e w5 ⟨rfl, hb5⟩
  have B5 := hide (B3.out.trans (hb5.mono B3.out.size))
  clear hb5
  go_wp2
  go_ret
  exact ⟨rfl, B5.out⟩
end Go.Proofs.YtjlpekjfmgcbdaaGreatDoor.qlexLexes
