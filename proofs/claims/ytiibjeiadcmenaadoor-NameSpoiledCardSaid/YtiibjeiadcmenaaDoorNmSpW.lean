/- The walk of NameSpoiled. -/
import Derived.Test.YtiibjeiadcmenaaDoorNmK
import Derived.Lib.QuietBelow
set_option linter.unusedVariables false
set_option linter.unusedSimpArgs false
namespace Go.Proofs.YtiibjeiadcmenaaDoor.nameSpoiled
open Go.RowKit Go.Shelf Go.Sort

def bad (k : Nat) : UInt8 := ([46, 91, 93, 32, 9, 127] : List UInt8).getD k 0
def badCells : List Value := [.string ⟨#[46]⟩, .string ⟨#[91]⟩, .string ⟨#[93]⟩, .string ⟨#[32]⟩, .string ⟨#[9]⟩, .string ⟨#[127]⟩]
theorem badCells_at (k : Nat) (h : k < 6) : badCells[k]? = some (.string ⟨#[bad k]⟩) := by
  have : k = 0 ∨ k = 1 ∨ k = 2 ∨ k = 3 ∨ k = 4 ∨ k = 5 := by omega
  rcases this with rfl | rfl | rfl | rfl | rfl | rfl <;> rfl
theorem bad_no (k : Nat) (h : k < 6) : bad k ≠ 92 ∧ (prB (bad k) = false ∨ okC (bad k) = false) := by
  have : k = 0 ∨ k = 1 ∨ k = 2 ∨ k = 3 ∨ k = 4 ∨ k = 5 := by omega
  rcases this with rfl | rfl | rfl | rfl | rfl | rfl <;> decide
theorem spoil (l : List UInt8) (i : Nat) (c : UInt8) (hh : l.head? ≠ some 92) (hc : c ≠ 92) (hb : prB c = false ∨ okC c = false) : vN (l.take i ++ [c] ++ l.drop i) = false := by
  have hm : c ∈ l.take i ++ [c] ++ l.drop i := by simp
  have hhd : (l.take i ++ [c] ++ l.drop i).head? ≠ some 92 := by
    cases i with
    | zero => show some c ≠ some 92; exact fun e => hc (Option.some.inj e)
    | succ i =>
      cases l with
      | nil => show some c ≠ some 92; exact fun e => hc (Option.some.inj e)
      | cons a t => exact hh
  rw [vN_plain hhd]
  rcases hb with hb | hb
  · have : allPr (l.take i ++ [c] ++ l.drop i) = false := by
      unfold allPr; rw [List.all_eq_false]; exact ⟨c, hm, by rw [hb]; decide⟩
    rw [this, Bool.false_and, Bool.and_false]
  · have : (l.take i ++ [c] ++ l.drop i).all okC = false := by
      rw [List.all_eq_false]; exact ⟨c, hm, by rw [hb]; decide⟩
    rw [this, Bool.and_false, Bool.and_false, Bool.and_false]
theorem dollar_no (l : List UInt8) : vN (36 :: l) = false := by
  rw [vN_plain (by show some 36 ≠ some 92; decide)]
  show (_ && (_ && (decide ((36 :: l).head? ≠ some 36) && _))) = false
  rw [decide_eq_false (p := (36 :: l).head? ≠ some 36) (fun h => h rfl), Bool.false_and, Bool.and_false, Bool.and_false]
theorem slash (l : List UInt8) (h : vN l = true) : vN (92 :: l) = decide (l.length < 32) ∧ escN (92 :: l) = decide (l.length < 32) := by
  have h1 := (vN_len h).1
  have h2 := vN_pr h
  have e : vN (92 :: l) = decide (l.length < 32) := by
    rw [vN_esc rfl]
    have : allPr (92 :: l) = true := by unfold allPr at h2 ⊢; rw [List.all_cons, h2]; rfl
    rw [this, Bool.and_true, Bool.eq_iff_iff, decide_eq_true_eq, decide_eq_true_eq, List.length_cons]; omega
  refine ⟨e, ?_⟩
  cases hv : vN (92 :: l) with
  | true => rw [← e, hv]; exact escN_iff.2 ⟨rfl, hv⟩
  | false =>
    rw [← e, hv]
    cases he : escN (92 :: l) with
    | false => rfl
    | true => rw [(escN_iff.1 he).2] at hv; cases hv

set_option maxRecDepth 20000 in
set_option maxHeartbeats 8000000 in
theorem walk (s : ByteArray) (a : Int) (w : World) (hz : s.size ≤ maxLen) (wa : (Lit.int .u8 a).wf = true) (hg : Gl w) :
    Calls Tryd.prog 3 #[.string s, .int .u8 a] w fun e w' => e = .returned (.bool true) ∧ Below w.heap.size w w' := by
  have AW := hide (awake_any w hg)
  clear hg
  obtain ⟨a1, a2⟩ := u8_bounds wa
  unfold maxLen at hz
  have B0 := hide (Below.refl w.heap.size w)
  by_cases hbig : 40 < s.size
  · have h60 : (40 : Int) < (s.size : Int) := by omega
    go_enter Tryd.func3, Tryd.ntmps3
    go_wp2_with fail
    refine (AW.out).mono ?_
    rintro e w1 ⟨rfl, hb⟩
    have B1 := hide (B0.out.trans (hb.mono B0.out.size))
    clear hb
    go_wp2
    go_ret
    exact ⟨rfl, B1.out⟩
  have h60 : (s.size : Int) ≤ 40 := by omega
  have V := hide (fun W : World => Valid_any s W (by omega))
  have E := hide (fun W : World => Escaped_any s W (by omega))
  cases hv : vN s.data.toList with
  | false =>
    rw [hv] at V
    clear hv
    go_enter Tryd.func3, Tryd.ntmps3
    go_wp2_with fail
    refine (AW.out).mono ?_
    rintro e w1 ⟨rfl, hb⟩
    have B1 := hide (B0.out.trans (hb.mono B0.out.size))
    clear hb
    go_wp2_with fail
    refine (V.out _).mono ?_
    rintro e w2 ⟨rfl, hb⟩
    have B2 := hide (B1.out.trans (hb.mono B1.out.size))
    clear hb
    go_wp2
    go_ret
    exact ⟨rfl, B2.out⟩
  | true =>
    rw [hv] at V
    cases he : escN s.data.toList with
    | true =>
      rw [he] at E
      clear hv he
      go_enter Tryd.func3, Tryd.ntmps3
      go_wp2_with fail
      refine (AW.out).mono ?_
      rintro e w1 ⟨rfl, hb⟩
      have B1 := hide (B0.out.trans (hb.mono B0.out.size))
      clear hb
      go_wp2_with fail
      refine (V.out _).mono ?_
      rintro e w2 ⟨rfl, hb⟩
      have B2 := hide (B1.out.trans (hb.mono B1.out.size))
      clear hb
      go_wp2_with fail
      refine (E.out _).mono ?_
      rintro e w3 ⟨rfl, hb⟩
      have B3 := hide (B2.out.trans (hb.mono B2.out.size))
      clear hb
      go_wp2
      go_ret
      exact ⟨rfl, B3.out⟩
    | false =>
      rw [he] at E
      have hh : s.data.toList.head? ≠ some 92 := fun h => by rw [escN_iff.2 ⟨h, hv⟩] at he; cases he
      obtain ⟨s1, s2⟩ := slash s.data.toList hv
      have hlen := size_list s
      rw [hlen] at s1 s2
      have D1 := hide (fun W : World => Valid_any (⟨#[36]⟩ ++ s) W (by rw [ByteArray.size_append]; show 1 + _ ≤ _; omega))
      rw [show (⟨#[36]⟩ ++ s : ByteArray).data.toList = 36 :: s.data.toList by simp, dollar_no] at D1
      have D2 := hide (fun W : World => Valid_any (⟨#[92]⟩ ++ s) W (by rw [ByteArray.size_append]; show 1 + _ ≤ _; omega))
      rw [show (⟨#[92]⟩ ++ s : ByteArray).data.toList = 92 :: s.data.toList by simp, s1] at D2
      have D3 := hide (fun W : World => Escaped_any (⟨#[92]⟩ ++ s) W (by rw [ByteArray.size_append]; show 1 + _ ≤ _; omega))
      rw [show (⟨#[92]⟩ ++ s : ByteArray).data.toList = 92 :: s.data.toList by simp, s2] at D3
      have c1 := fun W => cat_run (P := Tryd.prog) ⟨#[36]⟩ s (by show 1 + _ ≤ _; omega) W
      have c2 := fun W => cat_run (P := Tryd.prog) ⟨#[92]⟩ s (by show 1 + _ ≤ _; omega) W
      have b32 : decide (s.size < 32) = decide ((s.size : Int) < 32) := by rw [Bool.eq_iff_iff, decide_eq_true_eq, decide_eq_true_eq]; omega
      rw [b32] at D2 D3
      -- the place
      have q0 : (0 : Int) ≤ a % ((s.size : Int) + 1) := Int.emod_nonneg _ (by omega)
      have q1 : a % ((s.size : Int) + 1) < (s.size : Int) + 1 := Int.emod_lt_of_pos _ (by omega)
      have q2 : a.tmod ((s.size : Int) + 1) = a % ((s.size : Int) + 1) := IntWalk.rem_in _ _ a1
      obtain ⟨i, hi⟩ : ∃ i : Nat, a % ((s.size : Int) + 1) = i := ⟨(a % ((s.size : Int) + 1)).toNat, by omega⟩
      rw [hi] at q0 q1 q2
      have his : i ≤ s.size := by omega
      have SP := hide (fun (k : Nat) (hk : k < 6) (W : World) => (show Calls Tryd.prog 11 #[.string (s.extract 0 i ++ ⟨#[bad k]⟩ ++ s.extract i s.size)] W fun e w' => e = .returned (.bool false) ∧ Below W.heap.size W w' from by
        have h := Valid_any (s.extract 0 i ++ ⟨#[bad k]⟩ ++ s.extract i s.size) W (by
          have z1 : (s.extract 0 i).size ≤ s.size := by rw [ByteArray.size_extract]; omega
          have z2 : (s.extract i s.size).size ≤ s.size := by rw [ByteArray.size_extract]; omega
          rw [ByteArray.size_append, ByteArray.size_append]
          show _ + 1 + _ ≤ _
          omega)
        have hl : (s.extract 0 i ++ ⟨#[bad k]⟩ ++ s.extract i s.size).data.toList = s.data.toList.take i ++ [bad k] ++ s.data.toList.drop i := by
          rw [show ∀ a b : ByteArray, (a ++ b).data.toList = a.data.toList ++ b.data.toList from fun a b => by simp, show ∀ a b : ByteArray, (a ++ b).data.toList = a.data.toList ++ b.data.toList from fun a b => by simp, Lib.extract_from_zero, Lib.extract_to_end]
        rw [hl, spoil _ i _ hh (bad_no k hk).1 (bad_no k hk).2] at h
        exact h))
      have CT := hide (fun (k : Nat) (W : World) => (show (Op.stringOp .add (s.extract 0 i) ⟨#[bad k]⟩).run Tryd.prog W = .ok (.string (s.extract 0 i ++ ⟨#[bad k]⟩)) W ∧ (Op.stringOp .add (s.extract 0 i ++ ⟨#[bad k]⟩) (s.extract i s.size)).run Tryd.prog W = .ok (.string (s.extract 0 i ++ ⟨#[bad k]⟩ ++ s.extract i s.size)) W from by
        have z1 : (s.extract 0 i).size ≤ s.size := by rw [ByteArray.size_extract]; omega
        have z2 : (s.extract i s.size).size ≤ s.size := by rw [ByteArray.size_extract]; omega
        exact ⟨cat_run _ _ (by show _ + 1 ≤ _; omega) W, cat_run _ _ (by rw [ByteArray.size_append]; show _ + 1 + _ ≤ _; omega) W⟩))
      have q3 : (i : Int) ≤ (s.size : Int) := by omega
      clear hv he hh s1 s2 hlen b32 hi hbig wa hz
      go_enter Tryd.func3, Tryd.ntmps3
      go_wp2_with fail
      refine (AW.out).mono ?_
      rintro e w1 ⟨rfl, hb⟩
      have B1 := hide (B0.out.trans (hb.mono B0.out.size))
      clear hb
      go_wp2_with fail
      refine (V.out _).mono ?_
      rintro e w2 ⟨rfl, hb⟩
      have B2 := hide (B1.out.trans (hb.mono B1.out.size))
      clear hb
      go_wp2_with fail
      refine (E.out _).mono ?_
      rintro e w3 ⟨rfl, hb⟩
      have B3 := hide (B2.out.trans (hb.mono B2.out.size))
      clear hb
      have HR := hide (Row.new w3 9 badCells.toArray)
      have HB3 := hide (B3.out.alloc B3.out.size (.cells badCells.toArray 9))
      go_wp2
      go_loopw [30] (fun v wr => ∃ k : Nat, v = .int .i64 k ∧ k ≤ 6 ∧ Row wr w3.heap.size 9 badCells.toArray ∧ Below w.heap.size w wr) (fun v _ => 6 - (intOf v).toNat)
      case atStart => exact ⟨0, rfl, Nat.zero_le _, HR.out, HB3.out⟩
      case round =>
        obtain ⟨k, rfl, hk, hrow, hb⟩ := hrel
        have Hrow := hide hrow
        have Hb := hide hb
        by_cases hlt : k < 6
        · have e1 := badCells_at k hlt
          have y1 : wr.cell? ⟨w3.heap.size, k, none⟩ = some (.string ⟨#[bad k]⟩) := by rw [hrow.cell]; simpa using e1
          have hlt' : (k : Int) < 6 := by omega
          have cV : ∀ d os, Calls Tryd.prog 11 #[.string (s.extract 0 i ++ ⟨#[bad k]⟩ ++ s.extract i s.size)] (grow (redrawn wr d) os) fun e w'' => e = .returned (.bool false) ∧ ∃ p : Regrown, w'' = grow (redrawn wr p.d) p.os := fun d os => Calls.regrown_of (SP.out k hlt _)
          have CV := hide cV
          have d1 := fun W => (CT.out k W).1
          have d2 := fun W => (CT.out k W).2
          clear hrow hb e1 cV hk
          generalize bad k = c at *
          go_wp2_with fail
          refine wp_region_quiet_below (by kernel_rfl) (by kernel_rfl) ?_
          repeat (go_big_quiet_step (exact CV.out _ _))
          refine wpQuiet_nil ?_
          intro _ hw'
          obtain ⟨⟨dq, osq⟩, hw''⟩ := hw'
          subst hw''
          go_wp2
          go_roundw
          case rel => exact ⟨k + 1, by go_num, by omega, Hrow.out.below (below_regrown wr dq osq) Hrow.out.lt, Hb.out.trans ((below_regrown wr dq osq).mono Hb.out.size)⟩
          case measure => simp [intOf]; omega
        · obtain rfl : k = 6 := by omega
          have B4 := hide hb
          clear hrow hb
          go_wp2_with fail
          refine (D1.out _).mono ?_
          rintro e w5 ⟨rfl, hb⟩
          have B5 := hide (B4.out.trans (hb.mono B4.out.size))
          clear hb
          go_wp2_with fail
          refine (D2.out _).mono ?_
          rintro e w6 ⟨rfl, hb⟩
          have B6 := hide (B5.out.trans (hb.mono B5.out.size))
          clear hb
          go_wp2_with fail
          refine (D3.out _).mono ?_
          rintro e w7 ⟨rfl, hb⟩
          have B7 := hide (B6.out.trans (hb.mono B6.out.size))
          clear hb
          go_wp2
          go_ret
          exact ⟨rfl, B7.out⟩
end Go.Proofs.YtiibjeiadcmenaaDoor.nameSpoiled
