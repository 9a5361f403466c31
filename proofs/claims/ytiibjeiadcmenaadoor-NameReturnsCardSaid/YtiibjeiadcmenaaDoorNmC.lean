/- Contract of name.Range. -/
import Derived.Test.YtiibjeiadcmenaaDoorNmB
set_option linter.unusedVariables false
set_option linter.unusedSimpArgs false
namespace Go.Proofs.YtiibjeiadcmenaaDoor
open Go.RowKit Go.Shelf Go.Sort

theorem Keeps.to_below {b : Nat} {w w' : World} {o : Obj} (hb : b = w.heap.size) (h : Keeps (fun c => c = b) (w.alloc o) w') : Below w.heap.size w w' :=
  ((Below.refl w.heap.size w).alloc (Nat.le_refl _) o).trans (h.below (by rintro c rfl; exact Nat.le_of_eq hb.symm) (by rw [World.size_alloc]; exact Nat.le_succ _))
theorem bstr_ne {l m : List UInt8} (h : ¬ l = m) : ¬ bstr l = bstr m := fun e => h (by have := congrArg (fun b : ByteArray => b.data.toList) e; exact this)
theorem toList_beq {a b : ByteArray} (h : ¬ a = b) : (a.toList == b.toList) = false := beq_eq_false_iff_ne.2 fun e => h (Go.WideShapes.bytes_inj (by rw [← Lib.toList_data, ← Lib.toList_data, e]))
theorem numS_len (l : List UInt8) : (numS l).2.2.length ≤ l.length := by
  have hr : (numS l).2.2 = (takeS l [45]).2.drop (nd (takeS l [45]).2) := by unfold numS; split <;> rfl
  rw [hr, List.length_drop, takeS_one]
  split
  · simp only [List.length_tail]; omega
  · show l.length - _ ≤ _; omega
theorem takeS_len (l p : List UInt8) : (takeS l p).2.length ≤ l.length := by
  unfold takeS; split
  · simp only [List.length_drop]; omega
  · exact Nat.le_refl _
def Ret3 (r : Int × Int × Int) (B : Nat) (w : World) (e : Ending) (w' : World) : Prop := e = .returned (.tuple #[.int .i64 r.1, .int .i64 r.2.1, .int .i64 r.2.2]) ∧ Below B w w'

set_option maxRecDepth 20000 in
set_option maxHeartbeats 8000000 in
theorem Range_any (s : ByteArray) (w : World) (hz : s.size ≤ 1000000) :
    Calls Tryd.prog 16 #[.string s] w (Ret3 (rangeS s.data.toList) w.heap.size w) := by
  have hlen := size_list s
  obtain ⟨l, hl⟩ : ∃ l, s.data.toList = l := ⟨_, rfl⟩
  have hs : s = bstr l := by rw [← hl]; rfl
  subst hs
  have hR : rangeS l = if !(takeS l [91]).1 || !(numS (takeS l [91]).2).2.1 || !(lsbS (numS (takeS l [91]).2).2.2 (numS (takeS l [91]).2).1).2.1 || !decide ((lsbS (numS (takeS l [91]).2).2.2 (numS (takeS l [91]).2).1).2.2 = [93]) then (0, 0, 3)
    else if !bdB (numS (takeS l [91]).2).1 || !bdB (lsbS (numS (takeS l [91]).2).2.2 (numS (takeS l [91]).2).1).1 then (0, 0, 2)
    else ((numS (takeS l [91]).2).1, (lsbS (numS (takeS l [91]).2).2.2 (numS (takeS l [91]).2).1).1, 0) := rfl
  rw [hl] at hlen
  have z1 := takeS_len l [91]
  have z2 := numS_len (takeS l [91]).2
  have z3 := takeS_len (numS (takeS l [91]).2).2.2 [58]
  have T1 := hide (fun (W : World) (h : SC W w.heap.size l) => take_any w.heap.size l [91] W h)
  have T2 := hide (fun (W : World) (h : SC W w.heap.size (takeS l [91]).2) => number_any w.heap.size (takeS l [91]).2 W h (by omega))
  have T3 := hide (fun (W : World) (h : SC W w.heap.size (numS (takeS l [91]).2).2.2) => take_any w.heap.size (numS (takeS l [91]).2).2.2 [58] W h)
  have T4 := hide (fun (W : World) (h : SC W w.heap.size (takeS (numS (takeS l [91]).2).2.2 [58]).2) => number_any w.heap.size (takeS (numS (takeS l [91]).2).2.2 [58]).2 W h (by omega))
  rw [hl]
  generalize rangeS l = R at hR ⊢
  generalize takeS l [91] = t1 at *
  obtain ⟨o, l1⟩ := t1
  simp only at *
  generalize numS l1 = t2 at *
  obtain ⟨m, ok, l2⟩ := t2
  simp only at *
  have hLS : lsbS l2 m = if (takeS l2 [58]).1 then numS (takeS l2 [58]).2 else (m, true, (takeS l2 [58]).2) := rfl
  generalize lsbS l2 m = LS at *
  generalize takeS l2 [58] = t3 at *
  obtain ⟨c, l3⟩ := t3
  simp only at *
  obtain ⟨n, is, l4⟩ := LS
  simp only at *
  have HR := hide hR
  have HLS := hide hLS
  clear hR hLS z1 z2 z3 hlen hl hz
  have BM := hide (fun W : World => bound_any m W)
  have BN := hide (fun W : World => bound_any n W)
  go_enter Tryd.func16, Tryd.ntmps16
  go_wp2_with fail
  refine (T1.out _ (Row.new w _ _)).mono ?_
  rintro e w1 ⟨rfl, hr1, hk1⟩
  have R1 := hide hr1
  have K1 := hide hk1
  clear hr1 hk1
  go_wp2_with fail
  refine (T2.out _ R1.out).mono ?_
  rintro e w2 ⟨rfl, hr2, hk2⟩
  have R2 := hide hr2
  have K2 := hide (K1.out.trans hk2)
  clear hr2 hk2
  go_wp2_with fail
  refine (T3.out _ R2.out).mono ?_
  rintro e w3 ⟨rfl, hr3, hk3⟩
  have R3 := hide hr3
  have K3 := hide (K2.out.trans hk3)
  clear hr3 hk3
  go_upto_if 23 with fail
  go_cut [9, 10] (fun vl vi wx => vl = .int .i64 n ∧ vi = .bool is ∧ SC wx w.heap.size l4 ∧ Keeps (fun c => c = w.heap.size) (w.alloc (.cells #[.string (bstr l)] 53)) wx)
  case first =>
    cases c with
    | true =>
      go_wp2_with fail
      refine (T4.out _ R3.out).mono ?_
      rintro e w4 ⟨rfl, hr4, hk4⟩
      have R4 := hide hr4
      have K4 := hide (K3.out.trans hk4)
      have hl2 := HLS.out
      simp only [if_true] at hl2
      rw [← hl2] at R4 ⊢
      clear hr4 hk4 hl2
      go_wp2_with fail
      go_meet
      exact ⟨rfl, rfl, R4.out, K4.out⟩
    | false =>
      have hl2 := HLS.out
      simp only [Bool.false_eq_true, if_false] at hl2
      obtain ⟨e1, e2⟩ := Prod.mk.inj hl2
      obtain ⟨e2, e3⟩ := Prod.mk.inj e2
      subst e1 e2 e3
      clear hl2
      go_wp2_with fail
      go_meet
      exact ⟨rfl, rfl, R3.out, K3.out⟩
  case rest =>
    obtain ⟨rfl, rfl, hr4, hk4⟩ := hcut
    have hc : wc.cell? ⟨w.heap.size, 0, none⟩ = some (.string (bstr l4)) := hr4.cell 0
    have HB := hide (Keeps.to_below rfl hk4)
    clear hr4 hk4
    have hR := HR.out
    clear HR HLS T1 T2 T3 T4 R1 R2 R3 K1 K2 K3
    cases o with
    | false =>
      simp only [Bool.not_false, Bool.not_true, Bool.true_or, Bool.false_or, Bool.or_true, Bool.or_false, if_true, if_false, Bool.false_eq_true] at hR
      subst hR
      go_wp2
      go_ret3
      exact ⟨rfl, HB.out⟩
    | true =>
      cases ok with
      | false =>
        simp only [Bool.not_false, Bool.not_true, Bool.true_or, Bool.false_or, Bool.or_true, Bool.or_false, if_true, if_false, Bool.false_eq_true] at hR
        subst hR
        go_wp2
        go_ret3
        exact ⟨rfl, HB.out⟩
      | true =>
        cases is with
        | false =>
          simp only [Bool.not_false, Bool.not_true, Bool.true_or, Bool.false_or, Bool.or_true, Bool.or_false, if_true, if_false, Bool.false_eq_true] at hR
          subst hR
          go_wp2
          go_ret3
          exact ⟨rfl, HB.out⟩
        | true =>
          by_cases h93 : l4 = [93]
          · subst h93
            have hc2 : wc.cell? ⟨w.heap.size, 0, none⟩ = some (.string ⟨#[93]⟩) := hc
            clear hc
            rw [decide_eq_true rfl] at hR
            simp only [Bool.not_false, Bool.not_true, Bool.true_or, Bool.false_or, Bool.or_true, Bool.or_false, if_true, if_false, Bool.false_eq_true] at hR
            generalize bdB m = bm at BM hR
            generalize bdB n = bn at BN hR
            cases bm with
            | false =>
              simp only [Bool.not_false, Bool.not_true, Bool.true_or, Bool.false_or, Bool.or_true, Bool.or_false, if_true, if_false, Bool.false_eq_true] at hR
              subst hR
              go_wp2_with fail
              refine (BM.out _).mono ?_
              rintro e wx ⟨rfl, rfl⟩
              go_wp2
              go_ret3
              exact ⟨rfl, HB.out⟩
            | true =>
              cases bn with
              | false =>
                simp only [Bool.not_false, Bool.not_true, Bool.true_or, Bool.false_or, Bool.or_true, Bool.or_false, if_true, if_false, Bool.false_eq_true] at hR
                subst hR
                go_wp2_with fail
                refine (BM.out _).mono ?_
                rintro e wx ⟨rfl, rfl⟩
                go_wp2_with fail
                refine (BN.out _).mono ?_
                rintro e wx ⟨rfl, rfl⟩
                go_wp2
                go_ret3
                exact ⟨rfl, HB.out⟩
              | true =>
                simp only [Bool.not_false, Bool.not_true, Bool.true_or, Bool.false_or, Bool.or_true, Bool.or_false, if_true, if_false, Bool.false_eq_true] at hR
                subst hR
                go_wp2_with fail
                refine (BM.out _).mono ?_
                rintro e wx ⟨rfl, rfl⟩
                go_wp2_with fail
                refine (BN.out _).mono ?_
                rintro e wx ⟨rfl, rfl⟩
                go_wp2
                go_ret3
                exact ⟨rfl, HB.out⟩
          · rw [decide_eq_false h93] at hR
            simp only [Bool.not_false, Bool.not_true, Bool.true_or, Bool.false_or, Bool.or_true, Bool.or_false, if_true, if_false, Bool.false_eq_true] at hR
            subst hR
            have e9 := toList_beq (bstr_ne h93)
            have e8 : ((bstr l4).toList == [93]) = false := by
              have : (bstr [93]).toList = [93] := by rw [Lib.toList_data]; rfl
              rw [← this]; exact e9
            generalize bstr l4 = t at *
            go_wp2
            go_ret3
            exact ⟨rfl, HB.out⟩
end Go.Proofs.YtiibjeiadcmenaaDoor
