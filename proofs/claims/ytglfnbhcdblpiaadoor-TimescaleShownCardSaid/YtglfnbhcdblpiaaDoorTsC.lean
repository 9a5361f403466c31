/- Contracts of the reference's Convert and Floor. -/
import Derived.Test.YtglfnbhcdblpiaaDoorTsB
set_option linter.unusedVariables false
namespace Go.Proofs.YtglfnbhcdblpiaaDoor
open Go.RowKit Go.Shelf

theorem conv_bad {t a b : Int} (h : validB a = false ∨ validB b = false) : convertS t a b = (0, 1) ∧ floorS t a b = (0, 1) := by
  have : convS t a b = (0, false, 1) := by
    unfold convS; rw [if_neg]; rcases h with h | h <;> rw [h] <;> simp
  unfold convertS floorS; rw [this]; exact ⟨by decide, rfl⟩
theorem conv_out {t a b : Int} (ha : validB a = true) (hb : validB b = true) (h : t < 0 ∨ 1099511627776 < t) : convertS t a b = (0, 2) ∧ floorS t a b = (0, 2) := by
  have : convS t a b = (0, false, 2) := by
    unfold convS; rw [ha, hb, Bool.and_true, if_pos rfl, if_neg (by omega)]
  unfold convertS floorS; rw [this]; exact ⟨by decide, rfl⟩
theorem conv_no {t a b : Int} (ha : validB a = true) (hb : validB b = true) (h0 : 0 ≤ t) (h1 : t ≤ 1099511627776) (h : (shiftS t (a - b)).2.2 = false) : convertS t a b = (0, 2) ∧ floorS t a b = (0, 2) := by
  have : convS t a b = (0, false, 2) := by
    unfold convS; rw [ha, hb, Bool.and_true, if_pos rfl, if_pos ⟨h0, h1⟩, h, if_neg Bool.false_ne_true]
  unfold convertS floorS; rw [this]; exact ⟨by decide, rfl⟩
theorem conv_yes {t a b : Int} (ha : validB a = true) (hb : validB b = true) (h0 : 0 ≤ t) (h1 : t ≤ 1099511627776) (h : (shiftS t (a - b)).2.2 = true) :
    convertS t a b = (if (shiftS t (a - b)).2.1 then ((shiftS t (a - b)).1, 0) else (0, 2)) ∧ floorS t a b = ((shiftS t (a - b)).1, 0) := by
  have : convS t a b = ((shiftS t (a - b)).1, (shiftS t (a - b)).2.1, 0) := by
    unfold convS; rw [ha, hb, Bool.and_true, if_pos rfl, if_pos ⟨h0, h1⟩, h, if_pos rfl]
  unfold convertS floorS; rw [this]; exact ⟨if_pos rfl, rfl⟩

set_option maxHeartbeats 4000000 in
theorem refConvert_any (t a b : Int) (w : World) :
    Calls Tryd.prog 18 #[.int .i64 t, .int .i64 a, .int .i64 b] w fun e w' => e = .returned (.tuple #[.int .i64 (convertS t a b).1, .int .i64 (convertS t a b).2]) ∧ w' = w := by
  have VA := hide (fun W : World => refValid_any a W)
  have VB := hide (fun W : World => refValid_any b W)
  cases ha : validB a with
  | false =>
    rw [ha] at VA
    rw [(conv_bad (t := t) (a := a) (b := b) (.inl ha)).1]
    clear ha
    go_enter Tryd.func18, Tryd.ntmps18
    go_wp2_with fail
    refine (VA.out _).mono ?_
    rintro e w1 ⟨rfl, rfl⟩
    go_wp2
    go_ret2
    exact ⟨rfl, rfl⟩
  | true =>
    rw [ha] at VA
    obtain ⟨a1, a2⟩ := validB_bd ha
    cases hb : validB b with
    | false =>
      rw [hb] at VB
      rw [(conv_bad (t := t) (a := a) (b := b) (.inr hb)).1]
      clear ha hb
      go_enter Tryd.func18, Tryd.ntmps18
      go_wp2_with fail
      refine (VA.out _).mono ?_
      rintro e w1 ⟨rfl, rfl⟩
      go_wp2_with fail
      refine (VB.out _).mono ?_
      rintro e w2 ⟨rfl, rfl⟩
      go_wp2
      go_ret2
      exact ⟨rfl, rfl⟩
    | true =>
      rw [hb] at VB
      obtain ⟨b1, b2⟩ := validB_bd hb
      by_cases ht : 0 ≤ t ∧ t ≤ 1099511627776
      · obtain ⟨t1, t2⟩ := ht
        have S := hide (fun W : World => scaled_any t (a - b) W t1 (by omega) (by omega) (by omega))
        have hY := fun h => conv_yes (t := t) ha hb t1 t2 h
        have hN := fun h => conv_no (t := t) ha hb t1 t2 h
        generalize shiftS t (a - b) = r at S hY hN
        obtain ⟨r1, r2, r3⟩ := r
        cases r3 with
        | true =>
          rw [(hY rfl).1]
          clear hY hN ha hb
          cases r2 with
          | true =>
            rw [if_pos rfl]
            go_enter Tryd.func18, Tryd.ntmps18
            go_wp2_with fail
            refine (VA.out _).mono ?_
            rintro e w1 ⟨rfl, rfl⟩
            go_wp2_with fail
            refine (VB.out _).mono ?_
            rintro e w2 ⟨rfl, rfl⟩
            go_wp2_with fail
            refine (S.out _).mono ?_
            rintro e w3 ⟨m, x, rfl, hx, rfl⟩
            obtain ⟨rfl, rfl⟩ := hx rfl
            clear hx
            go_wp2
            go_ret2
            exact ⟨rfl, rfl⟩
          | false =>
            rw [if_neg Bool.false_ne_true]
            go_enter Tryd.func18, Tryd.ntmps18
            go_wp2_with fail
            refine (VA.out _).mono ?_
            rintro e w1 ⟨rfl, rfl⟩
            go_wp2_with fail
            refine (VB.out _).mono ?_
            rintro e w2 ⟨rfl, rfl⟩
            go_wp2_with fail
            refine (S.out _).mono ?_
            rintro e w3 ⟨m, x, rfl, hx, rfl⟩
            obtain ⟨rfl, rfl⟩ := hx rfl
            clear hx
            go_wp2
            go_ret2
            exact ⟨rfl, rfl⟩
        | false =>
          rw [(hN rfl).1]
          clear hY hN ha hb
          go_enter Tryd.func18, Tryd.ntmps18
          go_wp2_with fail
          refine (VA.out _).mono ?_
          rintro e w1 ⟨rfl, rfl⟩
          go_wp2_with fail
          refine (VB.out _).mono ?_
          rintro e w2 ⟨rfl, rfl⟩
          go_wp2_with fail
          refine (S.out _).mono ?_
          rintro e w3 ⟨m, x, rfl, hx, rfl⟩
          clear hx
          cases x
          all_goals
            go_wp2
            go_ret2
            exact ⟨rfl, rfl⟩
      · have ht' : t < 0 ∨ 1099511627776 < t := by omega
        rw [(conv_out (t := t) ha hb ht').1]
        clear ht ha hb
        rcases ht' with ht | ht
        ·   skip
            go_enter Tryd.func18, Tryd.ntmps18
            go_wp2_with fail
            refine (VA.out _).mono ?_
            rintro e w1 ⟨rfl, rfl⟩
            go_wp2_with fail
            refine (VB.out _).mono ?_
            rintro e w2 ⟨rfl, rfl⟩
            go_wp2
            go_ret2
            exact ⟨rfl, rfl⟩
        ·   skip
            go_enter Tryd.func18, Tryd.ntmps18
            go_wp2_with fail
            refine (VA.out _).mono ?_
            rintro e w1 ⟨rfl, rfl⟩
            go_wp2_with fail
            refine (VB.out _).mono ?_
            rintro e w2 ⟨rfl, rfl⟩
            go_wp2
            go_ret2
            exact ⟨rfl, rfl⟩

set_option maxHeartbeats 4000000 in
theorem refFloor_any (t a b : Int) (w : World) :
    Calls Tryd.prog 20 #[.int .i64 t, .int .i64 a, .int .i64 b] w fun e w' => e = .returned (.tuple #[.int .i64 (floorS t a b).1, .int .i64 (floorS t a b).2]) ∧ w' = w := by
  have VA := hide (fun W : World => refValid_any a W)
  have VB := hide (fun W : World => refValid_any b W)
  cases ha : validB a with
  | false =>
    rw [ha] at VA
    rw [(conv_bad (t := t) (a := a) (b := b) (.inl ha)).2]
    clear ha
    go_enter Tryd.func20, Tryd.ntmps20
    go_wp2_with fail
    refine (VA.out _).mono ?_
    rintro e w1 ⟨rfl, rfl⟩
    go_wp2
    go_ret2
    exact ⟨rfl, rfl⟩
  | true =>
    rw [ha] at VA
    obtain ⟨a1, a2⟩ := validB_bd ha
    cases hb : validB b with
    | false =>
      rw [hb] at VB
      rw [(conv_bad (t := t) (a := a) (b := b) (.inr hb)).2]
      clear ha hb
      go_enter Tryd.func20, Tryd.ntmps20
      go_wp2_with fail
      refine (VA.out _).mono ?_
      rintro e w1 ⟨rfl, rfl⟩
      go_wp2_with fail
      refine (VB.out _).mono ?_
      rintro e w2 ⟨rfl, rfl⟩
      go_wp2
      go_ret2
      exact ⟨rfl, rfl⟩
    | true =>
      rw [hb] at VB
      obtain ⟨b1, b2⟩ := validB_bd hb
      by_cases ht : 0 ≤ t ∧ t ≤ 1099511627776
      · obtain ⟨t1, t2⟩ := ht
        have S := hide (fun W : World => scaled_any t (a - b) W t1 (by omega) (by omega) (by omega))
        have hY := fun h => conv_yes (t := t) ha hb t1 t2 h
        have hN := fun h => conv_no (t := t) ha hb t1 t2 h
        generalize shiftS t (a - b) = r at S hY hN
        obtain ⟨r1, r2, r3⟩ := r
        cases r3 with
        | true =>
          rw [(hY rfl).2]
          clear hY hN ha hb
          go_enter Tryd.func20, Tryd.ntmps20
          go_wp2_with fail
          refine (VA.out _).mono ?_
          rintro e w1 ⟨rfl, rfl⟩
          go_wp2_with fail
          refine (VB.out _).mono ?_
          rintro e w2 ⟨rfl, rfl⟩
          go_wp2_with fail
          refine (S.out _).mono ?_
          rintro e w3 ⟨m, x, rfl, hx, rfl⟩
          obtain ⟨rfl, rfl⟩ := hx rfl
          clear hx
          go_wp2
          go_ret2
          exact ⟨rfl, rfl⟩
        | false =>
          rw [(hN rfl).2]
          clear hY hN ha hb
          go_enter Tryd.func20, Tryd.ntmps20
          go_wp2_with fail
          refine (VA.out _).mono ?_
          rintro e w1 ⟨rfl, rfl⟩
          go_wp2_with fail
          refine (VB.out _).mono ?_
          rintro e w2 ⟨rfl, rfl⟩
          go_wp2_with fail
          refine (S.out _).mono ?_
          rintro e w3 ⟨m, x, rfl, hx, rfl⟩
          clear hx
          cases x
          all_goals
            go_wp2
            go_ret2
            exact ⟨rfl, rfl⟩
      · have ht' : t < 0 ∨ 1099511627776 < t := by omega
        rw [(conv_out (t := t) ha hb ht').2]
        clear ht ha hb
        rcases ht' with ht | ht
        ·   skip
            go_enter Tryd.func20, Tryd.ntmps20
            go_wp2_with fail
            refine (VA.out _).mono ?_
            rintro e w1 ⟨rfl, rfl⟩
            go_wp2_with fail
            refine (VB.out _).mono ?_
            rintro e w2 ⟨rfl, rfl⟩
            go_wp2
            go_ret2
            exact ⟨rfl, rfl⟩
        ·   skip
            go_enter Tryd.func20, Tryd.ntmps20
            go_wp2_with fail
            refine (VA.out _).mono ?_
            rintro e w1 ⟨rfl, rfl⟩
            go_wp2_with fail
            refine (VB.out _).mono ?_
            rintro e w2 ⟨rfl, rfl⟩
            go_wp2
            go_ret2
            exact ⟨rfl, rfl⟩
end Go.Proofs.YtglfnbhcdblpiaaDoor
