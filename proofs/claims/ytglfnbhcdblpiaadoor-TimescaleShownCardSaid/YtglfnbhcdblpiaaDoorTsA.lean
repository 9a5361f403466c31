/- Contracts of package timescale's arithmetic: ten, shift, convert. -/
import Derived.Test.YtglfnbhcdblpiaaDoorProg
import Derived.Test.YtglfnbhcdblpiaaDoorSl
import Derived.Deep.QuietTactic
import Derived.BigQuiet
import Derived.IntWalk
set_option linter.unusedVariables false
namespace Go.Proofs.YtglfnbhcdblpiaaDoor
open Go.RowKit Go.Shelf

theorem ret_b {a b : Bool} (h : a = b) : Ending.returned (.bool b) = .returned (.bool a) := by rw [h]
theorem ret_i {a b : Int} (h : a = b) : Ending.returned (.int .i64 a) = .returned (.int .i64 b) := by rw [h]
theorem ret_ii {a b c d : Int} (h : a = b) (h2 : c = d) : Ending.returned (.tuple #[.int .i64 a, .int .i64 c]) = .returned (.tuple #[.int .i64 b, .int .i64 d]) := by rw [h, h2]

/-- a power of ten -/
def p10 : Nat → Int
  | 0 => 1
  | n + 1 => p10 n * 10
theorem p10_pos (n : Nat) : 1 ≤ p10 n := by
  induction n with
  | zero => exact Int.le_refl _
  | succ n ih => show 1 ≤ p10 n * 10; omega
theorem p10_mono {a b : Nat} (h : a ≤ b) : p10 a ≤ p10 b := by
  induction h with
  | refl => exact Int.le_refl _
  | step _ ih => have := ih; show p10 a ≤ p10 _ * 10; have := p10_pos a; omega
theorem p10_le {n : Nat} (h : n ≤ 18) : p10 n ≤ 1000000000000000000 := by
  have := p10_mono h
  have e : p10 18 = 1000000000000000000 := by decide +kernel
  omega
theorem p10_add (a b : Nat) : p10 (a + b) = p10 a * p10 b := by
  induction b with
  | zero => simp [p10]
  | succ b ih => show p10 (a + b) * 10 = p10 a * (p10 b * 10); rw [ih, Int.mul_assoc]

set_option maxHeartbeats 1000000 in
theorem times_any (b n : Nat) (w : World) (hn : n ≤ 18) (hr : Row w b 3 #[.int .i64 1]) :
    Calls Tryd.prog 49 #[.int .i64 n, .pointer (some ⟨b, 0, none⟩)] w fun e w' => e = .returned (.tuple #[]) ∧ Row w' b 3 #[.int .i64 (p10 n)] ∧ Keeps (fun c => c = b) w w' := by
  have Hr := hide hr
  clear hr
  go_enter Tryd.func49, Tryd.ntmps49
  go_wp2
  go_loopw [4] (fun v wr => ∃ k : Nat, v = .int .i64 k ∧ k ≤ n ∧ Row wr b 3 #[.int .i64 (p10 k)] ∧ Keeps (fun c => c = b) w wr) (fun v _ => n - (intOf v).toNat)
  case atStart => exact ⟨0, rfl, Nat.zero_le _, Hr.out, Keeps.refl _ _⟩
  case round =>
    obtain ⟨k, rfl, hk, hrow, hkeep⟩ := hrel
    have hc : wr.cell? ⟨b, 0, none⟩ = some (.int .i64 (p10 k)) := hrow.cell 0
    have hf : wr.frozen? ⟨b, 0, none⟩ = false := hrow.frozen 0
    have Hrow := hide hrow
    have Hkeep := hide hkeep
    clear hrow hkeep
    by_cases hlt : k < n
    · have h1 := p10_pos k
      have h2 := p10_le (n := k) (by omega)
      have h3 := p10_le (n := k + 1) (by omega)
      have h4 : p10 (k + 1) = p10 k * 10 := rfl
      have H4 := hide h4
      have h5 : p10 k * 10 ≤ 1000000000000000000 := by omega
      clear h3 h4
      generalize p10 k = p at hc Hrow H4 h1 h2 h5
      go_wp2
      go_roundw
      case rel =>
        refine ⟨k + 1, by go_num, by omega, ?_, Hkeep.out.set (.inl rfl) 0 _⟩
        rw [H4.out]
        exact Hrow.out.set_ 0 _
      case measure => simp [intOf]; omega
    · obtain rfl : k = n := Nat.le_antisymm hk (Nat.le_of_not_lt hlt)
      go_wp2
      go_end0
      exact ⟨rfl, Hrow.out, Hkeep.out⟩

set_option maxHeartbeats 1000000 in
theorem ten_any (n : Nat) (w : World) (hn : n ≤ 18) :
    Calls Tryd.prog 37 #[.int .i64 n] w fun e w' => e = .returned (.int .i64 (p10 n)) ∧ Below w.heap.size w w' := by
  go_enter Tryd.func37, Tryd.ntmps37
  go_wp2_with fail
  refine (times_any w.heap.size n _ hn (Row.new w _ _)).mono ?_
  rintro e w1 ⟨rfl, hrow, hk⟩
  have hc : w1.cell? ⟨w.heap.size, 0, none⟩ = some (.int .i64 (p10 n)) := hrow.cell 0
  have HB := hide (((Below.refl w.heap.size w).alloc (Nat.le_refl _) (.cells #[.int .i64 1] 3)).trans (hk.below (by rintro b rfl; exact Nat.le_refl _) (by rw [World.size_alloc]; exact Nat.le_succ _)))
  clear hrow hk
  go_wp2
  go_ret
  exact ⟨rfl, HB.out⟩
theorem ten_i (i : Int) (n : Nat) (hi : i = (n : Int)) (hn : n ≤ 18) (w : World) :
    Calls Tryd.prog 37 #[.int .i64 i] w fun e w' => e = .returned (.int .i64 (p10 n)) ∧ Below w.heap.size w w' := hi ▸ ten_any n w hn

def validB (s : Int) : Bool := decide (-15 ≤ s ∧ s ≤ 2)
theorem Valid_any (s : Int) (w : World) :
    Calls Tryd.prog 13 #[.int .i64 s] w fun e w' => e = .returned (.bool (validB s)) ∧ w' = w := by
  go_enter Tryd.func13, Tryd.ntmps13
  go_wp2
  all_goals go_ret
  all_goals refine ⟨ret_b ?_, rfl⟩
  all_goals (rw [Bool.eq_iff_iff]; simp [validB]; omega)
theorem refValid_any (s : Int) (w : World) :
    Calls Tryd.prog 14 #[.int .i64 s] w fun e w' => e = .returned (.bool (validB s)) ∧ w' = w := by
  go_enter Tryd.func14, Tryd.ntmps14
  go_wp2
  all_goals go_ret
  all_goals refine ⟨ret_b ?_, rfl⟩
  all_goals (rw [Bool.eq_iff_iff]; simp [validB]; omega)

/-- what shift returns: the number, whether it is exact, whether it fits -/
def shiftS (n power : Int) : Int × Bool × Bool :=
  if power < 0 then (n / p10 (-power).toNat, n % p10 (-power).toNat == 0, decide (n / p10 (-power).toNat ≤ 1099511627776))
  else if 1099511627776 / p10 power.toNat < n then (0, false, false) else (n * p10 power.toNat, true, true)
def ShiftPost (r : Int × Bool × Bool) (w : World) (e : Ending) (w' : World) : Prop := e = .returned (.tuple #[.int .i64 r.1, .bool r.2.1, .bool r.2.2]) ∧ Below w.heap.size w w'
set_option maxHeartbeats 2000000 in
theorem shift_any (n power : Int) (w : World) (h0 : 0 ≤ n) (h1 : n ≤ 999999999999999999) (h2 : -18 ≤ power) (h3 : power ≤ 18) :
    Calls Tryd.prog 34 #[.int .i64 n, .int .i64 power] w (ShiftPost (shiftS n power) w) := by
  by_cases hp : power < 0
  · have T := hide (fun W : World => ten_i (-power) (-power).toNat (by omega) (by omega) W)
    have hs : shiftS n power = (n / p10 (-power).toNat, n % p10 (-power).toNat == 0, decide (n / p10 (-power).toNat ≤ 1099511627776)) := by unfold shiftS; rw [if_pos hp]
    rw [hs]
    have p1 := p10_pos (-power).toNat
    have p2 := p10_le (n := (-power).toNat) (by omega)
    clear hs
    generalize p10 (-power).toNat = p at T p1 p2 ⊢
    go_enter Tryd.func34, Tryd.ntmps34
    go_wp2_with fail
    refine (T.out _).mono ?_
    rintro e w1 ⟨rfl, hb⟩
    have HB := hide hb
    clear hb
    have hq := Int.ediv_nonneg h0 (show 0 ≤ p by omega)
    have hq2 : n / p ≤ n := Int.ediv_le_self p h0
    have hp0 : ¬ p = 0 := by omega
    have k1 : IntKind.i64.wrap (n.tdiv p) = n / p := IntWalk.i64_quo _ _ (by omega)
    have k2 : n.tmod p = n % p := IntWalk.rem_in _ _ h0
    go_wp2_with fail
    go_quiet (fail)
    go_wp2
    exact bodyPost_ret (v := .tuple #[.int .i64 (n / p), .bool (n % p == 0), .bool (decide (n / p ≤ 1099511627776))]) (by simp [results, Tryd.results34, go_sem]) rfl ⟨rfl, Below_drewN HB.out _⟩
  · have T := hide (fun W : World => ten_i power power.toNat (by omega) (by omega) W)
    have p1 := p10_pos power.toNat
    have p2 := p10_le (n := power.toNat) (by omega)
    have hs : shiftS n power = if 1099511627776 / p10 power.toNat < n then (0, false, false) else (n * p10 power.toNat, true, true) := by unfold shiftS; rw [if_neg hp]
    rw [hs]
    clear hs
    generalize p10 power.toNat = p at T p1 p2 ⊢
    have hp0 : ¬ p = 0 := by omega
    have k1 : IntKind.i64.wrap ((1099511627776 : Int).tdiv p) = 1099511627776 / p := IntWalk.i64_quo _ _ (by omega)
    by_cases hbig : 1099511627776 / p < n
    · rw [if_pos hbig]
      go_enter Tryd.func34, Tryd.ntmps34
      go_wp2_with fail
      refine (T.out _).mono ?_
      rintro e w1 ⟨rfl, hb⟩
      have HB := hide hb
      clear hb
      go_wp2
      exact bodyPost_ret (v := .tuple #[.int .i64 0, .bool false, .bool false]) (by simp [results, Tryd.results34, go_sem]) rfl ⟨rfl, HB.out⟩
    · rw [if_neg hbig]
      have hm : n * p ≤ 1099511627776 := by
        have h4 : n ≤ 1099511627776 / p := by omega
        have := Int.mul_le_mul_of_nonneg_right h4 (show 0 ≤ p by omega)
        have h5 := Int.ediv_mul_le 1099511627776 hp0
        omega
      have hm0 : 0 ≤ n * p := Int.mul_nonneg h0 (by omega)
      have k2 : IntKind.i64.wrap (n * p) = n * p := IntWalk.i64_in _ (by omega)
      have k3 : wrap64 (n * p) = n * p := IntWalk.wrap64_in _ ⟨by omega, by omega⟩
      go_enter Tryd.func34, Tryd.ntmps34
      go_wp2_with fail
      refine (T.out _).mono ?_
      rintro e w1 ⟨rfl, hb⟩
      have HB := hide hb
      clear hb
      go_wp2
      exact bodyPost_ret (v := .tuple #[.int .i64 (n * p), .bool true, .bool true]) (by simp [results, Tryd.results34, go_sem]) rfl ⟨rfl, HB.out⟩
theorem shift_fits (n power : Int) (h0 : 0 ≤ n) (h : (shiftS n power).2.2 = true) : 0 ≤ (shiftS n power).1 ∧ (shiftS n power).1 ≤ 1099511627776 := by
  unfold shiftS at h ⊢
  by_cases hp : power < 0
  · rw [if_pos hp] at h ⊢
    have p1 := p10_pos (-power).toNat
    exact ⟨Int.ediv_nonneg h0 (by omega), of_decide_eq_true h⟩
  · rw [if_neg hp] at h ⊢
    by_cases hb : 1099511627776 / p10 power.toNat < n
    · rw [if_pos hb] at h; cases h
    · rw [if_neg hb]
      have p1 := p10_pos power.toNat
      generalize p10 power.toNat = p at hb p1 ⊢
      have h4 : n ≤ 1099511627776 / p := by omega
      have h5 := Int.mul_le_mul_of_nonneg_right h4 (show 0 ≤ p by omega)
      have h6 := Int.ediv_mul_le 1099511627776 (show p ≠ 0 by omega)
      exact ⟨Int.mul_nonneg h0 (by omega), by show n * p ≤ _; omega⟩

/-- what convert returns -/
def convS (t a b : Int) : Int × Bool × Int :=
  if validB a && validB b then (if 0 ≤ t ∧ t ≤ 1099511627776 then (if (shiftS t (a - b)).2.2 then ((shiftS t (a - b)).1, (shiftS t (a - b)).2.1, 0) else (0, false, 2)) else (0, false, 2)) else (0, false, 1)
def ConvPost (r : Int × Bool × Int) (w : World) (e : Ending) (w' : World) : Prop := e = .returned (.tuple #[.int .i64 r.1, .bool r.2.1, .int .i64 r.2.2]) ∧ Below w.heap.size w w'
theorem validB_bd {s : Int} (h : validB s = true) : -15 ≤ s ∧ s ≤ 2 := of_decide_eq_true h

set_option maxHeartbeats 4000000 in
theorem convert_any (t a b : Int) (w : World) :
    Calls Tryd.prog 29 #[.int .i64 t, .int .i64 a, .int .i64 b] w (ConvPost (convS t a b) w) := by
  have VA := hide (fun W : World => Valid_any a W)
  have VB := hide (fun W : World => Valid_any b W)
  have hC : convS t a b = if validB a && validB b then (if 0 ≤ t ∧ t ≤ 1099511627776 then (if (shiftS t (a - b)).2.2 then ((shiftS t (a - b)).1, (shiftS t (a - b)).2.1, 0) else (0, false, 2)) else (0, false, 2)) else (0, false, 1) := rfl
  cases ha : validB a with
  | false =>
    rw [ha] at VA
    rw [hC, ha, Bool.false_and, if_neg Bool.false_ne_true]
    clear hC ha
    go_enter Tryd.func29, Tryd.ntmps29
    go_wp2_with fail
    refine (VA.out _).mono ?_
    rintro e w1 ⟨rfl, rfl⟩
    go_wp2
    exact bodyPost_ret (v := .tuple #[.int .i64 0, .bool false, .int .i64 1]) (by simp [results, Tryd.results29, go_sem]) rfl ⟨rfl, Below.refl _ _⟩
  | true =>
    rw [ha] at VA
    obtain ⟨a1, a2⟩ := validB_bd ha
    cases hb : validB b with
    | false =>
      rw [hb] at VB
      rw [hC, ha, hb, Bool.and_false, if_neg Bool.false_ne_true]
      clear hC ha hb
      go_enter Tryd.func29, Tryd.ntmps29
      go_wp2_with fail
      refine (VA.out _).mono ?_
      rintro e w1 ⟨rfl, rfl⟩
      go_wp2_with fail
      refine (VB.out _).mono ?_
      rintro e w2 ⟨rfl, rfl⟩
      go_wp2
      exact bodyPost_ret (v := .tuple #[.int .i64 0, .bool false, .int .i64 1]) (by simp [results, Tryd.results29, go_sem]) rfl ⟨rfl, Below.refl _ _⟩
    | true =>
      rw [hb] at VB
      obtain ⟨b1, b2⟩ := validB_bd hb
      rw [hC, ha, hb, Bool.and_true, if_pos rfl]
      clear hC ha hb
      by_cases ht : 0 ≤ t ∧ t ≤ 1099511627776
      · rw [if_pos ht]
        obtain ⟨t1, t2⟩ := ht
        have S := hide (fun W : World => shift_any t (a - b) W t1 (by omega) (by omega) (by omega))
        generalize shiftS t (a - b) = r at S ⊢
        obtain ⟨r1, r2, r3⟩ := r
        cases r3 with
        | true =>
          rw [if_pos rfl]
          go_enter Tryd.func29, Tryd.ntmps29
          go_wp2_with fail
          refine (VA.out _).mono ?_
          rintro e w1 ⟨rfl, rfl⟩
          go_wp2_with fail
          refine (VB.out _).mono ?_
          rintro e w2 ⟨rfl, rfl⟩
          go_wp2_with fail
          refine (S.out _).mono ?_
          rintro e w3 ⟨rfl, hb3⟩
          have B3 := hide hb3
          clear hb3
          go_wp2
          exact bodyPost_ret (v := .tuple #[.int .i64 r1, .bool r2, .int .i64 0]) (by simp [results, Tryd.results29, go_sem]) rfl ⟨rfl, B3.out⟩
        | false =>
          rw [if_neg Bool.false_ne_true]
          go_enter Tryd.func29, Tryd.ntmps29
          go_wp2_with fail
          refine (VA.out _).mono ?_
          rintro e w1 ⟨rfl, rfl⟩
          go_wp2_with fail
          refine (VB.out _).mono ?_
          rintro e w2 ⟨rfl, rfl⟩
          go_wp2_with fail
          refine (S.out _).mono ?_
          rintro e w3 ⟨rfl, hb3⟩
          have B3 := hide hb3
          clear hb3
          go_wp2
          exact bodyPost_ret (v := .tuple #[.int .i64 0, .bool false, .int .i64 2]) (by simp [results, Tryd.results29, go_sem]) rfl ⟨rfl, B3.out⟩
      · rw [if_neg ht]
        have ht' : t < 0 ∨ 1099511627776 < t := by omega
        clear ht
        rcases ht' with ht | ht
        · go_enter Tryd.func29, Tryd.ntmps29
          go_wp2_with fail
          refine (VA.out _).mono ?_
          rintro e w1 ⟨rfl, rfl⟩
          go_wp2_with fail
          refine (VB.out _).mono ?_
          rintro e w2 ⟨rfl, rfl⟩
          go_wp2
          exact bodyPost_ret (v := .tuple #[.int .i64 0, .bool false, .int .i64 2]) (by simp [results, Tryd.results29, go_sem]) rfl ⟨rfl, Below.refl _ _⟩
        · go_enter Tryd.func29, Tryd.ntmps29
          go_wp2_with fail
          refine (VA.out _).mono ?_
          rintro e w1 ⟨rfl, rfl⟩
          go_wp2_with fail
          refine (VB.out _).mono ?_
          rintro e w2 ⟨rfl, rfl⟩
          go_wp2
          exact bodyPost_ret (v := .tuple #[.int .i64 0, .bool false, .int .i64 2]) (by simp [results, Tryd.results29, go_sem]) rfl ⟨rfl, Below.refl _ _⟩
end Go.Proofs.YtglfnbhcdblpiaaDoor
