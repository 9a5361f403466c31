/- Contracts of Convert and Floor, of both. -/
import Derived.Test.YtglfnbhcdblpiaaDoorTsA
set_option linter.unusedVariables false
namespace Go.Proofs.YtglfnbhcdblpiaaDoor
open Go.RowKit Go.Shelf

/-- what Convert and Floor return -/
def convertS (t a b : Int) : Int × Int := if (convS t a b).2.2 = 0 then (if (convS t a b).2.1 then ((convS t a b).1, 0) else (0, 2)) else ((convS t a b).1, (convS t a b).2.2)
def floorS (t a b : Int) : Int × Int := ((convS t a b).1, (convS t a b).2.2)
def TwoPost (r : Int × Int) (w : World) (e : Ending) (w' : World) : Prop := e = .returned (.tuple #[.int .i64 r.1, .int .i64 r.2]) ∧ Below w.heap.size w w'
theorem convS_err (t a b : Int) : (convS t a b).2.2 = 0 ∨ (convS t a b).2.2 = 1 ∨ (convS t a b).2.2 = 2 := by
  unfold convS
  split
  · split
    · split <;> simp
    · simp
  · simp

set_option maxHeartbeats 2000000 in
theorem Convert_any (t a b : Int) (w : World) :
    Calls Tryd.prog 17 #[.int .i64 t, .int .i64 a, .int .i64 b] w (TwoPost (convertS t a b) w) := by
  have C := hide (fun W : World => convert_any t a b W)
  have hS : convertS t a b = if (convS t a b).2.2 = 0 then (if (convS t a b).2.1 then ((convS t a b).1, 0) else (0, 2)) else ((convS t a b).1, (convS t a b).2.2) := rfl
  rw [hS]
  clear hS
  generalize convS t a b = r at C ⊢
  obtain ⟨r1, r2, r3⟩ := r
  by_cases h3 : r3 = 0
  · subst h3
    rw [if_pos rfl]
    cases r2 with
    | true =>
      rw [if_pos rfl]
      go_enter Tryd.func17, Tryd.ntmps17
      go_wp2_with fail
      refine (C.out _).mono ?_
      rintro e w1 ⟨rfl, hb⟩
      have B := hide hb
      clear hb
      go_wp2
      go_ret2
      exact ⟨rfl, B.out⟩
    | false =>
      rw [if_neg Bool.false_ne_true]
      go_enter Tryd.func17, Tryd.ntmps17
      go_wp2_with fail
      refine (C.out _).mono ?_
      rintro e w1 ⟨rfl, hb⟩
      have B := hide hb
      clear hb
      go_wp2
      go_ret2
      exact ⟨rfl, B.out⟩
  · rw [if_neg h3]
    have n1 : (r3 == 0) = false := beq_eq_false_iff_ne.2 h3
    clear h3
    go_enter Tryd.func17, Tryd.ntmps17
    go_wp2_with fail
    refine (C.out _).mono ?_
    rintro e w1 ⟨rfl, hb⟩
    have B := hide hb
    clear hb
    go_wp2
    go_ret2
    exact ⟨rfl, B.out⟩
theorem Floor_any (t a b : Int) (w : World) :
    Calls Tryd.prog 19 #[.int .i64 t, .int .i64 a, .int .i64 b] w (TwoPost (floorS t a b) w) := by
  have C := hide (fun W : World => convert_any t a b W)
  unfold floorS
  generalize convS t a b = r at C ⊢
  go_enter Tryd.func19, Tryd.ntmps19
  go_wp2_with fail
  refine (C.out _).mono ?_
  rintro e w1 ⟨rfl, hb⟩
  have B := hide hb
  clear hb
  go_wp2
  go_ret2
  exact ⟨rfl, B.out⟩

/-- what the reference's scaled gives: as shift, but for the number where it does not fit -/
def ScaledPost (r : Int × Bool × Bool) (w : World) (e : Ending) (w' : World) : Prop :=
  ∃ (m : Int) (x : Bool), e = .returned (.tuple #[.int .i64 m, .bool x, .bool r.2.2]) ∧ (r.2.2 = true → m = r.1 ∧ x = r.2.1) ∧ w' = w
theorem div_step (n : Int) (k : Nat) : (n / p10 k) / 10 = n / p10 (k + 1) := by
  have := p10_pos k
  show _ = n / (p10 k * 10)
  rw [Int.ediv_ediv, if_neg (by omega), Int.sub_zero]
theorem mod_step (n : Int) (k : Nat) (h : 0 ≤ n) : (n % p10 (k + 1) == 0) = ((n % p10 k == 0) && ((n / p10 k) % 10 == 0)) := by
  have hp := p10_pos k
  show (n % (p10 k * 10) == 0) = _
  generalize p10 k = p at hp ⊢
  have e : n % (p * 10) = n % p + p * ((n / p) % 10) := by
    have h1 := Int.emod_add_mul_ediv n p
    have h2 := Int.emod_add_mul_ediv (n / p) 10
    have h3 := Int.emod_nonneg n (show p ≠ 0 by omega)
    have h4 := Int.emod_lt_of_pos n (show 0 < p by omega)
    have h5 := Int.emod_nonneg (n / p) (show (10 : Int) ≠ 0 by omega)
    have h6 := Int.emod_lt_of_pos (n / p) (show (0 : Int) < 10 by omega)
    generalize (n / p) % 10 = b at h2 h5 h6 ⊢
    generalize (n / p) / 10 = a at h2
    generalize n % p = r at h1 h3 h4 ⊢
    have h7 : n = (r + p * b) + p * 10 * a := by
      rw [← h1, ← h2, Int.mul_add, Int.mul_assoc, Int.add_assoc]
    have h8 : 0 ≤ p * b := Int.mul_nonneg (by omega) h5
    have h9 : p * b ≤ p * 9 := Int.mul_le_mul_of_nonneg_left (by omega) (by omega)
    rw [h7, Int.add_mul_emod_self_left, Int.emod_eq_of_lt (by omega) (by omega)]
  rw [e, Bool.eq_iff_iff, Bool.and_eq_true, beq_iff_eq, beq_iff_eq, beq_iff_eq]
  have h3 := Int.emod_nonneg n (show p ≠ 0 by omega)
  have h5 := Int.emod_nonneg (n / p) (show (10 : Int) ≠ 0 by omega)
  generalize (n / p) % 10 = b at h5 ⊢
  generalize n % p = r at h3 ⊢
  constructor
  · intro hz
    have h8 : 0 ≤ p * b := Int.mul_nonneg (by omega) h5
    have h10 : r = 0 := by omega
    have h11 : p * b = 0 := by omega
    rcases Int.mul_eq_zero.1 h11 with h | h
    · omega
    · exact ⟨h10, h⟩
  · rintro ⟨rfl, rfl⟩; simp
theorem fits_iff (n : Int) (p : Int) (hp : 1 ≤ p) : n ≤ 1099511627776 / p ↔ n * p ≤ 1099511627776 := by
  rw [Int.le_ediv_iff_mul_le (by omega)]

set_option maxHeartbeats 4000000 in
theorem scaled_any (n power : Int) (w : World) (h0 : 0 ≤ n) (h1 : n ≤ 999999999999999) (h2 : -18 ≤ power) (h3 : power ≤ 18) :
    Calls Tryd.prog 30 #[.int .i64 n, .int .i64 power] w (ScaledPost (shiftS n power) w) := by
  by_cases hp : power < 0
  · obtain ⟨E, hE⟩ : ∃ E : Nat, power = -(E : Int) := ⟨(-power).toNat, by omega⟩
    have hs : shiftS n power = (n / p10 E, n % p10 E == 0, decide (n / p10 E ≤ 1099511627776)) := by unfold shiftS; rw [if_pos hp, show (-power).toNat = E by omega]
    rw [hs]
    subst hE
    have HS := hide hs
    have hp2 : ¬ (0 : Int) < -(E : Int) := by omega
    clear hs
    go_enter Tryd.func30, Tryd.ntmps30
    go_wp2
    go_loop [0, 1] (fun v x => v = .int .i64 n ∧ x = .int .i64 (-(E : Int))) (fun _ _ => 0)
    case atStart => exact ⟨rfl, rfl⟩
    case round =>
      obtain ⟨rfl, rfl⟩ := hrel
      go_wp2
      go_loop [0, 1, 7] (fun v x o => ∃ k : Nat, k ≤ E ∧ v = .int .i64 (n / p10 k) ∧ x = .int .i64 ((k : Int) - (E : Int)) ∧ o = .bool (n % p10 k == 0)) (fun _ x _ => (-(intOf x)).toNat)
      case atStart => exact ⟨0, Nat.zero_le _, by show Value.int .i64 n = .int .i64 (n / 1); rw [Int.ediv_one], by simp, by show Value.bool true = .bool (n % 1 == 0); rw [Int.emod_one]; rfl⟩
      case round =>
        obtain ⟨k, hk, rfl, rfl, rfl⟩ := hrel
        have hq0 := Int.ediv_nonneg h0 (show 0 ≤ p10 k by have := p10_pos k; omega)
        have hq1 : n / p10 k ≤ n := Int.ediv_le_self _ h0
        by_cases hlt : k < E
        · have hx : (k : Int) - (E : Int) < 0 := by omega
          have HD := hide (div_step n k)
          have HM := hide (mod_step n k h0)
          generalize n / p10 k = q at HD HM hq0 hq1 ⊢
          cases hb : (n % p10 k == 0) with
          | true =>
            rw [hb] at HM
            clear hb
            go_wp2
            go_round
            case rel => exact ⟨k + 1, by omega, by rw [← HD.out], by congr 1; omega, by rw [HM.out]; rfl⟩
            case measure => simp [intOf]; omega
          | false =>
            rw [hb] at HM
            clear hb
            go_wp2
            go_round
            case rel => exact ⟨k + 1, by omega, by rw [← HD.out], by congr 1; omega, by rw [HM.out]; rfl⟩
            case measure => simp [intOf]; omega
        · obtain rfl : k = E := Nat.le_antisymm hk (Nat.le_of_not_lt hlt)
          have hx : ¬ (k : Int) - (k : Int) < 0 := by omega
          go_wp2
          exact bodyPost_ret (v := .tuple #[.int .i64 (n / p10 k), .bool (n % p10 k == 0), .bool (decide (n / p10 k ≤ 1099511627776))]) (by simp [results, Tryd.results30, go_sem]) rfl ⟨_, _, rfl, fun _ => ⟨rfl, rfl⟩, rfl⟩
  · obtain ⟨E, rfl⟩ : ∃ E : Nat, power = (E : Int) := ⟨power.toNat, by omega⟩
    have hs : shiftS n E = if 1099511627776 / p10 E < n then (0, false, false) else (n * p10 E, true, true) := by unfold shiftS; rw [if_neg hp, show ((E : Int)).toNat = E by omega]
    have hpos := p10_pos E
    have hfi := fits_iff n (p10 E) hpos
    by_cases hn : n = 0
    · subst hn
      have hr : shiftS 0 E = (0, true, true) := by rw [hs, if_neg (Int.not_lt.2 (hfi.2 (by simp))), Int.zero_mul]
      rw [hr]
      have hE0 : (0 : Int) ≤ (E : Int) := by omega
      clear hs hr hfi hpos hp
      go_enter Tryd.func30, Tryd.ntmps30
      go_wp2
      go_loop [0, 1] (fun v x => v = .int .i64 0 ∧ x = .int .i64 (E : Int)) (fun _ _ => 0)
      case atStart => exact ⟨rfl, rfl⟩
      case round =>
        obtain ⟨rfl, rfl⟩ := hrel
        by_cases hE : (0 : Int) < (E : Int)
        · go_wp2
          go_loop [0, 1, 7] (fun a1 a2 a3 => a1 = .int .i64 0 ∧ a2 = .int .i64 (E : Int) ∧ a3 = .bool true) (fun _ _ _ => 0)
          case atStart => exact ⟨rfl, rfl, rfl⟩
          case round =>
            obtain ⟨rfl, rfl, rfl⟩ := hrel
            go_wp2
            exact bodyPost_ret (v := .tuple #[.int .i64 (0), .bool true, .bool (decide (0 ≤ 1099511627776))]) (by simp [results, Tryd.results30, go_sem]) rfl ⟨_, _, rfl, fun _ => ⟨rfl, rfl⟩, rfl⟩
        · go_wp2
          go_loop [0, 1, 7] (fun a1 a2 a3 => a1 = .int .i64 0 ∧ a2 = .int .i64 (E : Int) ∧ a3 = .bool true) (fun _ _ _ => 0)
          case atStart => exact ⟨rfl, rfl, rfl⟩
          case round =>
            obtain ⟨rfl, rfl, rfl⟩ := hrel
            go_wp2
            exact bodyPost_ret (v := .tuple #[.int .i64 (0), .bool true, .bool (decide (0 ≤ 1099511627776))]) (by simp [results, Tryd.results30, go_sem]) rfl ⟨_, _, rfl, fun _ => ⟨rfl, rfl⟩, rfl⟩
    · have hn1 : 1 ≤ n := by omega
      have hgt : ∀ k, k ≤ E → n * p10 k ≤ n * p10 E := fun k hk => Int.mul_le_mul_of_nonneg_left (p10_mono hk) h0
      have hge : ∀ k, 1 ≤ n * p10 k := fun k => by have := p10_pos k; have := Int.mul_le_mul hn1 this (by omega) h0; omega
      have HG := hide hgt
      have HE := hide hge
      have HS := hide hs
      have HF := hide hfi
      clear hs hfi hpos hp hgt hge
      go_enter Tryd.func30, Tryd.ntmps30
      go_wp2
      go_loop [0, 1] (fun v x => ∃ k : Nat, k ≤ E ∧ v = .int .i64 (n * p10 k) ∧ x = .int .i64 ((E : Int) - (k : Int)) ∧ n * p10 k ≤ 99999999999999999) (fun _ x => (intOf x).toNat)
      case atStart => exact ⟨0, Nat.zero_le _, by show Value.int .i64 n = .int .i64 (n * 1); rw [Int.mul_one], by simp, by show n * 1 ≤ _; omega⟩
      case round =>
        obtain ⟨k, hk, rfl, rfl, hb⟩ := hrel
        have hv1 := HE.out k
        by_cases hlt : k < E
        · have hx : (0 : Int) < (E : Int) - (k : Int) := by omega
          by_cases hbig : 1099511627776 < n * p10 k
          · have hr : shiftS n E = (0, false, false) := by
              rw [HS.out, if_pos]
              have h7 := HG.out k (by omega)
              have h8 : ¬ n * p10 E ≤ 1099511627776 := by omega
              exact Int.not_le.1 (fun h => h8 (HF.out.1 h))
            have HR := hide hr
            clear hr
            generalize n * p10 k = v at hb hv1 hbig ⊢
            go_wp2
            refine bodyPost_ret (v := .tuple #[.int .i64 0, .bool false, .bool false]) (by simp [results, Tryd.results30, go_sem]) rfl ?_
            rw [HR.out]
            exact ⟨_, _, rfl, (fun h => by cases h), rfl⟩
          · have e : n * p10 (k + 1) = n * p10 k * 10 := by show n * (p10 k * 10) = _; rw [Int.mul_assoc]
            have He := hide e
            clear e
            generalize n * p10 k = v at hb hv1 hbig He ⊢
            go_wp2
            go_round
            case rel => exact ⟨k + 1, by omega, by rw [He.out], by congr 1; omega, by rw [He.out]; omega⟩
            case measure => simp [intOf]; omega
        · obtain rfl : k = E := Nat.le_antisymm hk (Nat.le_of_not_lt hlt)
          have hx : ¬ (0 : Int) < (k : Int) - (k : Int) := by omega
          have HP : Hid (ScaledPost (shiftS n k) w (.returned (.tuple #[.int .i64 (n * p10 k), .bool true, .bool (decide (n * p10 k ≤ 1099511627776))])) w) := hide (by
            rw [HS.out]
            by_cases hfit : n * p10 k ≤ 1099511627776
            · rw [if_neg (Int.not_lt.2 (HF.out.2 hfit))]
              exact ⟨_, _, by rw [decide_eq_true hfit], fun _ => ⟨rfl, rfl⟩, rfl⟩
            · rw [if_pos (Int.not_le.1 (fun h => hfit (HF.out.1 h)))]
              exact ⟨_, _, by rw [decide_eq_false hfit], (fun h => by cases h), rfl⟩)
          generalize n * p10 k = v at hb hv1 HP ⊢
          go_wp2
          go_loop [0, 1, 7] (fun a1 a2 a3 => a1 = .int .i64 v ∧ a2 = .int .i64 0 ∧ a3 = .bool true) (fun _ _ _ => 0)
          case atStart => exact ⟨rfl, rfl, rfl⟩
          case round =>
            obtain ⟨rfl, rfl, rfl⟩ := hrel
            go_wp2
            exact bodyPost_ret (v := .tuple #[.int .i64 (v), .bool true, .bool (decide (v ≤ 1099511627776))]) (by simp [results, Tryd.results30, go_sem]) rfl HP.out
end Go.Proofs.YtglfnbhcdblpiaaDoor
