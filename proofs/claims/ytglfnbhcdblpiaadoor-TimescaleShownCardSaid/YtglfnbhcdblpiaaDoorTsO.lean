/- Plain laws of the scales: what is exact, what is rounded down, what parses. -/
import Derived.Test.YtglfnbhcdblpiaaDoorTsM
set_option linter.unusedVariables false
namespace Go.Proofs.YtglfnbhcdblpiaaDoor
open Go.RowKit Go.Shelf Go.Sort

/-- ten to the power of a scale, from the finest scale on -/
def P (s : Int) : Int := p10 (s + 15).toNat
theorem P_pos (s : Int) : 1 ≤ P s := p10_pos _
theorem P_split {a b : Int} (ha : -15 ≤ a) (h : a ≤ b) : P b = P a * p10 (b - a).toNat := by
  unfold P
  rw [← p10_add]
  congr 1
  omega
/-- what shift says, in terms of the common scale -/
theorem shift_exact (n a b : Int) (hn : 0 ≤ n) (ha : -15 ≤ a) (hb : -15 ≤ b) (r : Int) :
    (shiftS n (a - b) = (r, true, true)) ↔ (n * P a = r * P b ∧ r ≤ 1099511627776) := by
  unfold shiftS
  by_cases h : a - b < 0
  · rw [if_pos h]
    have hs := P_split (a := a) (b := b) ha (by omega)
    rw [show (-(a - b)).toNat = (b - a).toNat by congr 1; omega]
    have hp := p10_pos (b - a).toNat
    have hP := P_pos a
    rw [hs]
    generalize p10 (b - a).toNat = p at *
    generalize P a = q at *
    constructor
    · intro e
      have e1 := congrArg Prod.fst e
      have e2 := congrArg (fun x => x.2.1) e
      have e3 := congrArg (fun x => x.2.2) e
      simp only [beq_iff_eq, decide_eq_true_eq] at e1 e2 e3
      have := Int.mul_ediv_add_emod n p
      refine ⟨?_, by omega⟩
      rw [← e1, ← Int.mul_assoc, Int.mul_right_comm, show n / p * p = n by rw [Int.mul_comm]; omega]
    · rintro ⟨e1, e2⟩
      have e3 : n = r * p := by
        have : n * q = r * p * q := by rw [e1]; rw [Int.mul_assoc, Int.mul_comm q p]
        exact Int.eq_of_mul_eq_mul_right (by omega) this
      subst e3
      have e4 : r * p / p = r := Int.mul_ediv_cancel r (by omega)
      have e5 : r * p % p = 0 := Int.mul_emod_left r p
      rw [e4, e5, decide_eq_true e2]
      rfl
  · rw [if_neg h]
    have hs := P_split (a := b) (b := a) hb (by omega)
    have hp := p10_pos (a - b).toNat
    have hP := P_pos b
    rw [hs]
    generalize p10 (a - b).toNat = p at *
    generalize P b = q at *
    have hcut : ¬ 1099511627776 / p < n ↔ n * p ≤ 1099511627776 := by
      rw [Int.not_lt, Int.le_ediv_iff_mul_le (by omega)]
    constructor
    · intro e
      by_cases hc : 1099511627776 / p < n
      · rw [if_pos hc] at e; have := congrArg (fun x => x.2.2) e; simp at this
      · rw [if_neg hc] at e
        have e1 := congrArg Prod.fst e
        simp only at e1
        have := hcut.1 hc
        exact ⟨by rw [← e1, ← Int.mul_assoc, Int.mul_right_comm], by omega⟩
    · rintro ⟨e1, e2⟩
      have e3 : n * p = r := by
        have : n * p * q = r * q := by rw [← e1, Int.mul_right_comm, Int.mul_assoc]
        exact Int.eq_of_mul_eq_mul_right (by omega) this
      rw [if_neg (hcut.2 (by omega)), e3]

theorem conv_cases (t a b : Int) :
    (convertS t a b = (0, 1) ∧ floorS t a b = (0, 1) ∧ ¬ (validB a = true ∧ validB b = true)) ∨
    (convertS t a b = (0, 2) ∧ floorS t a b = (0, 2) ∧ validB a = true ∧ validB b = true ∧ (t < 0 ∨ 1099511627776 < t)) ∨
    (convertS t a b = (0, 2) ∧ floorS t a b = (0, 2) ∧ validB a = true ∧ validB b = true ∧ 0 ≤ t ∧ t ≤ 1099511627776 ∧ (shiftS t (a - b)).2.2 = false) ∨
    (convertS t a b = (if (shiftS t (a - b)).2.1 then ((shiftS t (a - b)).1, 0) else (0, 2)) ∧ floorS t a b = ((shiftS t (a - b)).1, 0) ∧ validB a = true ∧ validB b = true ∧ 0 ≤ t ∧ t ≤ 1099511627776 ∧ (shiftS t (a - b)).2.2 = true) := by
  cases ha : validB a with
  | false => exact .inl ⟨(conv_bad (.inl ha)).1, (conv_bad (.inl ha)).2, by simp⟩
  | true =>
    cases hb : validB b with
    | false => exact .inl ⟨(conv_bad (.inr hb)).1, (conv_bad (.inr hb)).2, by simp⟩
    | true =>
      by_cases ht : 0 ≤ t ∧ t ≤ 1099511627776
      · cases hs : (shiftS t (a - b)).2.2 with
        | false => exact .inr (.inr (.inl ⟨(conv_no ha hb ht.1 ht.2 hs).1, (conv_no ha hb ht.1 ht.2 hs).2, rfl, rfl, ht.1, ht.2, rfl⟩))
        | true => exact .inr (.inr (.inr ⟨(conv_yes ha hb ht.1 ht.2 hs).1, (conv_yes ha hb ht.1 ht.2 hs).2, rfl, rfl, ht.1, ht.2, rfl⟩))
      · have ht' : t < 0 ∨ 1099511627776 < t := by omega
        exact .inr (.inl ⟨(conv_out ha hb ht').1, (conv_out ha hb ht').2, rfl, rfl, ht'⟩)

theorem conv_ok (t a b n : Int) : convertS t a b = (n, 0) ↔ (validB a = true ∧ validB b = true ∧ 0 ≤ t ∧ t ≤ 1099511627776 ∧ n ≤ 1099511627776 ∧ t * P a = n * P b) := by
  have two : ¬ ((0 : Int), (2 : Int)) = (n, 0) := fun h => by have := congrArg Prod.snd h; simp at this
  have one : ¬ ((0 : Int), (1 : Int)) = (n, 0) := fun h => by have := congrArg Prod.snd h; simp at this
  rcases conv_cases t a b with ⟨e, _, h⟩ | ⟨e, _, h1, h2, h3⟩ | ⟨e, _, h1, h2, h3, h4, h5⟩ | ⟨e, _, h1, h2, h3, h4, h5⟩
  · rw [e]; exact ⟨fun h' => absurd h' one, fun h' => absurd ⟨h'.1, h'.2.1⟩ h⟩
  · rw [e]; exact ⟨fun h' => absurd h' two, fun h' => by omega⟩
  · rw [e]
    refine ⟨fun h' => absurd h' two, fun h' => ?_⟩
    have := (shift_exact t a b h3 (validB_bd h1).1 (validB_bd h2).1 n).2 ⟨h'.2.2.2.2.2, h'.2.2.2.2.1⟩
    rw [this] at h5; cases h5
  · rw [e]
    have hx := shift_exact t a b h3 (validB_bd h1).1 (validB_bd h2).1 n
    cases hs : (shiftS t (a - b)).2.1 with
    | false =>
      rw [if_neg Bool.false_ne_true]
      refine ⟨fun h' => absurd h' two, fun h' => ?_⟩
      have := hx.2 ⟨h'.2.2.2.2.2, h'.2.2.2.2.1⟩
      rw [this] at hs; cases hs
    | true =>
      rw [if_pos rfl]
      constructor
      · intro h'
        have h6 : shiftS t (a - b) = (n, true, true) := by
          have q : (shiftS t (a - b)).1 = n := congrArg Prod.fst h'
          generalize shiftS t (a - b) = z at q hs h5
          obtain ⟨z1, z2, z3⟩ := z
          simp only at q hs h5
          rw [q, hs, h5]
        obtain ⟨x1, x2⟩ := hx.1 h6
        exact ⟨h1, h2, h3, h4, x2, x1⟩
      · rintro ⟨_, _, _, _, y1, y2⟩
        rw [hx.2 ⟨y2, y1⟩]
theorem conv_err (t a b : Int) (h : (convertS t a b).2 ≠ 0) : (convertS t a b).1 = 0 := by
  rcases conv_cases t a b with ⟨e, _, _⟩ | ⟨e, _, _⟩ | ⟨e, _, _⟩ | ⟨e, _, _⟩
  · rw [e]
  · rw [e]
  · rw [e]
  · rw [e] at h ⊢
    split
    · rename_i hs; rw [if_pos hs] at h; exact absurd rfl h
    · rfl
theorem floor_err (t a b : Int) (h : (floorS t a b).2 ≠ 0) : (floorS t a b).1 = 0 := by
  rcases conv_cases t a b with ⟨_, e, _⟩ | ⟨_, e, _⟩ | ⟨_, e, _⟩ | ⟨_, e, _⟩
  · rw [e]
  · rw [e]
  · rw [e]
  · rw [e] at h; exact absurd rfl h
theorem conv_range (t a b : Int) : (convertS t a b).2 = 0 ∨ (convertS t a b).2 = 1 ∨ (convertS t a b).2 = 2 := by
  rcases conv_cases t a b with ⟨e, _, _⟩ | ⟨e, _, _⟩ | ⟨e, _, _⟩ | ⟨e, _, _⟩ <;> rw [e] <;> try simp
  split <;> simp
theorem conv_floor (t a b : Int) (h : (convertS t a b).2 = 0) : floorS t a b = convertS t a b := by
  rcases conv_cases t a b with ⟨e, _, _⟩ | ⟨e, _, _⟩ | ⟨e, _, _⟩ | ⟨e, e', _⟩
  · rw [e] at h; simp at h
  · rw [e] at h; simp at h
  · rw [e] at h; simp at h
  · rw [e] at h ⊢
    rw [e']
    split
    · rfl
    · rename_i hs; rw [if_neg hs] at h; simp at h
/-- a result of Floor at a coarser scale -/
theorem floor_ok (t a b : Int) (hab : a ≤ b) (ha : validB a = true) (hb : validB b = true) (h0 : 0 ≤ t) (h1 : t ≤ 1099511627776) :
    ∃ n, floorS t a b = (n, 0) ∧ 0 ≤ n ∧ n ≤ t ∧ n * P b ≤ t * P a ∧ t * P a < (n + 1) * P b := by
  have hs := P_split (a := a) (b := b) (validB_bd ha).1 hab
  have hp := p10_pos (b - a).toNat
  have hP := P_pos a
  have hq : shiftS t (a - b) = (t / p10 (b - a).toNat, t % p10 (b - a).toNat == 0, true) := by
    unfold shiftS
    by_cases h : a - b < 0
    · rw [if_pos h, show (-(a - b)).toNat = (b - a).toNat by congr 1; omega, decide_eq_true]
      have := Int.ediv_le_self (p10 (b - a).toNat) h0
      omega
    · obtain rfl : a = b := by omega
      rw [if_neg h, Int.sub_self]
      show (if (1099511627776 : Int) / 1 < t then _ else (t * 1, true, true)) = (t / 1, t % 1 == 0, true)
      rw [Int.ediv_one, Int.ediv_one, if_neg (by omega), Int.mul_one, Int.emod_one]; rfl
  have h5 : (shiftS t (a - b)).2.2 = true := by rw [hq]
  refine ⟨t / p10 (b - a).toNat, by rw [(conv_yes ha hb h0 h1 h5).2, hq], Int.ediv_nonneg h0 (by omega), Int.ediv_le_self _ h0, ?_⟩
  rw [hs]
  generalize p10 (b - a).toNat = p at *
  generalize P a = q at *
  have e1 : t / p * p ≤ t := Int.ediv_mul_le t (by omega)
  have e2 : t < (t / p + 1) * p := Int.lt_ediv_add_one_mul_self t (by omega)
  constructor
  · rw [Int.mul_comm q p, ← Int.mul_assoc]; exact Int.mul_le_mul_of_nonneg_right e1 (by omega)
  · rw [Int.mul_comm q p, ← Int.mul_assoc]; exact Int.mul_lt_mul_of_pos_right e2 (by omega)
theorem floor_inv (t a b n : Int) (h : floorS t a b = (n, 0)) : validB a = true ∧ validB b = true ∧ 0 ≤ t ∧ t ≤ 1099511627776 := by
  rcases conv_cases t a b with ⟨_, e, _⟩ | ⟨_, e, _⟩ | ⟨_, e, _⟩ | ⟨_, e, h1, h2, h3, h4, _⟩
  · rw [e] at h; have := congrArg Prod.snd h; simp at this
  · rw [e] at h; have := congrArg Prod.snd h; simp at this
  · rw [e] at h; have := congrArg Prod.snd h; simp at this
  · exact ⟨h1, h2, h3, h4⟩
theorem sq_le {x y p : Int} (hp : 1 ≤ p) (h : x * p < (y + 1) * p) : x ≤ y := by
  have := Int.lt_of_mul_lt_mul_right h (by omega)
  omega
theorem floor_uniq {x y p v : Int} (hp : 1 ≤ p) (h1 : x * p ≤ v) (h2 : v < (x + 1) * p) (h3 : y * p ≤ v) (h4 : v < (y + 1) * p) : x = y := by
  have := sq_le hp (Int.lt_of_le_of_lt h1 h4)
  have := sq_le hp (Int.lt_of_le_of_lt h3 h2)
  omega
/-- the law of Chains, for Convert -/
theorem chain_conv (t a b c : Int) (he : (convertS t a b).2 = 0) (hf : (convertS (convertS t a b).1 b c).2 = 0) : (convertS t a c).2 = 0 ∧ (convertS t a c).1 = (convertS (convertS t a b).1 b c).1 := by
  generalize hn : (convertS t a b).1 = n at *
  generalize hm : (convertS n b c).1 = m at *
  have h1 := (conv_ok t a b n).1 (Prod.ext hn he)
  have h2 := (conv_ok n b c m).1 (Prod.ext hm hf)
  have h3 := (conv_ok t a c m).2 ⟨h1.1, h2.2.1, h1.2.2.1, h1.2.2.2.1, h2.2.2.2.2.1, by rw [h1.2.2.2.2.2, h2.2.2.2.2.2]⟩
  rw [h3]; exact ⟨rfl, rfl⟩
/-- the law of Chains, for Floor -/
theorem chain_floor (t a b c : Int) (hab : a ≤ b) (hbc : b ≤ c) (hc : c ≤ 2) (he : (floorS t a b).2 = 0) :
    (floorS (floorS t a b).1 b c).2 = 0 ∧ (floorS t a c).2 = 0 ∧ (floorS t a c).1 = (floorS (floorS t a b).1 b c).1 := by
  obtain ⟨v1, v2, v3, v4⟩ := floor_inv t a b _ (Prod.ext rfl he)
  have v5 : validB c = true := by
    have := validB_bd v2
    unfold validB; rw [decide_eq_true]; omega
  obtain ⟨n, n1, n2, n3, n4, n5⟩ := floor_ok t a b hab v1 v2 v3 v4
  obtain ⟨m, m1, m2, m3, m4, m5⟩ := floor_ok n b c hbc v2 v5 n2 (by omega)
  obtain ⟨k, k1, k2, k3, k4, k5⟩ := floor_ok t a c (by omega) v1 v5 v3 v4
  rw [n1]
  simp only
  rw [m1, k1]
  refine ⟨rfl, rfl, ?_⟩
  simp only
  refine floor_uniq (P_pos c) k4 k5 (Int.le_trans m4 n4) ?_
  have hs := P_split (a := b) (b := c) (validB_bd v2).1 hbc
  rw [hs, Int.mul_comm (P b), ← Int.mul_assoc] at m5 ⊢
  have h6 : n < (m + 1) * p10 (c - b).toNat := Int.lt_of_mul_lt_mul_right m5 (by have := P_pos b; omega)
  exact Int.lt_of_lt_of_le n5 (Int.mul_le_mul_of_nonneg_right (by omega) (by have := P_pos b; omega))
/-- the law of Returns -/
theorem conv_back (t a b n : Int) (h : convertS t a b = (n, 0)) : convertS n b a = (t, 0) := by
  obtain ⟨h1, h2, h3, h4, h5, h6⟩ := (conv_ok t a b n).1 h
  refine (conv_ok n b a t).2 ⟨h2, h1, ?_, h5, h4, h6.symm⟩
  have p1 := P_pos a
  have p2 := P_pos b
  rcases Int.lt_or_le n 0 with hn | hn
  · exfalso
    have e1 : n * P b < 0 := Int.mul_neg_of_neg_of_pos hn (by omega)
    have e2 : 0 ≤ t * P a := Int.mul_nonneg h3 (by omega)
    omega
  · exact hn
/-- the law of Floors -/
theorem floors (t a b : Int) (hf : (convertS t a b).2 ≠ 0) (he : (floorS t a b).2 = 0) :
    a < b ∧ (convertS (floorS t a b).1 b a).2 = 0 ∧ (convertS (floorS t a b).1 b a).1 < t ∧ ((convertS ((floorS t a b).1 + 1) b a).2 = 2 ∨ ((convertS ((floorS t a b).1 + 1) b a).2 = 0 ∧ t < (convertS ((floorS t a b).1 + 1) b a).1)) := by
  obtain ⟨v1, v2, v3, v4⟩ := floor_inv t a b _ (Prod.ext rfl he)
  have hab : a < b := by
    rcases Int.lt_or_le a b with h | h
    · exact h
    · exfalso
      rcases conv_cases t a b with ⟨_, e, _⟩ | ⟨_, e, _⟩ | ⟨_, e, _⟩ | ⟨e, e', h1, h2, h3, h4, h5⟩
      · rw [e] at he; simp at he
      · rw [e] at he; simp at he
      · rw [e] at he; simp at he
      · have hx : (shiftS t (a - b)).2.1 = true := by
          unfold shiftS at h5 ⊢
          rw [if_neg (by omega)] at h5 ⊢
          split
          · rename_i hc; rw [if_pos hc] at h5; simp at h5
          · rfl
        rw [e, hx, if_pos rfl] at hf
        exact hf rfl
  obtain ⟨n, n1, n2, n3, n4, n5⟩ := floor_ok t a b (by omega) v1 v2 v3 v4
  have hs := P_split (a := a) (b := b) (validB_bd v1).1 (by omega)
  have hp := p10_pos (b - a).toNat
  have hP := P_pos a
  have h10 : 10 ≤ p10 (b - a).toNat := by
    have := p10_mono (show 1 ≤ (b - a).toNat by omega)
    have e : p10 1 = 10 := rfl
    omega
  rw [n1]
  simp only
  have hlow : convertS n b a = (n * p10 (b - a).toNat, 0) := by
    refine (conv_ok n b a _).2 ⟨v2, v1, n2, by omega, ?_, by rw [hs, Int.mul_comm (P a), Int.mul_assoc]⟩
    rw [hs, Int.mul_comm (P a), ← Int.mul_assoc] at n4
    have := Int.le_of_mul_le_mul_right n4 (by omega)
    omega
  rw [hs, Int.mul_comm (P a), ← Int.mul_assoc] at n4 n5
  have n6 := Int.le_of_mul_le_mul_right n4 (show 0 < P a by omega)
  have n7 := Int.lt_of_mul_lt_mul_right n5 (show 0 ≤ P a by omega)
  rw [hlow]
  refine ⟨hab, rfl, ?_, ?_⟩
  · simp only
    rcases Int.lt_or_eq_of_le n6 with h | h
    · exact h
    · exfalso
      apply hf
      have : convertS t a b = (n, 0) := (conv_ok t a b n).2 ⟨v1, v2, v3, v4, by omega, by rw [hs, ← h, Int.mul_comm (P a), Int.mul_assoc]⟩
      rw [this]
  · have hn1 : n + 1 ≤ 1099511627776 := by
      have := Int.mul_le_mul_of_nonneg_left h10 n2
      omega
    by_cases hb : (n + 1) * p10 (b - a).toNat ≤ 1099511627776
    · refine .inr ?_
      have : convertS (n + 1) b a = ((n + 1) * p10 (b - a).toNat, 0) :=
        (conv_ok (n + 1) b a _).2 ⟨v2, v1, by omega, hn1, hb, by rw [hs, Int.mul_comm (P a), Int.mul_assoc]⟩
      rw [this]; exact ⟨rfl, n7⟩
    · refine .inl ?_
      rcases conv_cases (n + 1) b a with ⟨_, _, h⟩ | ⟨e, _⟩ | ⟨e, _⟩ | ⟨e, _, _, _, _, _, h5⟩
      · exact absurd ⟨v2, v1⟩ h
      · rw [e]
      · rw [e]
      · exfalso
        have : shiftS (n + 1) (b - a) = (0, false, false) := by
          unfold shiftS
          rw [if_neg (by omega), if_pos]
          refine Int.not_le.1 fun h => hb ((Int.le_ediv_iff_mul_le (by omega)).1 h)
        rw [this] at h5; cases h5
theorem parse_format (s : Int) : parseS (formatS s) = if validB s then (s, 0) else (0, 3) := by
  cases hv : validB s with
  | false =>
    have : formatS s = ⟨#[]⟩ := by unfold formatS; rw [hv]; rfl
    rw [this, if_neg Bool.false_ne_true]
    decide +kernel
  | true =>
    rw [if_pos rfl]
    obtain ⟨h1, h2⟩ := validB_bd hv
    obtain ⟨k, rfl⟩ : ∃ k : Nat, s = (k : Int) - 15 := ⟨(s + 15).toNat, by omega⟩
    have hk : k < 18 := by omega
    have hall : ∀ k : Fin 18, parseS (formatS ((k.val : Int) - 15)) = ((k.val : Int) - 15, 0) := by decide +kernel
    exact hall ⟨k, hk⟩
end Go.Proofs.YtglfnbhcdblpiaaDoor
