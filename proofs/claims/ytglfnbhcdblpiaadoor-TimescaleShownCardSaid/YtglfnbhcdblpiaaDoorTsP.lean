/- Plain: reading the text of a time is converting it. -/
import Derived.Test.YtglfnbhcdblpiaaDoorTsN
set_option linter.unusedVariables false
namespace Go.Proofs.YtglfnbhcdblpiaaDoor
open Go.RowKit Go.Shelf Go.Sort

theorem dec_all (n : Nat) : (∀ c ∈ Lib.decDigits n, isD c = true) ∧ dv (Lib.decDigits n) = n ∧ 1 ≤ (Lib.decDigits n).length ∧ ∀ k, 1 ≤ k → n < 10 ^ k → (Lib.decDigits n).length ≤ k := by
  induction n using Nat.strongRecOn with
  | _ n ih =>
  by_cases hs : n < 10
  · have e : Lib.decDigits n = [UInt8.ofNat (48 + n)] := by rw [Lib.decDigits, dif_pos hs]
    have hc : (UInt8.ofNat (48 + n)).toNat = 48 + n := by rw [UInt8.toNat_ofNat', Nat.mod_eq_of_lt (by omega)]
    rw [e]
    refine ⟨fun c h => ?_, ?_, by simp, fun k h1 h2 => by simpa using h1⟩
    · obtain rfl : c = UInt8.ofNat (48 + n) := by simpa using h
      unfold isD; rw [decide_eq_true_eq, hc]; omega
    · show 10 * 0 + ((UInt8.ofNat (48 + n)).toNat - 48) = n
      rw [hc]; omega
  · have e : Lib.decDigits n = Lib.decDigits (n / 10) ++ [UInt8.ofNat (48 + n % 10)] := by rw [Lib.decDigits, dif_neg hs]
    have hc : (UInt8.ofNat (48 + n % 10)).toNat = 48 + n % 10 := by rw [UInt8.toNat_ofNat', Nat.mod_eq_of_lt (by omega)]
    obtain ⟨i1, i2, i3, i4⟩ := ih (n / 10) (by omega)
    rw [e]
    refine ⟨fun c h => ?_, ?_, by simp, fun k h1 h2 => ?_⟩
    · rcases List.mem_append.1 h with h | h
      · exact i1 c h
      · obtain rfl : c = UInt8.ofNat (48 + n % 10) := by simpa using h
        unfold isD; rw [decide_eq_true_eq, hc]; omega
    · rw [dv_snoc, i2, hc]; omega
    · obtain ⟨k', rfl⟩ : ∃ k', k = k' + 1 := ⟨k - 1, by omega⟩
      rw [List.length_append]
      show _ + 1 ≤ _
      have h3 : n / 10 < 10 ^ k' := by rw [Nat.pow_succ] at h2; omega
      have hk' : 1 ≤ k' := by
        rcases Nat.eq_zero_or_pos k' with h | h
        · subst h; simp at h2; omega
        · exact h
      have := i4 k' hk' h3
      omega
theorem nd_app (l r : List UInt8) (h : ∀ c ∈ l, isD c = true) (hr : ∀ c, r.head? = some c → isD c = false) : nd (l ++ r) = l.length := by
  unfold nd
  induction l with
  | nil =>
    rcases r with _ | ⟨c, r⟩
    · rfl
    · have := hr c rfl
      simp [this]
  | cons a l ih =>
    have h1 := h a (by simp)
    have h2 := ih (fun c hc => h c (by simp [hc]))
    rw [List.cons_append, List.takeWhile_cons, h1]
    simpa using h2
theorem uname_ne (i j : Nat) (hi : i < 6) (hj : j < 6) (h : i ≠ j) : uname i ≠ uname j := by
  have hall : ∀ i j : Fin 6, i ≠ j → uname i.val ≠ uname j.val := by decide +kernel
  exact hall ⟨i, hi⟩ ⟨j, hj⟩ (fun e => h (congrArg Fin.val e))
theorem trim_uname (i : Nat) : trimB (⟨#[32]⟩ ++ uname i) = uname i := by
  unfold trimB Lib.trimPrefix
  have e : (⟨#[32]⟩ ++ uname i : ByteArray).data.toList = 32 :: (uname i).data.toList := by rw [app_data]; rfl
  rw [e, if_pos ((prefix_cons _).2 ⟨_, rfl⟩)]
  exact Go.WideShapes.bytes_inj rfl
theorem powAt_uname (i : Nat) (s : Int) (hi : i < 6) : ∀ k, k ≤ 6 → i < k → powAt (⟨#[32]⟩ ++ uname i) s k = (-(3 * (i : Int)), true) := by
  intro k
  induction k with
  | zero => intro _ h; omega
  | succ k ih =>
    intro hk h
    show (if trimB (⟨#[32]⟩ ++ uname i) = uname k then _ else _) = _
    rw [trim_uname]
    by_cases he : i = k
    · rw [if_pos (by rw [he]), he]
    · rw [if_neg (uname_ne i k hi (by omega) he)]
      exact ih (by omega) (by omega)
theorem read_show (t a b : Int) (ha : validB a = true) (hb : validB b = true) (h0 : 0 ≤ t) (h1 : t ≤ 1099511627776) : readS (showS t a) b = convertS t a b := by
  obtain ⟨v1, v2⟩ := validB_bd ha
  obtain ⟨v3, v4⟩ := validB_bd hb
  obtain ⟨u1, u2, u3, _⟩ := unitIx_spec a v1 v2
  obtain ⟨f1, f2⟩ := fac_le a v1 v2
  have hfac : P a = P (-(3 * (unitIx a : Int))) * facS a := by
    rw [P_split (a := -(3 * (unitIx a : Int))) (b := a) (by omega) u2]
    unfold facS
    rw [show a - -(3 * (unitIx a : Int)) = a + 3 * (unitIx a : Int) by omega]
  have hshow : showS t a = decB (t * facS a) ++ ⟨#[32]⟩ ++ uname (unitIx a) := by
    unfold showS; rw [ha, Bool.true_and, decide_eq_true ⟨h0, h1⟩, if_pos rfl]
  have hx0 : 0 ≤ t * facS a := Int.mul_nonneg h0 (by omega)
  have hx1 : t * facS a ≤ 109951162777600 := Int.le_trans (Int.mul_le_mul h1 f2 (by omega) (by omega)) (by omega)
  obtain ⟨X, hX⟩ : ∃ X : Nat, t * facS a = X := ⟨(t * facS a).toNat, by omega⟩
  obtain ⟨d1, d2, d3, d4⟩ := dec_all X
  have d5 := d4 15 (by omega) (by have e : (10 : Nat) ^ 15 = 1000000000000000 := by decide
                                  omega)
  have htext : (showS t a).data.toList = Lib.decDigits X ++ (32 :: (uname (unitIx a)).data.toList) := by
    rw [hshow, hX, app_data, app_data]
    unfold decB
    rw [Lib.itoa_nonneg, List.append_assoc]
    rfl
  have hnd : nd (showS t a).data.toList = (Lib.decDigits X).length := by
    rw [htext]
    exact nd_app _ _ d1 (fun c hc => by cases hc; decide)
  have hnum : numN (showS t a) = t * facS a := by
    unfold numN
    rw [hnd, htext, List.take_left, d2, hX]
  have hrest : restN (showS t a) = ⟨#[32]⟩ ++ uname (unitIx a) := by
    apply Go.WideShapes.bytes_inj
    have e1 : (restN (showS t a)).data.toList = (showS t a).data.toList.drop (nd (showS t a).data.toList) := by
      unfold restN; rw [Lib.extract_to_end]
    rw [e1, hnd, htext, List.drop_left, app_data]
    rfl
  have hbad : badN (showS t a) = false := by
    unfold badN
    rw [decide_eq_false_iff_not, hnd]
    rintro (h | h | ⟨h, h'⟩)
    · omega
    · omega
    · have h6 : (showS t a).data.toList[0]? = some ((Lib.decDigits X)[0]'(by omega)) := by
        rw [htext, List.getElem?_append_left (by omega), List.getElem?_eq_getElem (by omega)]
      rw [h6] at h
      rcases Nat.eq_zero_or_pos X with hz | hz
      · rw [hz, Lib.decDigits, dif_pos (by decide)] at h'
        simp at h'
      · exact dec_head X hz (by omega) (Option.some.inj h)
  have hread : readS (showS t a) b = if (shiftS (t * facS a) (-(3 * (unitIx a : Int)) - b)).2.1 && (shiftS (t * facS a) (-(3 * (unitIx a : Int)) - b)).2.2 then ((shiftS (t * facS a) (-(3 * (unitIx a : Int)) - b)).1, 0) else (0, 2) := by
    unfold readS
    rw [hb, if_pos rfl, hbad, if_neg Bool.false_ne_true, hrest, powAt_uname _ b u1 6 (Nat.le_refl _) u1, if_pos rfl, hnum]
  rw [hread]
  have hx := shift_exact (t * facS a) (-(3 * (unitIx a : Int))) b hx0 (by omega) v3
  rw [Int.mul_assoc, Int.mul_comm (facS a), ← hfac] at hx
  cases hs : (shiftS (t * facS a) (-(3 * (unitIx a : Int)) - b)).2.1 && (shiftS (t * facS a) (-(3 * (unitIx a : Int)) - b)).2.2 with
  | true =>
    rw [if_pos rfl]
    rw [Bool.and_eq_true] at hs
    have := hx (shiftS (t * facS a) (-(3 * (unitIx a : Int)) - b)).1
    generalize shiftS (t * facS a) (-(3 * (unitIx a : Int)) - b) = z at *
    obtain ⟨z1, z2, z3⟩ := z
    obtain ⟨rfl, rfl⟩ := hs
    obtain ⟨y1, y2⟩ := this.1 rfl
    exact ((conv_ok t a b z1).2 ⟨ha, hb, h0, h1, y2, y1⟩).symm
  | false =>
    rw [if_neg Bool.false_ne_true]
    have hno : ∀ n, convertS t a b ≠ (n, 0) := fun n h => by
      obtain ⟨_, _, _, _, y1, y2⟩ := (conv_ok t a b n).1 h
      rw [(hx n).2 ⟨y2, y1⟩] at hs
      cases hs
    rcases conv_cases t a b with ⟨_, _, h⟩ | ⟨e, _⟩ | ⟨e, _⟩ | ⟨e, _⟩
    · exact absurd ⟨ha, hb⟩ h
    · rw [e]
    · rw [e]
    · rw [e] at hno ⊢
      split
      · rename_i h; rw [if_pos h] at hno; exact absurd rfl (hno _)
      · rfl
theorem show_empty (t a : Int) : showS t a = ⟨#[]⟩ ∨ (validB a = true ∧ 0 ≤ t ∧ t ≤ 1099511627776) := by
  cases ha : validB a with
  | false => left; unfold showS; rw [ha]; rfl
  | true =>
    by_cases h : 0 ≤ t ∧ t ≤ 1099511627776
    · exact .inr ⟨rfl, h⟩
    · left; unfold showS; rw [ha, decide_eq_false h]; rfl
theorem show_size (t a : Int) : (showS t a).size ≤ 1000000 := by
  rcases show_empty t a with h | ⟨ha, h0, h1⟩
  · rw [h]; decide
  · obtain ⟨v1, v2⟩ := validB_bd ha
    obtain ⟨f1, f2⟩ := fac_le a v1 v2
    have hshow : showS t a = decB (t * facS a) ++ ⟨#[32]⟩ ++ uname (unitIx a) := by
      unfold showS; rw [ha, Bool.true_and, decide_eq_true ⟨h0, h1⟩, if_pos rfl]
    have z1 := decB_size (t * facS a) (Int.mul_nonneg h0 (by omega)) (Int.le_trans (Int.mul_le_mul h1 f2 (by omega) (by omega)) (by omega))
    have z2 := uname_size (unitIx a)
    rw [hshow, ByteArray.size_append, ByteArray.size_append]
    show _ + 1 + _ ≤ _
    omega
end Go.Proofs.YtglfnbhcdblpiaaDoor
