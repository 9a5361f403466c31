/- Plain: the digits at the beginning of a text. -/
import Derived.Lib.Atoi
import Derived.Lib.ItoaMem
set_option linter.unusedVariables false
namespace Go.Proofs.Ytcjehiecgdmidaa
open Go

def isD (b : UInt8) : Bool := decide (48 ≤ b.toNat ∧ b.toNat ≤ 57)
/-- how many digits a text begins with -/
def nd (l : List UInt8) : Nat := (l.takeWhile isD).length
theorem nd_le (l : List UInt8) : nd l ≤ l.length := by
  unfold nd
  induction l with
  | nil => exact Nat.le_refl _
  | cons a t ih => rw [List.takeWhile_cons]; split <;> simp <;> omega
theorem nd_in (l : List UInt8) : ∀ (j : Nat) (h : j < l.length), j < nd l → isD l[j] = true := by
  unfold nd
  induction l with
  | nil => intro j h; simp at h
  | cons a t ih =>
    intro j h hj
    rw [List.takeWhile_cons] at hj
    cases ha : isD a with
    | false => rw [ha] at hj; simp at hj
    | true =>
      rw [ha] at hj
      rcases j with _ | j
      · exact ha
      · exact ih j (by simpa using h) (by simpa using hj)
theorem nd_end (l : List UInt8) (h : nd l < l.length) : isD l[nd l] = false := by
  unfold nd at h ⊢
  induction l with
  | nil => simp at h
  | cons a t ih =>
    cases ha : isD a with
    | false => simp [ha]
    | true =>
      have h' : (t.takeWhile isD).length < t.length := by simpa [List.takeWhile_cons, ha] using h
      simpa [ha] using ih h'
/-- the number that digits spell -/
def dv (l : List UInt8) : Nat := l.foldl (fun a b => 10 * a + (b.toNat - 48)) 0
theorem dv_snoc (l : List UInt8) (b : UInt8) : dv (l ++ [b]) = 10 * dv l + (b.toNat - 48) := by
  unfold dv; rw [List.foldl_append]; rfl
theorem take_snocL (l : List UInt8) (k : Nat) (h : k < l.length) : l.take (k + 1) = l.take k ++ [l[k]] := by
  rw [List.take_succ_eq_append_getElem h]
theorem dv_take (l : List UInt8) (k : Nat) (h : k < l.length) : dv (l.take (k + 1)) = 10 * dv (l.take k) + (l[k].toNat - 48) := by
  rw [take_snocL l k h, dv_snoc]
theorem dv_lt (l : List UInt8) (k : Nat) : (∀ j (h : j < l.length), j < k → isD l[j] = true) → k ≤ l.length → dv (l.take k) < 10 ^ k := by
  induction k with
  | zero => intro _ _; show 0 < _; decide
  | succ k ih =>
    intro hd hk
    have h1 := ih (fun j h hj => hd j h (by omega)) (by omega)
    have h2 := hd k (by omega) (by omega)
    rw [dv_take l k (by omega), Nat.pow_succ]
    simp only [isD, decide_eq_true_eq] at h2
    omega
theorem digit_of {b : UInt8} (h : isD b = true) : Lib.digitVal b = some (b.toNat - 48) := by
  simp only [isD, decide_eq_true_eq] at h
  unfold Lib.digitVal
  rw [if_pos (by first | exact h | simpa using h)]
theorem decFrom_dv (l : List UInt8) (k : Nat) : (∀ j (h : j < l.length), j < k → isD l[j] = true) → k ≤ l.length → Lib.decFrom 0 (l.take k) = some (dv (l.take k)) := by
  induction k with
  | zero => intro _ _; rfl
  | succ k ih =>
    intro hd hk
    have h1 := ih (fun j h hj => hd j h (by omega)) (by omega)
    have h2 := hd k (by omega) (by omega)
    rw [Lib.decFrom_take l k 0 _ l[k] _ h1 (List.getElem?_eq_getElem (by omega)) (digit_of h2), dv_take l k (by omega), Nat.mul_comm]
theorem atoi_dv (l : List UInt8) (k : Nat) (hd : ∀ j (h : j < l.length), j < k → isD l[j] = true) (hk : k ≤ l.length) (h1 : 1 ≤ k) : Lib.atoi (l.take k) = some ((dv (l.take k) : Nat) : Int) := by
  have hf := decFrom_dv l k hd hk
  rcases l with _ | ⟨b, t⟩
  · simp at hk; omega
  · obtain ⟨k', rfl⟩ : ∃ k', k = k' + 1 := ⟨k - 1, by omega⟩
    have hb := hd 0 (by simp) (by omega)
    simp only [isD, decide_eq_true_eq, List.getElem_cons_zero] at hb
    rw [List.take_succ_cons] at hf ⊢
    have n1 : (b == 45) = false := beq_eq_false_iff_ne.2 (fun e => by subst e; simp at hb)
    have n2 : (b == 43) = false := beq_eq_false_iff_ne.2 (fun e => by subst e; simp at hb)
    unfold Lib.atoi
    simp only [n1, n2, Bool.false_eq_true, if_false]
    unfold Lib.decNat
    first | (rw [hf]; rfl) | (simp [hf])
/-- digits spell themselves, if there is no zero ahead -/
theorem dec_self' (n : Nat) : ∀ (l : List UInt8) (hn : l.length = n) (hd : ∀ j (h : j < l.length), isD l[j] = true) (h1 : 1 ≤ l.length) (hz : ∀ h : 0 < l.length, l[0] ≠ 48 ∨ l.length = 1), Lib.decDigits (dv l) = l := by
  induction n with
  | zero => intro l hn _ h; omega
  | succ n ih =>
    intro l hn hd h1 hz
    obtain ⟨t, b, rfl⟩ : ∃ t b, l = t ++ [b] := ⟨l.dropLast, l.getLast (by intro e; subst e; simp at hn), (List.dropLast_concat_getLast _).symm⟩
    have hb := hd t.length (by simp)
    simp only [List.getElem_append_right (Nat.le_refl _), Nat.sub_self, List.getElem_cons_zero, isD, decide_eq_true_eq] at hb
    have hu : UInt8.ofNat (48 + (b.toNat - 48)) = b := by
      apply UInt8.toNat_inj.1
      rw [UInt8.toNat_ofNat', Nat.mod_eq_of_lt (by omega)]; omega
    rw [dv_snoc]
    have hl : t.length = n := by simpa using hn
    rcases Nat.eq_zero_or_pos n with h0 | h0
    · obtain rfl : t = [] := List.eq_nil_of_length_eq_zero (by omega)
      show Lib.decDigits (10 * 0 + _) = _
      rw [Lib.decDigits, dif_pos (by omega), show 48 + (10 * 0 + (b.toNat - 48)) = 48 + (b.toNat - 48) by omega, hu]; rfl
    · have hz0 := hz (by omega)
      have ht : ∀ j (h : j < t.length), isD t[j] = true := fun j h => by
        have := hd j (by simp; omega)
        rwa [List.getElem_append_left h] at this
      have hne : t[0]'(by omega) ≠ 48 := by
        have := hz (by simp)
        rw [List.getElem_append_left (by omega)] at this
        rcases this with h | h
        · exact h
        · simp only [List.length_append, List.length_cons, List.length_nil] at h; omega
      have hi := ih t hl ht (by omega) (fun h => .inl hne)
      have hpos : 1 ≤ dv t := by
        rcases Nat.eq_zero_or_pos (dv t) with h | h
        · exfalso
          rw [h, Lib.decDigits, dif_pos (by decide)] at hi
          have : t[0]'(by omega) = 48 := by
            have e : t = [48] := hi.symm
            simp [e]
          exact hne this
        · exact h
      rw [Lib.decDigits, dif_neg (by omega), show (10 * dv t + (b.toNat - 48)) / 10 = dv t by omega, show (10 * dv t + (b.toNat - 48)) % 10 = b.toNat - 48 by omega, hi, hu]
theorem dec_head (n : Nat) : 1 ≤ n → ∀ h : 0 < (Lib.decDigits n).length, (Lib.decDigits n)[0] ≠ 48 := by
  induction n using Nat.strongRecOn with
  | _ n ih =>
  intro h1 h
  by_cases hs : n < 10
  · have e : Lib.decDigits n = [UInt8.ofNat (48 + n)] := by rw [Lib.decDigits, dif_pos hs]
    simp only [e, List.getElem_cons_zero]
    intro hh
    have := congrArg UInt8.toNat hh
    rw [UInt8.toNat_ofNat', Nat.mod_eq_of_lt (by omega)] at this
    have h48 : (48 : UInt8).toNat = 48 := rfl
    omega
  · have e : Lib.decDigits n = Lib.decDigits (n / 10) ++ [UInt8.ofNat (48 + n % 10)] := by rw [Lib.decDigits, dif_neg hs]
    have hp : 0 < (Lib.decDigits (n / 10)).length := by rw [Lib.decDigits]; split <;> simp
    simp only [e]
    rw [List.getElem_append_left hp]
    exact ih (n / 10) (by omega) (by omega) hp
/-- the test of the reference is that of the program -/
theorem dec_iff (l : List UInt8) (hd : ∀ j (h : j < l.length), isD l[j] = true) (h1 : 1 ≤ l.length) : l = Lib.decDigits (dv l) ↔ ¬ (l[0]'(by omega) = 48 ∧ 1 < l.length) := by
  constructor
  · rintro he ⟨h0, hl⟩
    rcases Nat.eq_zero_or_pos (dv l) with h | h
    · rw [h, Lib.decDigits, dif_pos (by omega)] at he
      rw [he] at hl; simp at hl
    · have := dec_head (dv l) h (by rw [← he]; omega)
      exact this (by simp only [← he]; exact h0)
  · intro hno
    exact (dec_self' l.length l rfl hd h1 (fun h => by
      by_cases hz : l[0] = 48
      · exact .inr (by have : ¬ 1 < l.length := fun hl => hno ⟨hz, hl⟩
                       omega)
      · exact .inl hz)).symm
end Go.Proofs.Ytcjehiecgdmidaa
