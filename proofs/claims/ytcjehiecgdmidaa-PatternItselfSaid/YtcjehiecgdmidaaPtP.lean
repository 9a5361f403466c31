/- Plain laws of patterns: items, parts, and what they match. -/
import Derived.Test.YtcjehiecgdmidaaCore
set_option linter.unusedVariables false
set_option linter.unusedSimpArgs false
namespace Go.Proofs.Ytcjehiecgdmidaa

/-- an item of a wild part -/
structure It where
  star : Bool
  set : UInt8 → Bool
  plain : Bool
  self : UInt8
/-- items against a name -/
def mW : List It → List UInt8 → Bool
  | [], s => s.isEmpty
  | x :: xs, s => if x.star then (List.range (s.length + 1)).any fun j => mW xs (s.drop j)
    else match s with | [] => false | c :: t => x.set c && mW xs t
theorem mW_star {x : It} (xs : List It) (s : List UInt8) (h : x.star = true) : mW (x :: xs) s = true ↔ ∃ j, j ≤ s.length ∧ mW xs (s.drop j) = true := by
  have e : mW (x :: xs) s = (List.range (s.length + 1)).any fun j => mW xs (s.drop j) := by cases s <;> rw [mW, if_pos h]
  rw [e, List.any_eq_true]
  constructor
  · rintro ⟨j, hj, hm⟩; exact ⟨j, by rw [List.mem_range] at hj; omega, hm⟩
  · rintro ⟨j, hj, hm⟩; exact ⟨j, List.mem_range.2 (by omega), hm⟩
theorem mW_cons {x : It} (xs : List It) (c : UInt8) (t : List UInt8) (h : x.star = false) : mW (x :: xs) (c :: t) = (x.set c && mW xs t) := by
  rw [mW, if_neg (by rw [h]; decide)]
theorem mW_none {x : It} (xs : List It) (h : x.star = false) : mW (x :: xs) [] = false := by
  rw [mW, if_neg (by rw [h]; decide)]
/-- a star takes more as well -/
theorem star_mono {x : It} (xs : List It) (s : List UInt8) (h : x.star = true) (k m : Nat) (hk : k ≤ m) (hm : mW (x :: xs) (s.drop m) = true) : mW (x :: xs) (s.drop k) = true := by
  obtain ⟨j, hj, h2⟩ := (mW_star xs _ h).1 hm
  rcases Nat.lt_or_ge s.length m with hlt | hge
  · have hj0 : j = 0 := by rw [List.length_drop] at hj; omega
    subst hj0
    rw [List.drop_zero, List.drop_eq_nil_of_le (by omega)] at h2
    refine (mW_star xs _ h).2 ⟨(s.drop k).length, Nat.le_refl _, ?_⟩
    rw [List.drop_length]; exact h2
  · refine (mW_star xs _ h).2 ⟨j + (m - k), by rw [List.length_drop] at hj ⊢; omega, ?_⟩
    rw [List.drop_drop] at h2 ⊢
    rwa [show k + (j + (m - k)) = m + j by omega]
/-- items that are no stars take one byte each -/
theorem seg_take : ∀ (n : Nat) (w : List It) (s : List UInt8), (∀ q, ∀ h : q < w.length, q < n → w[q].star = false) → n ≤ w.length → mW w s = true → n ≤ s.length ∧ mW (w.drop n) (s.drop n) = true
  | 0, w, s, _, _, hm => ⟨Nat.zero_le _, by rwa [List.drop_zero, List.drop_zero]⟩
  | n + 1, [], s, _, hn, _ => by simp at hn
  | n + 1, x :: xs, s, hs, hn, hm => by
    have hx : x.star = false := hs 0 (by simp) (by omega)
    cases s with
    | nil => rw [mW_none xs hx] at hm; cases hm
    | cons c t =>
      rw [mW_cons xs c t hx, Bool.and_eq_true] at hm
      obtain ⟨h1, h2⟩ := seg_take n xs t (fun q hq hqn => hs (q + 1) (by simpa using hq) (by omega)) (by simpa using hn) hm.2
      exact ⟨by simpa using h1, by simpa using h2⟩

/-! ### The way that tries again behind a star -/
/-- the items from i on match what is left from k on, or those behind the last star match from somewhere behind from -/
def Tries (w : List It) (s : List UInt8) (i k : Nat) (star : Option Nat) (frm : Nat) : Prop :=
  mW (w.drop i) (s.drop k) = true ∨ ∃ st, star = some st ∧ ∃ j, frm < j ∧ j ≤ s.length ∧ mW (w.drop (st + 1)) (s.drop j) = true
structure Trail (w : List It) (s : List UInt8) (i k : Nat) (star : Option Nat) (frm : Nat) : Prop where
  iff : mW w s = true ↔ Tries w s i k star frm
  il : i ≤ w.length
  kl : k ≤ s.length
  seg : ∀ st, star = some st → st < i ∧ frm ≤ k ∧ k - frm = i - (st + 1) ∧ (∃ h : st < w.length, w[st].star = true) ∧ ∀ q, ∀ h : q < w.length, st < q → q < i → w[q].star = false
theorem Trail.start (w : List It) (s : List UInt8) : Trail w s 0 0 none 0 :=
  ⟨⟨fun h => .inl h, fun h => by rcases h with h | ⟨st, h, _⟩; exact h; cases h⟩, Nat.zero_le _, Nat.zero_le _, fun st h => by cases h⟩
theorem drop_cons {α : Type} {l : List α} {i : Nat} (h : i < l.length) : l.drop i = l[i] :: l.drop (i + 1) := List.drop_eq_getElem_cons h
theorem Trail.star {w : List It} {s : List UInt8} {i k : Nat} {star : Option Nat} {frm : Nat} (T : Trail w s i k star frm) (hi : i < w.length) (hs : w[i].star = true) : Trail w s (i + 1) k (some i) k where
  iff := by
    rw [T.iff]
    constructor
    · intro h
      have h0 : mW (w.drop i) (s.drop k) = true := by
        rcases h with h | ⟨st, rfl, j, h1, h2, h3⟩
        · exact h
        · obtain ⟨g1, g2, g3, _, g4⟩ := T.seg st rfl
          have hlen : i - (st + 1) ≤ (w.drop (st + 1)).length := by rw [List.length_drop]; omega
          obtain ⟨q1, q2⟩ := seg_take (i - (st + 1)) (w.drop (st + 1)) (s.drop j) (fun q hq hqn => by
            rw [List.getElem_drop]
            exact g4 (st + 1 + q) (by rw [List.length_drop] at hq; omega) (by omega) (by omega)) hlen h3
          rw [List.drop_drop, List.drop_drop, show st + 1 + (i - (st + 1)) = i by omega] at q2
          rw [drop_cons hi] at q2 ⊢
          exact star_mono _ s hs k _ (by omega) q2
      rw [drop_cons hi] at h0
      obtain ⟨j, hj, h2⟩ := (mW_star _ _ hs).1 h0
      rw [List.drop_drop] at h2
      rw [List.length_drop] at hj
      rcases Nat.eq_zero_or_pos j with h | h
      · subst h; exact .inl h2
      · exact .inr ⟨i, rfl, k + j, by omega, by have := T.kl; omega, h2⟩
    · intro h
      refine .inl ?_
      rw [drop_cons hi]
      refine (mW_star _ _ hs).2 ?_
      rcases h with h | ⟨st, hst, j, h1, h2, h3⟩
      · exact ⟨0, Nat.zero_le _, by rwa [List.drop_zero]⟩
      · cases hst
        refine ⟨j - k, by rw [List.length_drop]; omega, ?_⟩
        rw [List.drop_drop, show k + (j - k) = j by omega]; exact h3
  il := hi
  kl := T.kl
  seg := fun st h => by
    cases h
    exact ⟨Nat.lt_succ_self _, Nat.le_refl _, by omega, ⟨hi, hs⟩, fun q hq h1 h2 => by omega⟩
theorem Trail.byte {w : List It} {s : List UInt8} {i k : Nat} {star : Option Nat} {frm : Nat} (T : Trail w s i k star frm) (hi : i < w.length) (hs : w[i].star = false) (hk : k < s.length) (hb : w[i].set s[k] = true) : Trail w s (i + 1) (k + 1) star frm where
  iff := by
    rw [T.iff]
    have e : mW (w.drop i) (s.drop k) = mW (w.drop (i + 1)) (s.drop (k + 1)) := by
      rw [drop_cons hi, drop_cons hk, mW_cons _ _ _ hs, hb, Bool.true_and]
    unfold Tries
    rw [e]
  il := hi
  kl := hk
  seg := fun st h => by
    obtain ⟨g1, g2, g3, g4, g5⟩ := T.seg st h
    exact ⟨by omega, by omega, by omega, g4, fun q hq h1 h2 => by
      rcases Nat.lt_or_ge q i with h3 | h3
      · exact g5 q hq h1 h3
      · obtain rfl : q = i := by omega
        exact hs⟩
/-- no further here -/
theorem Trail.stuck {w : List It} {s : List UInt8} {i k : Nat} (hnd : i < w.length ∨ k < s.length) (hs : ∀ h : i < w.length, w[i].star = false) (hb : ∀ (h : i < w.length) (h2 : k < s.length), w[i].set s[k] = false) : mW (w.drop i) (s.drop k) = false := by
  by_cases hi : i < w.length
  · rw [drop_cons hi]
    by_cases hk : k < s.length
    · rw [drop_cons hk, mW_cons _ _ _ (hs hi), hb hi hk, Bool.false_and]
    · rw [List.drop_eq_nil_of_le (Nat.le_of_not_lt hk), mW_none _ (hs hi)]
  · have hk : k < s.length := by rcases hnd with h | h; exact absurd h hi; exact h
    rw [List.drop_eq_nil_of_le (Nat.le_of_not_lt hi), drop_cons hk]; rfl
theorem Trail.no {w : List It} {s : List UInt8} {i k : Nat} {star : Option Nat} {frm : Nat} (T : Trail w s i k star frm) (h : mW (w.drop i) (s.drop k) = false) (hf : star = none ∨ s.length ≤ frm) : mW w s = false := by
  rw [← Bool.not_eq_true, T.iff]
  rintro (h2 | ⟨st, rfl, j, h1, h2, h3⟩)
  · rw [h] at h2; cases h2
  · rcases hf with hf | hf
    · cases hf
    · omega
theorem Trail.again {w : List It} {s : List UInt8} {i k st frm : Nat} (T : Trail w s i k (some st) frm) (h : mW (w.drop i) (s.drop k) = false) (hf : frm < s.length) : Trail w s (st + 1) (frm + 1) (some st) (frm + 1) where
  iff := by
    rw [T.iff]
    constructor
    · rintro (h2 | ⟨st', hst, j, h1, h2, h3⟩)
      · rw [h] at h2; cases h2
      · cases hst
        rcases Nat.lt_or_ge (frm + 1) j with h4 | h4
        · exact .inr ⟨st, rfl, j, h4, h2, h3⟩
        · obtain rfl : j = frm + 1 := by omega
          exact .inl h3
    · rintro (h2 | ⟨st', hst, j, h1, h2, h3⟩)
      · exact .inr ⟨st, rfl, frm + 1, Nat.lt_succ_self _, hf, h2⟩
      · cases hst
        exact .inr ⟨st, rfl, j, by omega, h2, h3⟩
  il := by have := (T.seg st rfl).2.2.2.1.1; omega
  kl := hf
  seg := fun st' h => by
    cases h
    exact ⟨Nat.lt_succ_self _, Nat.le_refl _, by omega, (T.seg st rfl).2.2.2.1, fun q hq h1 h2 => by omega⟩
theorem Trail.yes {w : List It} {s : List UInt8} {star : Option Nat} {frm : Nat} (T : Trail w s w.length s.length star frm) : mW w s = true := by
  rw [T.iff]
  refine .inl ?_
  rw [List.drop_length, List.drop_length]; rfl

/-! ### Parts and paths -/
inductive Pt where
  | any
  | lit (n : List UInt8)
  | wild (w : List It)
def Pt.ok : Pt → List UInt8 → Bool
  | .any, _ => false
  | .lit n, s => decide (s = n)
  | .wild w, s => mW w s
def Pt.isAny : Pt → Bool
  | .any => true
  | _ => false
/-- parts against a path -/
def mP : List Pt → List (List UInt8) → Bool
  | [], path => path.isEmpty
  | x :: xs, path => if x.isAny then (List.range (path.length + 1)).any fun j => mP xs (path.drop j)
    else match path with | [] => false | n :: t => x.ok n && mP xs t
theorem mP_any {x : Pt} (xs : List Pt) (p : List (List UInt8)) (h : x.isAny = true) : mP (x :: xs) p = true ↔ ∃ j, j ≤ p.length ∧ mP xs (p.drop j) = true := by
  have e : mP (x :: xs) p = (List.range (p.length + 1)).any fun j => mP xs (p.drop j) := by cases p <;> rw [mP, if_pos h]
  rw [e, List.any_eq_true]
  constructor
  · rintro ⟨j, hj, hm⟩; exact ⟨j, by rw [List.mem_range] at hj; omega, hm⟩
  · rintro ⟨j, hj, hm⟩; exact ⟨j, List.mem_range.2 (by omega), hm⟩
theorem mP_cons {x : Pt} (xs : List Pt) (n : List UInt8) (t : List (List UInt8)) (h : x.isAny = false) : mP (x :: xs) (n :: t) = (x.ok n && mP xs t) := by
  rw [mP, if_neg (by rw [h]; decide)]
theorem mP_none {x : Pt} (xs : List Pt) (h : x.isAny = false) : mP (x :: xs) [] = false := by
  rw [mP, if_neg (by rw [h]; decide)]
/-- parts behind parts match a path that has a piece for each -/
theorem mP_append : ∀ (ps qs : List Pt) (p : List (List UInt8)), mP (ps ++ qs) p = true ↔ ∃ i, i ≤ p.length ∧ mP ps (p.take i) = true ∧ mP qs (p.drop i) = true
  | [], qs, p => by
    constructor
    · intro h; exact ⟨0, Nat.zero_le _, rfl, h⟩
    · rintro ⟨i, hi, h1, h2⟩
      have : p.take i = [] := List.isEmpty_iff.1 h1
      have h0 : i = 0 := by
        have h3 : min i p.length = 0 := by rw [← List.length_take, this]; rfl
        omega
      subst h0; exact h2
  | x :: xs, qs, p => by
    cases hx : x.isAny with
    | true =>
      rw [List.cons_append, mP_any _ _ hx]
      constructor
      · rintro ⟨j, hj, h⟩
        obtain ⟨i, hi, h1, h2⟩ := (mP_append xs qs _).1 h
        rw [List.length_drop] at hi
        refine ⟨j + i, by omega, (mP_any _ _ hx).2 ⟨j, by rw [List.length_take]; omega, ?_⟩, by rwa [List.drop_drop] at h2⟩
        rw [List.drop_take, show j + i - j = i by omega]; exact h1
      · rintro ⟨i, hi, h1, h2⟩
        obtain ⟨j, hj, h3⟩ := (mP_any _ _ hx).1 h1
        rw [List.length_take] at hj
        refine ⟨j, by omega, (mP_append xs qs _).2 ⟨i - j, by rw [List.length_drop]; omega, ?_, ?_⟩⟩
        · rwa [List.drop_take] at h3
        · rwa [List.drop_drop, show j + (i - j) = i by omega]
    | false =>
      cases p with
      | nil =>
        rw [List.cons_append, mP_none _ hx]
        constructor
        · intro h; cases h
        · rintro ⟨i, _, h1, _⟩
          rw [List.take_nil, mP_none _ hx] at h1; cases h1
      | cons n t =>
        rw [List.cons_append, mP_cons _ _ _ hx, Bool.and_eq_true, mP_append xs qs t]
        constructor
        · rintro ⟨h0, i, hi, h1, h2⟩
          exact ⟨i + 1, by simpa using hi, by rw [List.take_succ_cons, mP_cons _ _ _ hx, h0, h1]; rfl, by simpa using h2⟩
        · rintro ⟨i, hi, h1, h2⟩
          cases i with
          | zero => rw [List.take_zero, mP_none _ hx] at h1; cases h1
          | succ i =>
            rw [List.take_succ_cons, mP_cons _ _ _ hx, Bool.and_eq_true] at h1
            exact ⟨h1.1, i, by simpa using hi, h1.2, by simpa using h2⟩
theorem mP_one (x : Pt) (p : List (List UInt8)) : mP [x] p = if x.isAny then true else match p with | [n] => x.ok n | _ => false := by
  cases hx : x.isAny with
  | true =>
    rw [if_pos rfl]
    exact (mP_any _ _ hx).2 ⟨p.length, Nat.le_refl _, by rw [List.drop_length]; rfl⟩
  | false =>
    rw [if_neg (by decide)]
    match p with
    | [] => exact mP_none _ hx
    | [n] => rw [mP_cons _ _ _ hx]; show (x.ok n && true) = _; rw [Bool.and_true]
    | n :: m :: t => rw [mP_cons _ _ _ hx]; show (x.ok n && false) = _; rw [Bool.and_false]
end Go.Proofs.Ytcjehiecgdmidaa
