/- MgB: the texts PtP PtQ PtA PtB PtC PtF TsJ NmP NmQ PtI PtE in one. -/
import Derived.Test.YtpfiofgchkfkhaaMgA
import Derived.Test.YtpfiofgchkfkhaaProg
import Derived.Deep.QuietTactic
import Derived.Lib.IndexBytes
import Derived.BigQuiet
import Derived.Test.YtpfiofgchkfkhaaShelfP
import Derived.Deep.DeepCutAuto
import Derived.Deep.CutBlock
import Derived.Deep.MidRow
import Derived.Lib.Atoi
import Derived.Lib.ItoaMem
import Derived.Lib.IndexAny
import Derived.Lib.IndexMore
import Derived.WideShapes
import Derived.Deep.RegionHeld3
/- Plain laws of patterns: items, parts, and what they match. -/
set_option linter.unusedVariables false
set_option linter.unusedSimpArgs false
namespace Go.Proofs.Ytpfiofgchkfkhaa

/-- an item of a wild part -/
structure It where
  star : Bool
  set : UInt8 → Bool
  plain : Bool
  self : UInt8
/-- items against a name -/
def mW : List It → List UInt8 → Bool
  | [], s => s.isEmpty
  | x :: xs, s => if x.star then (List.range (s.length + 1)).any fun j => mW xs (s.drop j)
    else match s with | [] => false | c :: t => x.set c && mW xs t
theorem mW_star {x : It} (xs : List It) (s : List UInt8) (h : x.star = true) : mW (x :: xs) s = true ↔ ∃ j, j ≤ s.length ∧ mW xs (s.drop j) = true := by
  have e : mW (x :: xs) s = (List.range (s.length + 1)).any fun j => mW xs (s.drop j) := by cases s <;> rw [mW, if_pos h]
  rw [e, List.any_eq_true]
  constructor
  · rintro ⟨j, hj, hm⟩; exact ⟨j, by rw [List.mem_range] at hj; omega, hm⟩
  · rintro ⟨j, hj, hm⟩; exact ⟨j, List.mem_range.2 (by omega), hm⟩
theorem mW_cons {x : It} (xs : List It) (c : UInt8) (t : List UInt8) (h : x.star = false) : mW (x :: xs) (c :: t) = (x.set c && mW xs t) := by
  rw [mW, if_neg (by rw [h]; decide)]
theorem mW_none {x : It} (xs : List It) (h : x.star = false) : mW (x :: xs) [] = false := by
  rw [mW, if_neg (by rw [h]; decide)]
/-- a star takes more as well -/
theorem star_mono {x : It} (xs : List It) (s : List UInt8) (h : x.star = true) (k m : Nat) (hk : k ≤ m) (hm : mW (x :: xs) (s.drop m) = true) : mW (x :: xs) (s.drop k) = true := by
  obtain ⟨j, hj, h2⟩ := (mW_star xs _ h).1 hm
  rcases Nat.lt_or_ge s.length m with hlt | hge
  · have hj0 : j = 0 := by rw [List.length_drop] at hj; omega
    subst hj0
    rw [List.drop_zero, List.drop_eq_nil_of_le (by omega)] at h2
    refine (mW_star xs _ h).2 ⟨(s.drop k).length, Nat.le_refl _, ?_⟩
    rw [List.drop_length]; exact h2
  · refine (mW_star xs _ h).2 ⟨j + (m - k), by rw [List.length_drop] at hj ⊢; omega, ?_⟩
    rw [List.drop_drop] at h2 ⊢
    rwa [show k + (j + (m - k)) = m + j by omega]
/-- items that are no stars take one byte each -/
theorem seg_take : ∀ (n : Nat) (w : List It) (s : List UInt8), (∀ q, ∀ h : q < w.length, q < n → w[q].star = false) → n ≤ w.length → mW w s = true → n ≤ s.length ∧ mW (w.drop n) (s.drop n) = true
  | 0, w, s, _, _, hm => ⟨Nat.zero_le _, by rwa [List.drop_zero, List.drop_zero]⟩
  | n + 1, [], s, _, hn, _ => by simp at hn
  | n + 1, x :: xs, s, hs, hn, hm => by
    have hx : x.star = false := hs 0 (by simp) (by omega)
    cases s with
    | nil => rw [mW_none xs hx] at hm; cases hm
    | cons c t =>
      rw [mW_cons xs c t hx, Bool.and_eq_true] at hm
      obtain ⟨h1, h2⟩ := seg_take n xs t (fun q hq hqn => hs (q + 1) (by simpa using hq) (by omega)) (by simpa using hn) hm.2
      exact ⟨by simpa using h1, by simpa using h2⟩

/-! ### The way that tries again behind a star -/
/-- the items from i on match what is left from k on, or those behind the last star match from somewhere behind from -/
def Tries (w : List It) (s : List UInt8) (i k : Nat) (star : Option Nat) (frm : Nat) : Prop :=
  mW (w.drop i) (s.drop k) = true ∨ ∃ st, star = some st ∧ ∃ j, frm < j ∧ j ≤ s.length ∧ mW (w.drop (st + 1)) (s.drop j) = true
structure Trail (w : List It) (s : List UInt8) (i k : Nat) (star : Option Nat) (frm : Nat) : Prop where
  iff : mW w s = true ↔ Tries w s i k star frm
  il : i ≤ w.length
  kl : k ≤ s.length
  seg : ∀ st, star = some st → st < i ∧ frm ≤ k ∧ k - frm = i - (st + 1) ∧ (∃ h : st < w.length, w[st].star = true) ∧ ∀ q, ∀ h : q < w.length, st < q → q < i → w[q].star = false
theorem Trail.start (w : List It) (s : List UInt8) : Trail w s 0 0 none 0 :=
  ⟨⟨fun h => .inl h, fun h => by rcases h with h | ⟨st, h, _⟩; exact h; cases h⟩, Nat.zero_le _, Nat.zero_le _, fun st h => by cases h⟩
theorem drop_cons {α : Type} {l : List α} {i : Nat} (h : i < l.length) : l.drop i = l[i] :: l.drop (i + 1) := List.drop_eq_getElem_cons h
theorem Trail.star {w : List It} {s : List UInt8} {i k : Nat} {star : Option Nat} {frm : Nat} (T : Trail w s i k star frm) (hi : i < w.length) (hs : w[i].star = true) : Trail w s (i + 1) k (some i) k where
  iff := by
    rw [T.iff]
    constructor
    · intro h
      have h0 : mW (w.drop i) (s.drop k) = true := by
        rcases h with h | ⟨st, rfl, j, h1, h2, h3⟩
        · exact h
        · obtain ⟨g1, g2, g3, _, g4⟩ := T.seg st rfl
          have hlen : i - (st + 1) ≤ (w.drop (st + 1)).length := by rw [List.length_drop]; omega
          obtain ⟨q1, q2⟩ := seg_take (i - (st + 1)) (w.drop (st + 1)) (s.drop j) (fun q hq hqn => by
            rw [List.getElem_drop]
            exact g4 (st + 1 + q) (by rw [List.length_drop] at hq; omega) (by omega) (by omega)) hlen h3
          rw [List.drop_drop, List.drop_drop, show st + 1 + (i - (st + 1)) = i by omega] at q2
          rw [drop_cons hi] at q2 ⊢
          exact star_mono _ s hs k _ (by omega) q2
      rw [drop_cons hi] at h0
      obtain ⟨j, hj, h2⟩ := (mW_star _ _ hs).1 h0
      rw [List.drop_drop] at h2
      rw [List.length_drop] at hj
      rcases Nat.eq_zero_or_pos j with h | h
      · subst h; exact .inl h2
      · exact .inr ⟨i, rfl, k + j, by omega, by have := T.kl; omega, h2⟩
    · intro h
      refine .inl ?_
      rw [drop_cons hi]
      refine (mW_star _ _ hs).2 ?_
      rcases h with h | ⟨st, hst, j, h1, h2, h3⟩
      · exact ⟨0, Nat.zero_le _, by rwa [List.drop_zero]⟩
      · cases hst
        refine ⟨j - k, by rw [List.length_drop]; omega, ?_⟩
        rw [List.drop_drop, show k + (j - k) = j by omega]; exact h3
  il := hi
  kl := T.kl
  seg := fun st h => by
    cases h
    exact ⟨Nat.lt_succ_self _, Nat.le_refl _, by omega, ⟨hi, hs⟩, fun q hq h1 h2 => by omega⟩
theorem Trail.byte {w : List It} {s : List UInt8} {i k : Nat} {star : Option Nat} {frm : Nat} (T : Trail w s i k star frm) (hi : i < w.length) (hs : w[i].star = false) (hk : k < s.length) (hb : w[i].set s[k] = true) : Trail w s (i + 1) (k + 1) star frm where
  iff := by
    rw [T.iff]
    have e : mW (w.drop i) (s.drop k) = mW (w.drop (i + 1)) (s.drop (k + 1)) := by
      rw [drop_cons hi, drop_cons hk, mW_cons _ _ _ hs, hb, Bool.true_and]
    unfold Tries
    rw [e]
  il := hi
  kl := hk
  seg := fun st h => by
    obtain ⟨g1, g2, g3, g4, g5⟩ := T.seg st h
    exact ⟨by omega, by omega, by omega, g4, fun q hq h1 h2 => by
      rcases Nat.lt_or_ge q i with h3 | h3
      · exact g5 q hq h1 h3
      · obtain rfl : q = i := by omega
        exact hs⟩
/-- no further here -/
theorem Trail.stuck {w : List It} {s : List UInt8} {i k : Nat} (hnd : i < w.length ∨ k < s.length) (hs : ∀ h : i < w.length, w[i].star = false) (hb : ∀ (h : i < w.length) (h2 : k < s.length), w[i].set s[k] = false) : mW (w.drop i) (s.drop k) = false := by
  by_cases hi : i < w.length
  · rw [drop_cons hi]
    by_cases hk : k < s.length
    · rw [drop_cons hk, mW_cons _ _ _ (hs hi), hb hi hk, Bool.false_and]
    · rw [List.drop_eq_nil_of_le (Nat.le_of_not_lt hk), mW_none _ (hs hi)]
  · have hk : k < s.length := by rcases hnd with h | h; exact absurd h hi; exact h
    rw [List.drop_eq_nil_of_le (Nat.le_of_not_lt hi), drop_cons hk]; rfl
theorem Trail.no {w : List It} {s : List UInt8} {i k : Nat} {star : Option Nat} {frm : Nat} (T : Trail w s i k star frm) (h : mW (w.drop i) (s.drop k) = false) (hf : star = none ∨ s.length ≤ frm) : mW w s = false := by
  rw [← Bool.not_eq_true, T.iff]
  rintro (h2 | ⟨st, rfl, j, h1, h2, h3⟩)
  · rw [h] at h2; cases h2
  · rcases hf with hf | hf
    · cases hf
    · omega
theorem Trail.again {w : List It} {s : List UInt8} {i k st frm : Nat} (T : Trail w s i k (some st) frm) (h : mW (w.drop i) (s.drop k) = false) (hf : frm < s.length) : Trail w s (st + 1) (frm + 1) (some st) (frm + 1) where
  iff := by
    rw [T.iff]
    constructor
    · rintro (h2 | ⟨st', hst, j, h1, h2, h3⟩)
      · rw [h] at h2; cases h2
      · cases hst
        rcases Nat.lt_or_ge (frm + 1) j with h4 | h4
        · exact .inr ⟨st, rfl, j, h4, h2, h3⟩
        · obtain rfl : j = frm + 1 := by omega
          exact .inl h3
    · rintro (h2 | ⟨st', hst, j, h1, h2, h3⟩)
      · exact .inr ⟨st, rfl, frm + 1, Nat.lt_succ_self _, hf, h2⟩
      · cases hst
        exact .inr ⟨st, rfl, j, by omega, h2, h3⟩
  il := by have := (T.seg st rfl).2.2.2.1.1; omega
  kl := hf
  seg := fun st' h => by
    cases h
    exact ⟨Nat.lt_succ_self _, Nat.le_refl _, by omega, (T.seg st rfl).2.2.2.1, fun q hq h1 h2 => by omega⟩
theorem Trail.yes {w : List It} {s : List UInt8} {star : Option Nat} {frm : Nat} (T : Trail w s w.length s.length star frm) : mW w s = true := by
  rw [T.iff]
  refine .inl ?_
  rw [List.drop_length, List.drop_length]; rfl

/-! ### Parts and paths -/
inductive Pt where
  | any
  | lit (n : List UInt8)
  | wild (w : List It)
def Pt.ok : Pt → List UInt8 → Bool
  | .any, _ => false
  | .lit n, s => decide (s = n)
  | .wild w, s => mW w s
def Pt.isAny : Pt → Bool
  | .any => true
  | _ => false
/-- parts against a path -/
def mP : List Pt → List (List UInt8) → Bool
  | [], path => path.isEmpty
  | x :: xs, path => if x.isAny then (List.range (path.length + 1)).any fun j => mP xs (path.drop j)
    else match path with | [] => false | n :: t => x.ok n && mP xs t
theorem mP_any {x : Pt} (xs : List Pt) (p : List (List UInt8)) (h : x.isAny = true) : mP (x :: xs) p = true ↔ ∃ j, j ≤ p.length ∧ mP xs (p.drop j) = true := by
  have e : mP (x :: xs) p = (List.range (p.length + 1)).any fun j => mP xs (p.drop j) := by cases p <;> rw [mP, if_pos h]
  rw [e, List.any_eq_true]
  constructor
  · rintro ⟨j, hj, hm⟩; exact ⟨j, by rw [List.mem_range] at hj; omega, hm⟩
  · rintro ⟨j, hj, hm⟩; exact ⟨j, List.mem_range.2 (by omega), hm⟩
theorem mP_cons {x : Pt} (xs : List Pt) (n : List UInt8) (t : List (List UInt8)) (h : x.isAny = false) : mP (x :: xs) (n :: t) = (x.ok n && mP xs t) := by
  rw [mP, if_neg (by rw [h]; decide)]
theorem mP_none {x : Pt} (xs : List Pt) (h : x.isAny = false) : mP (x :: xs) [] = false := by
  rw [mP, if_neg (by rw [h]; decide)]
/-- parts behind parts match a path that has a piece for each -/
theorem mP_append : ∀ (ps qs : List Pt) (p : List (List UInt8)), mP (ps ++ qs) p = true ↔ ∃ i, i ≤ p.length ∧ mP ps (p.take i) = true ∧ mP qs (p.drop i) = true
  | [], qs, p => by
    constructor
    · intro h; exact ⟨0, Nat.zero_le _, rfl, h⟩
    · rintro ⟨i, hi, h1, h2⟩
      have : p.take i = [] := List.isEmpty_iff.1 h1
      have h0 : i = 0 := by
        have h3 : min i p.length = 0 := by rw [← List.length_take, this]; rfl
        omega
      subst h0; exact h2
  | x :: xs, qs, p => by
    cases hx : x.isAny with
    | true =>
      rw [List.cons_append, mP_any _ _ hx]
      constructor
      · rintro ⟨j, hj, h⟩
        obtain ⟨i, hi, h1, h2⟩ := (mP_append xs qs _).1 h
        rw [List.length_drop] at hi
        refine ⟨j + i, by omega, (mP_any _ _ hx).2 ⟨j, by rw [List.length_take]; omega, ?_⟩, by rwa [List.drop_drop] at h2⟩
        rw [List.drop_take, show j + i - j = i by omega]; exact h1
      · rintro ⟨i, hi, h1, h2⟩
        obtain ⟨j, hj, h3⟩ := (mP_any _ _ hx).1 h1
        rw [List.length_take] at hj
        refine ⟨j, by omega, (mP_append xs qs _).2 ⟨i - j, by rw [List.length_drop]; omega, ?_, ?_⟩⟩
        · rwa [List.drop_take] at h3
        · rwa [List.drop_drop, show j + (i - j) = i by omega]
    | false =>
      cases p with
      | nil =>
        rw [List.cons_append, mP_none _ hx]
        constructor
        · intro h; cases h
        · rintro ⟨i, _, h1, _⟩
          rw [List.take_nil, mP_none _ hx] at h1; cases h1
      | cons n t =>
        rw [List.cons_append, mP_cons _ _ _ hx, Bool.and_eq_true, mP_append xs qs t]
        constructor
        · rintro ⟨h0, i, hi, h1, h2⟩
          exact ⟨i + 1, by simpa using hi, by rw [List.take_succ_cons, mP_cons _ _ _ hx, h0, h1]; rfl, by simpa using h2⟩
        · rintro ⟨i, hi, h1, h2⟩
          cases i with
          | zero => rw [List.take_zero, mP_none _ hx] at h1; cases h1
          | succ i =>
            rw [List.take_succ_cons, mP_cons _ _ _ hx, Bool.and_eq_true] at h1
            exact ⟨h1.1, i, by simpa using hi, h1.2, by simpa using h2⟩
theorem mP_one (x : Pt) (p : List (List UInt8)) : mP [x] p = if x.isAny then true else match p with | [n] => x.ok n | _ => false := by
  cases hx : x.isAny with
  | true =>
    rw [if_pos rfl]
    exact (mP_any _ _ hx).2 ⟨p.length, Nat.le_refl _, by rw [List.drop_length]; rfl⟩
  | false =>
    rw [if_neg (by decide)]
    match p with
    | [] => exact mP_none _ hx
    | [n] => rw [mP_cons _ _ _ hx]; show (x.ok n && true) = _; rw [Bool.and_true]
    | n :: m :: t => rw [mP_cons _ _ _ hx]; show (x.ok n && false) = _; rw [Bool.and_false]
end Go.Proofs.Ytpfiofgchkfkhaa

/- Plain laws of patterns: how they are read. -/
set_option linter.unusedVariables false
set_option linter.unusedSimpArgs false
namespace Go.Proofs.Ytpfiofgchkfkhaa

/-- may a byte be one of a set's elements -/
def elB (c : UInt8) : Bool := decide (33 ≤ c.toNat ∧ c.toNat ≤ 126) && !(c == 46 || c == 92 || c == 91 || c == 93)
/-- is the element at the front a range -/
def rngB (b : List UInt8) : Bool := decide (3 ≤ b.length) && decide (b[1]? = some 45)
def hiB (b : List UInt8) : UInt8 := if rngB b then b.getD 2 0 else b.headD 0
def stepB (b : List UInt8) : Nat := if rngB b then 3 else 1
/-- is the element at the front a good one -/
def goodB (b : List UInt8) : Bool := elB (b.headD 0) && elB (hiB b) && decide ((b.headD 0).toNat ≤ (hiB b).toNat) && !(!rngB b && b.headD 0 == 45)
/-- a set's body: the bytes so far, and those of its elements -/
def setF : Nat → List UInt8 → (UInt8 → Bool) → Option (UInt8 → Bool)
  | 0, b, f => if b = [] then some f else none
  | n + 1, b, f => if b = [] then some f else if goodB b then setF n (b.drop (stepB b)) (fun c => f c || decide ((b.headD 0).toNat ≤ c.toNat ∧ c.toNat ≤ (hiB b).toNat)) else none
/-- a text before and behind a byte -/
def cutB (x : UInt8) (s : List UInt8) : Option (List UInt8 × List UInt8) := if x ∈ s then some (s.takeWhile (· != x), s.drop ((s.takeWhile (· != x)).length + 1)) else none
def noIt : It := ⟨false, fun _ => false, false, 0⟩
/-- a set behind its bracket -/
def setV (s : List UInt8) : Option (It × List UInt8) :=
  let inv := decide (s.head? = some 33)
  let s1 := if inv then s.tail else s
  (cutB 93 s1).bind fun p => if p.1 = [] then none else (setF p.1.length p.1 fun _ => false).map fun f => (⟨false, (if inv then fun c => !f c else f), false, 0⟩, p.2)
/-- an item -/
def nextV : List UInt8 → Option (It × List UInt8)
  | [] => none
  | c :: t => if c.toNat < 33 ∨ 126 < c.toNat ∨ c = 46 ∨ c = 92 ∨ c = 93 then none
    else if c = 91 then setV t
    else if c = 42 then some (⟨true, fun _ => false, false, 0⟩, t)
    else if c = 63 then some (⟨false, fun _ => true, false, 0⟩, t)
    else some (⟨false, fun x => x == c, true, c⟩, t)
def wildF : Nat → List UInt8 → Option (List It)
  | 0, s => if s = [] then some [] else none
  | n + 1, s => if s = [] then some [] else (nextV s).bind fun p => (wildF n p.2).map (p.1 :: ·)
def wildV (s : List UInt8) : Option (List It) := if s = [] ∨ 64 < s.length then none else wildF s.length s

/-- the only name that a part matches -/
def It.isPlain (x : It) : Bool := x.plain
def Pt.fixed : Pt → Option (List UInt8)
  | .any => none
  | .lit n => some n
  | .wild w => if w.all It.isPlain then some (w.map It.self) else none
/-- the names at the front that are fixed -/
def prefixV : List Pt → List (List UInt8)
  | [] => []
  | x :: xs => match x.fixed with
    | some n => n :: prefixV xs
    | none => []
/-- items that are as read: what is plain matches its own byte alone -/
def It.fit (x : It) : Prop := x.plain = true → x.star = false ∧ ∀ c, x.set c = (c == x.self)
def Pt.fit : Pt → Prop
  | .wild w => ∀ x ∈ w, x.fit
  | _ => True
theorem mW_plain : ∀ (w : List It) (s : List UInt8), (∀ x ∈ w, x.fit) → w.all It.isPlain = true → (mW w s = true ↔ s = w.map It.self)
  | [], s, _, _ => by
    show s.isEmpty = true ↔ s = []
    exact List.isEmpty_iff
  | x :: xs, s, hf, hp => by
    rw [List.all_cons, Bool.and_eq_true] at hp
    obtain ⟨h1, h2⟩ := hf x (List.mem_cons_self ..) hp.1
    have ih := fun t => mW_plain xs t (fun y hy => hf y (List.mem_cons_of_mem _ hy)) hp.2
    cases s with
    | nil => rw [mW_none xs h1]; exact ⟨fun h => (by cases h), fun h => (by cases h)⟩
    | cons c t =>
      rw [mW_cons xs c t h1, Bool.and_eq_true, h2, ih t, List.map_cons, beq_iff_eq]
      constructor
      · rintro ⟨rfl, rfl⟩; rfl
      · intro h; injection h with h3 h4; exact ⟨h3, h4⟩
theorem fixed_ok {x : Pt} {n : List UInt8} (hf : x.fit) (h : x.fixed = some n) (s : List UInt8) : x.isAny = false ∧ (x.ok s = true ↔ s = n) := by
  cases x with
  | any => cases h
  | lit m => cases h; exact ⟨rfl, decide_eq_true_iff⟩
  | wild w =>
    have h2 : (if w.all It.isPlain then some (w.map It.self) else none) = some n := h
    by_cases hp : w.all It.isPlain = true
    · rw [if_pos hp] at h2
      cases h2
      exact ⟨rfl, mW_plain w s hf hp⟩
    · rw [if_neg hp] at h2; cases h2
/-- each path that is matched begins with the fixed names -/
theorem prefix_of : ∀ (ps : List Pt) (p : List (List UInt8)), (∀ x ∈ ps, x.fit) → mP ps p = true → (prefixV ps).length ≤ p.length ∧ prefixV ps = p.take (prefixV ps).length
  | [], p, _, _ => ⟨Nat.zero_le _, rfl⟩
  | x :: xs, p, hf, hm => by
    cases hx : x.fixed with
    | none => unfold prefixV; rw [hx]; exact ⟨Nat.zero_le _, rfl⟩
    | some n =>
      have hfx := hf x (List.mem_cons_self ..)
      cases p with
      | nil => rw [mP_none _ (fixed_ok hfx hx []).1] at hm; cases hm
      | cons m t =>
        rw [mP_cons _ _ _ (fixed_ok hfx hx m).1, Bool.and_eq_true, (fixed_ok hfx hx m).2] at hm
        obtain ⟨rfl, hm2⟩ := hm
        obtain ⟨h1, h2⟩ := prefix_of xs t (fun y hy => hf y (List.mem_cons_of_mem _ hy)) hm2
        unfold prefixV
        rw [hx]
        simp only [List.length_cons, List.take_succ_cons]
        exact ⟨by omega, by rw [← h2]⟩
/-- where all parts are fixed the fixed names are matched -/
theorem prefix_all : ∀ (ps : List Pt), (∀ x ∈ ps, x.fit) → (∀ x ∈ ps, x.fixed ≠ none) → mP ps (prefixV ps) = true
  | [], _, _ => rfl
  | x :: xs, hf, ha => by
    cases hx : x.fixed with
    | none => exact absurd hx (ha x (List.mem_cons_self ..))
    | some n =>
      have hfx := hf x (List.mem_cons_self ..)
      unfold prefixV
      rw [hx]
      simp only
      rw [mP_cons _ _ _ (fixed_ok hfx hx n).1, (fixed_ok hfx hx n).2.2 rfl, Bool.true_and]
      exact prefix_all xs (fun y hy => hf y (List.mem_cons_of_mem _ hy)) (fun y hy => ha y (List.mem_cons_of_mem _ hy))
theorem nextV_fit {s t : List UInt8} {x : It} (h : nextV s = some (x, t)) : x.fit := by
  cases s with
  | nil => cases h
  | cons c r =>
    rw [nextV] at h
    by_cases h1 : c.toNat < 33 ∨ 126 < c.toNat ∨ c = 46 ∨ c = 92 ∨ c = 93
    · rw [if_pos h1] at h; cases h
    · rw [if_neg h1] at h
      by_cases h2 : c = 91
      · rw [if_pos h2] at h
        unfold setV at h
        simp only at h
        cases hc : cutB 93 (if decide (r.head? = some 33) = true then r.tail else r) with
        | none => rw [hc] at h; cases h
        | some p =>
          rw [hc] at h
          simp only [Option.bind_some] at h
          by_cases h3 : p.1 = []
          · rw [if_pos h3] at h; cases h
          · rw [if_neg h3] at h
            cases hs : setF p.1.length p.1 fun _ => false with
            | none => rw [hs] at h; cases h
            | some f => rw [hs] at h; cases h; intro hp; cases hp
      · rw [if_neg h2] at h
        by_cases h3 : c = 42
        · rw [if_pos h3] at h; cases h; intro hp; cases hp
        · rw [if_neg h3] at h
          by_cases h4 : c = 63
          · rw [if_pos h4] at h; cases h; intro hp; cases hp
          · rw [if_neg h4] at h; cases h; intro _; exact ⟨rfl, fun _ => rfl⟩
theorem wildF_fit : ∀ (n : Nat) (s : List UInt8) (w : List It), wildF n s = some w → ∀ x ∈ w, x.fit
  | 0, s, w, h => by
    unfold wildF at h
    split at h
    · cases h; intro x hx; cases hx
    · cases h
  | n + 1, s, w, h => by
    unfold wildF at h
    split at h
    · cases h; intro x hx; cases hx
    · cases hn : nextV s with
      | none => rw [hn] at h; cases h
      | some p =>
        rw [hn] at h
        simp only [Option.bind_some] at h
        cases hr : wildF n p.2 with
        | none => rw [hr] at h; cases h
        | some w2 =>
          rw [hr] at h
          cases h
          intro x hx
          rcases List.mem_cons.1 hx with rfl | hx
          · exact nextV_fit (t := p.2) hn
          · exact wildF_fit n p.2 w2 hr x hx
theorem wildV_fit {s : List UInt8} {w : List It} (h : wildV s = some w) : ∀ x ∈ w, x.fit := by
  unfold wildV at h
  split at h
  · cases h
  · exact wildF_fit _ _ _ h
end Go.Proofs.Ytpfiofgchkfkhaa

/- Contract of a wild part's matches. -/
set_option linter.unusedVariables false
set_option linter.unusedSimpArgs false
namespace Go.Proofs.Ytpfiofgchkfkhaa
open Go.RowKit Go.Shelf

theorem ret_b {a b : Bool} (h : a = b) : Ending.returned (.bool b) = .returned (.bool a) := by rw [h]
/-- the cells of items, as matches reads them -/
def Items (W : World) (b o : Nat) (w : List It) : Prop := ∀ i, ∀ h : i < w.length, W.cell? ⟨b, o + i * 259, none⟩ = some (.bool w[i].star) ∧ ∀ c : UInt8, W.cell? ⟨b, o + i * 259 + 1 + c.toNat, none⟩ = some (.bool (w[i].set c))
def starI : Option Nat → Int
  | none => -1
  | some st => st
def starN : Option Nat → Nat
  | none => 0
  | some st => st + 1
def measW (N M st frm i : Nat) : Nat := ((N - st) * (M + 1) + (M - frm)) * (N + 1) + (N - i)
theorem lex_lt {a a' n x x' : Nat} (h : a' < a) (hx : x' ≤ n) : a' * (n + 1) + x' < a * (n + 1) + x := by
  have := Nat.mul_le_mul_right (n + 1) (show a' + 1 ≤ a from h)
  rw [Nat.add_mul] at this
  omega

theorem starI_nat (st : Option Nat) : (starI st + 1).toNat = starN st := by
  cases st with
  | none => rfl
  | some n => show ((n : Int) + 1).toNat = n + 1; omega
theorem meas_star {N M st frm i k : Nat} (h : st ≤ i) (hi : i < N) : measW N M (i + 1) k (i + 1) < measW N M st frm i := by
  unfold measW
  exact lex_lt (lex_lt (by omega) (by omega)) (by omega)
theorem meas_byte {N M st frm i : Nat} (hi : i < N) : measW N M st frm (i + 1) < measW N M st frm i := by
  unfold measW; omega
theorem meas_again {N M st frm i : Nat} (h : frm < M) : measW N M st (frm + 1) st < measW N M st frm i := by
  unfold measW
  exact lex_lt (by omega) (by omega)

set_option maxRecDepth 20000 in
set_option maxHeartbeats 8000000 in
theorem wildMatches_any (W : World) (b o cap : Nat) (w : List It) (s : ByteArray) (hI : Items W b o w) (hw : w.length ≤ 1000) (hs : s.size ≤ 1000000) (hcap : w.length ≤ cap) :
    Calls Try.prog 127 #[.slice (some ⟨b, o, none⟩) w.length cap, .string s] W fun e w' => e = .returned (.bool (mW w s.data.toList)) ∧ ∃ n, w' = W.drewN n := by
  have HI := hide hI
  clear hI
  go_enter Try.func127, Try.ntmps127
  have hl : s.data.toList.length = s.size := (Lib.size_eq s).symm
  go_wp2
  go_step3
  go_wp2
  go_step3
  go_wp2
  go_loopw [5, 6, 7, 8] (fun v5 v6 v7 v8 wr => ∃ (i k frm : Nat) (st : Option Nat), v5 = .int .i64 (i : Int) ∧ v6 = .int .i64 (k : Int) ∧ v7 = .int .i64 (starI st) ∧ v8 = .int .i64 (frm : Int) ∧ Trail w s.data.toList i k st frm ∧ frm ≤ s.size ∧ ∃ n, wr = W.drewN n) (fun v5 _ v7 v8 _ => measW w.length s.size ((intOf v7 + 1).toNat) ((intOf v8).toNat) ((intOf v5).toNat))
  case atStart => exact ⟨0, 0, 0, none, rfl, rfl, rfl, rfl, Trail.start _ _, Nat.zero_le _, 0, rfl⟩
  case round =>
    obtain ⟨i, k, frm, st, rfl, rfl, rfl, rfl, T, hfrm, n, rfl⟩ := hrel
    have HT := hide T
    have hil := T.il
    have hkl := T.kl
    rw [hl] at hkl
    have hI' : Items (W.drewN n) b o w := fun i h => HI.out i h
    have HI2 := hide hI'
    clear T hI'
    by_cases hi : i < w.length
    · have hi' : (i : Int) < (w.length : Int) := by omega
      have hc0 := (HI2.out i hi).1
      cases hst : w[i].star with
      | true =>
        rw [hst] at hc0
        have HT2 := hide (HT.out.star hi hst)
        clear hst
        have hwr : IntKind.i64.wrap ((i : Int) + 1) = (i : Int) + 1 := IntWalk.i64_in _ (by omega)
        go_wp2
        go_roundw
        case rel => exact ⟨i + 1, k, k, some i, by go_num, rfl, rfl, rfl, HT2.out, hkl, _, rfl⟩
        case measure =>
          have hle : starN st ≤ i := by
            cases st with
            | none => exact Nat.zero_le _
            | some q => exact (HT.out.seg q rfl).1
          have := meas_star (N := w.length) (M := s.size) (frm := frm) (k := k) hle hi
          rw [← starI_nat] at this
          simpa [intOf] using this
      | false =>
        rw [hst] at hc0
        by_cases hk : k < s.size
        · have hk' : (k : Int) < (s.size : Int) := by omega
          have hkd : k < s.data.toList.length := by rw [hl]; exact hk
          have hget : s.data.toList[k]'hkd = s[k]'hk := by
            have h0 := Lib.data_getElem? s k hk
            rw [List.getElem?_eq_getElem hkd] at h0
            exact Option.some.inj h0
          obtain ⟨c, hc⟩ : ∃ c, s[k]'hk = c := ⟨_, rfl⟩
          have hcl : s.data.toList[k]'hkd = c := hget.trans hc
          have hc1 := (HI2.out i hi).2 c
          have hc256 : (c.toNat : Int) < 256 := by have := c.toNat_lt; omega
          cases hsb : w[i].set c with
          | true =>
            rw [hsb] at hc1
            have hc2 : W.cell? ⟨b, o + i * 259 + 1 + c.toNat, none⟩ = _ := hc1
            have HT2 := hide (HT.out.byte hi hst hkd (by rw [hcl]; exact hsb))
            clear hst hsb hget hcl
            have hw1 : IntKind.i64.wrap ((i : Int) + 1) = (i : Int) + 1 := IntWalk.i64_in _ (by omega)
            have hw2 : IntKind.i64.wrap ((k : Int) + 1) = (k : Int) + 1 := IntWalk.i64_in _ (by omega)
            go_wp2_with fail
            go_quiet (fail)
            go_wp2
            go_roundw
            case rel => exact ⟨i + 1, k + 1, frm, st, by go_num, by go_num, rfl, rfl, HT2.out, hfrm, _, rfl⟩
            case measure =>
              have := meas_byte (N := w.length) (M := s.size) (st := starN st) (frm := frm) hi
              rw [← starI_nat] at this
              simpa [intOf] using this
          | false =>
            rw [hsb] at hc1
            have hc2 : W.cell? ⟨b, o + i * 259 + 1 + c.toNat, none⟩ = _ := hc1
            have Hst := hide (Trail.stuck (w := w) (s := s.data.toList) (i := i) (k := k) (.inl hi) (fun _ => hst) (fun _ h2 => by rw [show s.data.toList[k]'h2 = c from hcl]; exact hsb))
            cases st with
            | none =>
              have Hno := hide (HT.out.no Hst.out (.inl rfl))
              have hneg : starI none = -1 := rfl
              rw [hneg]
              clear hst hsb hget hcl
              go_wp2_with fail
              go_quiet (fail)
              go_wp2
              rw [Exit.noGoto_ret]
              go_ret
              exact ⟨ret_b Hno.out, _, rfl⟩
            | some st0 =>
              have hpos : starI (some st0) = (st0 : Int) := rfl
              rw [hpos]
              have hn0 : ¬ (st0 : Int) < 0 := by omega
              by_cases hf : frm < s.size
              · have hf' : ¬ (s.size : Int) ≤ (frm : Int) := by omega
                have HT2 := hide (HT.out.again Hst.out (by rw [hl]; exact hf))
                have hw1 : IntKind.i64.wrap ((frm : Int) + 1) = (frm : Int) + 1 := IntWalk.i64_in _ (by omega)
                have hst0 : st0 < w.length := by have := HT2.out.il; omega
                have hw2 : IntKind.i64.wrap ((st0 : Int) + 1) = (st0 : Int) + 1 := IntWalk.i64_in _ (by omega)
                clear hst hsb hget hcl
                go_wp2_with fail
                go_quiet (fail)
                go_wp2
                go_roundw
                case rel => exact ⟨st0 + 1, frm + 1, frm + 1, some st0, by go_num, by go_num, rfl, by go_num, HT2.out, by omega, _, rfl⟩
                case measure =>
                  have := meas_again (N := w.length) (M := s.size) (st := st0 + 1) (frm := frm) (i := i) hf
                  simpa [intOf] using this
              · have hf' : (s.size : Int) ≤ (frm : Int) := by omega
                have Hno := hide (HT.out.no Hst.out (.inr (by rw [hl]; omega)))
                clear hst hsb hget hcl
                go_wp2_with fail
                go_quiet (fail)
                go_wp2
                rw [Exit.noGoto_ret]
                go_ret
                exact ⟨ret_b Hno.out, _, rfl⟩
        · have hk' : ¬ (k : Int) < (s.size : Int) := by omega
          have Hst := hide (Trail.stuck (w := w) (s := s.data.toList) (i := i) (k := k) (.inl hi) (fun _ => hst) (fun _ h2 => absurd (by rw [hl] at h2; exact h2) hk))
          cases st with
          | none =>
            have Hno := hide (HT.out.no Hst.out (.inl rfl))
            have hneg : starI none = -1 := rfl
            rw [hneg]
            clear hst
            go_wp2_with fail
            go_quiet (fail)
            go_wp2
            rw [Exit.noGoto_ret]
            go_ret
            exact ⟨ret_b Hno.out, _, rfl⟩
          | some st0 =>
            have hpos : starI (some st0) = (st0 : Int) := rfl
            rw [hpos]
            have hn0 : ¬ (st0 : Int) < 0 := by omega
            by_cases hf : frm < s.size
            · have hf' : ¬ (s.size : Int) ≤ (frm : Int) := by omega
              have HT2 := hide (HT.out.again Hst.out (by rw [hl]; exact hf))
              have hw1 : IntKind.i64.wrap ((frm : Int) + 1) = (frm : Int) + 1 := IntWalk.i64_in _ (by omega)
              have hst0 : st0 < w.length := by have := HT2.out.il; omega
              have hw2 : IntKind.i64.wrap ((st0 : Int) + 1) = (st0 : Int) + 1 := IntWalk.i64_in _ (by omega)
              clear hst
              go_wp2_with fail
              go_quiet (fail)
              go_wp2
              go_roundw
              case rel => exact ⟨st0 + 1, frm + 1, frm + 1, some st0, by go_num, by go_num, rfl, by go_num, HT2.out, by omega, _, rfl⟩
              case measure =>
                have := meas_again (N := w.length) (M := s.size) (st := st0 + 1) (frm := frm) (i := i) hf
                simpa [intOf] using this
            · have hf' : (s.size : Int) ≤ (frm : Int) := by omega
              have Hno := hide (HT.out.no Hst.out (.inr (by rw [hl]; omega)))
              clear hst
              go_wp2_with fail
              go_quiet (fail)
              go_wp2
              rw [Exit.noGoto_ret]
              go_ret
              exact ⟨ret_b Hno.out, _, rfl⟩
    · have hi' : ¬ (i : Int) < (w.length : Int) := by omega
      by_cases hk : k < s.size
      · have hk' : (k : Int) < (s.size : Int) := by omega
        have Hst := hide (Trail.stuck (w := w) (s := s.data.toList) (i := i) (k := k) (.inr (by rw [hl]; exact hk)) (fun h => absurd h hi) (fun h _ => absurd h hi))
        cases st with
        | none =>
          have Hno := hide (HT.out.no Hst.out (.inl rfl))
          have hneg : starI none = -1 := rfl
          rw [hneg]
          skip
          go_wp2_with fail
          go_quiet (fail)
          go_wp2
          rw [Exit.noGoto_ret]
          go_ret
          exact ⟨ret_b Hno.out, _, rfl⟩
        | some st0 =>
          have hpos : starI (some st0) = (st0 : Int) := rfl
          rw [hpos]
          have hn0 : ¬ (st0 : Int) < 0 := by omega
          by_cases hf : frm < s.size
          · have hf' : ¬ (s.size : Int) ≤ (frm : Int) := by omega
            have HT2 := hide (HT.out.again Hst.out (by rw [hl]; exact hf))
            have hw1 : IntKind.i64.wrap ((frm : Int) + 1) = (frm : Int) + 1 := IntWalk.i64_in _ (by omega)
            have hst0 : st0 < w.length := by have := HT2.out.il; omega
            have hw2 : IntKind.i64.wrap ((st0 : Int) + 1) = (st0 : Int) + 1 := IntWalk.i64_in _ (by omega)
            skip
            go_wp2_with fail
            go_quiet (fail)
            go_wp2
            go_roundw
            case rel => exact ⟨st0 + 1, frm + 1, frm + 1, some st0, by go_num, by go_num, rfl, by go_num, HT2.out, by omega, _, rfl⟩
            case measure =>
              have := meas_again (N := w.length) (M := s.size) (st := st0 + 1) (frm := frm) (i := i) hf
              simpa [intOf] using this
          · have hf' : (s.size : Int) ≤ (frm : Int) := by omega
            have Hno := hide (HT.out.no Hst.out (.inr (by rw [hl]; omega)))
            skip
            go_wp2_with fail
            go_quiet (fail)
            go_wp2
            rw [Exit.noGoto_ret]
            go_ret
            exact ⟨ret_b Hno.out, _, rfl⟩
      · have hk' : ¬ (k : Int) < (s.size : Int) := by omega
        obtain rfl : i = w.length := by omega
        obtain rfl : k = s.size := by omega
        have Hyes := hide (show mW w s.data.toList = true from by
          have := HT.out
          rw [← hl] at this
          exact this.yes)
        go_wp2
        go_ret
        exact ⟨ret_b Hyes.out, _, rfl⟩
end Go.Proofs.Ytpfiofgchkfkhaa

/- Contract of pattern's element. -/
set_option linter.unusedVariables false
set_option linter.unusedSimpArgs false
namespace Go.Proofs.Ytpfiofgchkfkhaa
open Go.RowKit Go.Shelf

theorem elSet_mem (c : UInt8) : decide (0 ≤ Lib.indexByte [46, 92, 91, 93] c) = (c == 46 || c == 92 || c == 91 || c == 93) := by
  by_cases h : c = 46 ∨ c = 92 ∨ c = 91 ∨ c = 93
  · rcases h with rfl | rfl | rfl | rfl <;> decide
  · have hd : (c == 46 || c == 92 || c == 91 || c == 93) = false := by
      rw [Bool.eq_false_iff]; intro h2
      simp only [Bool.or_eq_true, beq_iff_eq] at h2
      rcases h2 with ((h2 | h2) | h2) | h2
      · exact h (.inl h2)
      · exact h (.inr (.inl h2))
      · exact h (.inr (.inr (.inl h2)))
      · exact h (.inr (.inr (.inr h2)))
    rw [hd]
    refine decide_eq_false ?_
    intro h0
    have h2 := Lib.indexByte_some (l := [46, 92, 91, 93]) (c := c) (o := (Lib.indexByte [46, 92, 91, 93] c).toNat) (by omega)
    have hm : c ∈ ([46, 92, 91, 93] : List UInt8) := List.mem_of_getElem? h2.1
    simp only [List.mem_cons, List.not_mem_nil, or_false] at hm
    exact h hm
theorem element_any (c : UInt8) (w : World) :
    Calls Try.prog 102 #[.int .u8 (c.toNat : Int)] w fun e w' => e = .returned (.bool (elB c)) ∧ w' = w := by
  by_cases h1 : 33 ≤ c.toNat
  · have h1' : (33 : Int) ≤ (c.toNat : Int) := by omega
    by_cases h2 : c.toNat ≤ 126
    · have h2' : (c.toNat : Int) ≤ 126 := by omega
      have CR := hide (fun W : World => Try.strings_ContainsRune_ascii ⟨#[46, 92, 91, 93]⟩ ((c.toNat : Nat) : Int) W (by omega) (by omega))
      rw [show (((c.toNat : Nat) : Int)).toNat.toUInt8 = c by simp, show (⟨#[46, 92, 91, 93]⟩ : ByteArray).data.toList = [46, 92, 91, 93] from rfl, elSet_mem] at CR
      have HV := hide (show elB c = !(c == 46 || c == 92 || c == 91 || c == 93) by unfold elB; rw [decide_eq_true ⟨h1, h2⟩, Bool.true_and])
      have hw : IntKind.i32.wrap (c.toNat : Int) = (c.toNat : Int) := by rw [IntKind.wrap_i32]; omega
      generalize (c == 46 || c == 92 || c == 91 || c == 93) = q at *
      go_enter Try.func102, Try.ntmps102
      go_wp2_with fail
      refine (CR.out _).mono ?_
      rintro e wx ⟨rfl, rfl⟩
      go_wp2
      go_ret
      exact ⟨ret_b HV.out, rfl⟩
    · have h2' : ¬ (c.toNat : Int) ≤ 126 := by omega
      have HV := hide (show elB c = false by unfold elB; rw [decide_eq_false (fun h => h2 h.2), Bool.false_and])
      go_enter Try.func102, Try.ntmps102
      go_wp2
      go_ret
      exact ⟨ret_b HV.out, rfl⟩
  · have h1' : ¬ (33 : Int) ≤ (c.toNat : Int) := by omega
    have HV := hide (show elB c = false by unfold elB; rw [decide_eq_false (fun h => h1 h.1), Bool.false_and])
    go_enter Try.func102, Try.ntmps102
    go_wp2
    go_ret
    exact ⟨ret_b HV.out, rfl⟩
end Go.Proofs.Ytpfiofgchkfkhaa

/- Contracts of pattern's next and set (under way). -/
set_option linter.unusedVariables false
set_option linter.unusedSimpArgs false
namespace Go.Proofs.Ytpfiofgchkfkhaa
open Go.RowKit Go.Shelf

def itL (x : It) : List Value := .bool x.star :: ((List.range 256).map fun k => .bool (x.set (UInt8.ofNat k))) ++ [.bool x.plain, .int .u8 (x.self.toNat : Int)]
theorem zero_of {P : Program} {t : TypeId} {z : Value} (h : (P.info? t).map (·.zero) = some (some z)) (W : World) : (zeroValue t).run P W = .ok z W := by
  cases hq : P.info? t with
  | none => rw [hq] at h; cases h
  | some i =>
    rw [hq] at h
    have hz : i.zero = some z := by simpa using h
    simp [zeroValue, typeInfo, hq, hz]
theorem zero_it (W : World) : (zeroValue 119).run Try.prog W = .ok (.agg (itL noIt).toArray) W :=
  zero_of (by kernel_rfl) W
theorem Below.setCells_ge (B b : Nat) (hb : B ≤ b) : ∀ (cs : List Value) (o : Nat) (w : World), Below B w (w.setCells b o cs)
  | [], o, w => Below.refl _ _
  | v :: r, o, w => by
    rw [World.setCells]
    exact ((Below.refl B w).setCell (p := ⟨b, o, none⟩) hb v).trans (Below.setCells_ge B b hb r (o + 1) _)
theorem results_mid2 {P : Program} {fn : Func} {p u v : Tmp} {ty : TypeId} (h : fn.results = #[.cell p ty, .tmp u, .tmp v]) (tmps : Array Value) (w : World) (g : Nat) (cs : List Value) (d : TypeDesc)
    (a b : Value) (ha : tmps.getD u undef = a) (hb : tmps.getD v undef = b) (hp : tmps.getD p undef = .pointer (some ⟨g, 0, none⟩)) (hc : w.rangeAt g 0 cs)
    (hu : P.underlying ty = some d) (hd : d.isRow = true) (hi : (P.info? ty).map (·.size) = some cs.length) :
    (results fn tmps).run P w = .ok (.tuple #[.agg cs.toArray, a, b]) w := by
  subst ha
  subst hb
  have hl := run_loadVar_mid w g 0 ty cs d hc hu hd hi
  have hp' : tmps[p]?.getD undef = .pointer (some ⟨g, 0, none⟩) := by simpa using hp
  have e : (results fn tmps).run P w = ((asAddr (tmps.getD p undef)).run P w).andThen fun a w₁ => ((loadVar ty a).run P w₁).andThen fun v2 w₂ => .ok (.tuple #[v2, tmps.getD u undef, tmps.getD v undef]) w₂ := by
    simp only [results, h]
    simp [Sem.run_bind, Result.andThen]
  rw [e]
  simp [hp', asAddr, Result.andThen, hl]
set_option maxRecDepth 100000 in
set_option maxHeartbeats 8000000 in
theorem next_low (c : UInt8) (s : ByteArray) (w : World) (h : 0 < s.size) (hc : s[0]'h = c) (h1 : c.toNat < 33) :
    Calls Try.prog 87 #[.string s] w fun e w' => e = .returned (.tuple #[.agg (itL noIt).toArray, .string ⟨#[]⟩, .bool false]) ∧ Below w.heap.size w w' := by
  have h0 : (0 : Int) < (s.size : Int) := by omega
  have h1' : (c.toNat : Int) < 33 := by omega
  have hz := zero_it
  have hlen : (itL noIt).length = 259 := by simp [itL]
  have hone : (itL noIt).toArray.all (·.oneCell') = true := by kernel_rfl
  obtain ⟨Z, hZ⟩ : ∃ Z, itL noIt = Z := ⟨_, rfl⟩
  rw [hZ] at hz hlen hone ⊢
  clear hZ
  go_enter Try.func87, Try.ntmps87
  go_upto_region 5 with fail
  obtain ⟨W2, hW2⟩ : ∃ W2, (w.alloc (.cells Z.toArray 119)).alloc (.cells Z.toArray 119) = W2 := ⟨_, rfl⟩
  have hB : Below w.heap.size w W2 := by
    rw [← hW2]
    exact ((Below.refl _ _).alloc (Nat.le_refl _) _).alloc (by rw [World.size_alloc]; omega) _
  have r0 : Row W2 w.heap.size 119 Z.toArray := by rw [← hW2]; exact (Row.new _ _ _).alloc _
  have r1 : Row W2 (w.heap.size + 1) 119 Z.toArray := by
    rw [← hW2]
    have := Row.new (w.alloc (.cells Z.toArray 119)) 119 Z.toArray
    rwa [World.size_alloc] at this
  have g1 : W2.rangeAt (w.heap.size + 1) 0 Z := fun j v hv => by rw [Nat.zero_add, r1.cell j]; simpa using hv
  have t0 : W2.there w.heap.size 0 Z.length := fun j hj => by
    rw [Nat.zero_add]
    refine ⟨?_, r0.frozen j⟩
    rw [r0.cell j]
    simp [hj]
  have hi : (Try.prog.info? 119).map (·.size) = some Z.length := by rw [hlen]; kernel_rfl
  have hr := World.rangeAt_setCells_same W2 w.heap.size 0 Z t0
  have HB := hide (show Below w.heap.size w (W2.setCells w.heap.size 0 Z) from hB.trans (Below.setCells_ge w.heap.size w.heap.size (Nat.le_refl _) Z 0 W2))
  have HR := hide hr
  have HI := hide hi
  have HI2 := hide (show (Try.prog.info? 119).map (·.size) = some Z.toArray.size by simpa using hi)
  have G1 := hide g1
  have T0 := hide (show W2.there w.heap.size 0 Z.toArray.size by simpa using t0)
  have HO := hide hone
  rw [hW2]
  clear hW2 hB hr hi r0 r1 g1 t0 hz hone hlen
  go_wp2_with (first | (refine wpList_load_mid rfl 119 (.tmp 5) rfl (w.heap.size + 1) 0 rfl Z _ G1.out Try.underlying119 rfl HI.out ?_) | (refine wpList_store_mid rfl 119 (.tmp 2) (.tmp 35) rfl w.heap.size 0 Z.toArray rfl rfl T0.out HI2.out HO.out ?_))
  exact bodyPost_ret (v := .tuple #[.agg Z.toArray, .string ⟨#[]⟩, .bool false]) (results_mid2 rfl _ _ w.heap.size Z _ _ _ rfl rfl rfl HR.out Try.underlying119 rfl HI.out) rfl ⟨rfl, HB.out⟩
set_option maxRecDepth 100000 in
set_option maxHeartbeats 8000000 in
theorem next_high (c : UInt8) (s : ByteArray) (w : World) (h : 0 < s.size) (hc : s[0]'h = c) (h1 : 126 < c.toNat) :
    Calls Try.prog 87 #[.string s] w fun e w' => e = .returned (.tuple #[.agg (itL noIt).toArray, .string ⟨#[]⟩, .bool false]) ∧ Below w.heap.size w w' := by
  have h0 : (0 : Int) < (s.size : Int) := by omega
  have h1' : ¬ (c.toNat : Int) < 33 := by omega
  have h2' : (126 : Int) < (c.toNat : Int) := by omega
  have hz := zero_it
  have hlen : (itL noIt).length = 259 := by simp [itL]
  have hone : (itL noIt).toArray.all (·.oneCell') = true := by kernel_rfl
  obtain ⟨Z, hZ⟩ : ∃ Z, itL noIt = Z := ⟨_, rfl⟩
  rw [hZ] at hz hlen hone ⊢
  clear hZ
  go_enter Try.func87, Try.ntmps87
  go_upto_region 5 with fail
  obtain ⟨W2, hW2⟩ : ∃ W2, (w.alloc (.cells Z.toArray 119)).alloc (.cells Z.toArray 119) = W2 := ⟨_, rfl⟩
  have hB : Below w.heap.size w W2 := by
    rw [← hW2]
    exact ((Below.refl _ _).alloc (Nat.le_refl _) _).alloc (by rw [World.size_alloc]; omega) _
  have r0 : Row W2 w.heap.size 119 Z.toArray := by rw [← hW2]; exact (Row.new _ _ _).alloc _
  have r1 : Row W2 (w.heap.size + 1) 119 Z.toArray := by
    rw [← hW2]
    have := Row.new (w.alloc (.cells Z.toArray 119)) 119 Z.toArray
    rwa [World.size_alloc] at this
  have g1 : W2.rangeAt (w.heap.size + 1) 0 Z := fun j v hv => by rw [Nat.zero_add, r1.cell j]; simpa using hv
  have t0 : W2.there w.heap.size 0 Z.length := fun j hj => by
    rw [Nat.zero_add]
    refine ⟨?_, r0.frozen j⟩
    rw [r0.cell j]
    simp [hj]
  have hi : (Try.prog.info? 119).map (·.size) = some Z.length := by rw [hlen]; kernel_rfl
  have hr := World.rangeAt_setCells_same W2 w.heap.size 0 Z t0
  have HB := hide (show Below w.heap.size w (W2.setCells w.heap.size 0 Z) from hB.trans (Below.setCells_ge w.heap.size w.heap.size (Nat.le_refl _) Z 0 W2))
  have HR := hide hr
  have HI := hide hi
  have HI2 := hide (show (Try.prog.info? 119).map (·.size) = some Z.toArray.size by simpa using hi)
  have G1 := hide g1
  have T0 := hide (show W2.there w.heap.size 0 Z.toArray.size by simpa using t0)
  have HO := hide hone
  rw [hW2]
  clear hW2 hB hr hi r0 r1 g1 t0 hz hone hlen
  go_wp2_with (first | (refine wpList_load_mid rfl 119 (.tmp 5) rfl (w.heap.size + 1) 0 rfl Z _ G1.out Try.underlying119 rfl HI.out ?_) | (refine wpList_store_mid rfl 119 (.tmp 2) (.tmp 35) rfl w.heap.size 0 Z.toArray rfl rfl T0.out HI2.out HO.out ?_))
  exact bodyPost_ret (v := .tuple #[.agg Z.toArray, .string ⟨#[]⟩, .bool false]) (results_mid2 rfl _ _ w.heap.size Z _ _ _ rfl rfl rfl HR.out Try.underlying119 rfl HI.out) rfl ⟨rfl, HB.out⟩
set_option maxRecDepth 100000 in
set_option maxHeartbeats 8000000 in
theorem next_46 (c : UInt8) (s : ByteArray) (w : World) (h : 0 < s.size) (hc : s[0]'h = c) (h1 : c = 46) :
    Calls Try.prog 87 #[.string s] w fun e w' => e = .returned (.tuple #[.agg (itL noIt).toArray, .string ⟨#[]⟩, .bool false]) ∧ Below w.heap.size w w' := by
  have h0 : (0 : Int) < (s.size : Int) := by omega
  subst h1
  have hz := zero_it
  have hlen : (itL noIt).length = 259 := by simp [itL]
  have hone : (itL noIt).toArray.all (·.oneCell') = true := by kernel_rfl
  obtain ⟨Z, hZ⟩ : ∃ Z, itL noIt = Z := ⟨_, rfl⟩
  rw [hZ] at hz hlen hone ⊢
  clear hZ
  go_enter Try.func87, Try.ntmps87
  go_upto_region 5 with fail
  obtain ⟨W2, hW2⟩ : ∃ W2, (w.alloc (.cells Z.toArray 119)).alloc (.cells Z.toArray 119) = W2 := ⟨_, rfl⟩
  have hB : Below w.heap.size w W2 := by
    rw [← hW2]
    exact ((Below.refl _ _).alloc (Nat.le_refl _) _).alloc (by rw [World.size_alloc]; omega) _
  have r0 : Row W2 w.heap.size 119 Z.toArray := by rw [← hW2]; exact (Row.new _ _ _).alloc _
  have r1 : Row W2 (w.heap.size + 1) 119 Z.toArray := by
    rw [← hW2]
    have := Row.new (w.alloc (.cells Z.toArray 119)) 119 Z.toArray
    rwa [World.size_alloc] at this
  have g1 : W2.rangeAt (w.heap.size + 1) 0 Z := fun j v hv => by rw [Nat.zero_add, r1.cell j]; simpa using hv
  have t0 : W2.there w.heap.size 0 Z.length := fun j hj => by
    rw [Nat.zero_add]
    refine ⟨?_, r0.frozen j⟩
    rw [r0.cell j]
    simp [hj]
  have hi : (Try.prog.info? 119).map (·.size) = some Z.length := by rw [hlen]; kernel_rfl
  have hr := World.rangeAt_setCells_same W2 w.heap.size 0 Z t0
  have HB := hide (show Below w.heap.size w (W2.setCells w.heap.size 0 Z) from hB.trans (Below.setCells_ge w.heap.size w.heap.size (Nat.le_refl _) Z 0 W2))
  have HR := hide hr
  have HI := hide hi
  have HI2 := hide (show (Try.prog.info? 119).map (·.size) = some Z.toArray.size by simpa using hi)
  have G1 := hide g1
  have T0 := hide (show W2.there w.heap.size 0 Z.toArray.size by simpa using t0)
  have HO := hide hone
  rw [hW2]
  clear hW2 hB hr hi r0 r1 g1 t0 hz hone hlen
  go_wp2_with (first | (refine wpList_load_mid rfl 119 (.tmp 5) rfl (w.heap.size + 1) 0 rfl Z _ G1.out Try.underlying119 rfl HI.out ?_) | (refine wpList_store_mid rfl 119 (.tmp 2) (.tmp 35) rfl w.heap.size 0 Z.toArray rfl rfl T0.out HI2.out HO.out ?_))
  exact bodyPost_ret (v := .tuple #[.agg Z.toArray, .string ⟨#[]⟩, .bool false]) (results_mid2 rfl _ _ w.heap.size Z _ _ _ rfl rfl rfl HR.out Try.underlying119 rfl HI.out) rfl ⟨rfl, HB.out⟩
set_option maxRecDepth 100000 in
set_option maxHeartbeats 8000000 in
theorem next_92 (c : UInt8) (s : ByteArray) (w : World) (h : 0 < s.size) (hc : s[0]'h = c) (h1 : c = 92) :
    Calls Try.prog 87 #[.string s] w fun e w' => e = .returned (.tuple #[.agg (itL noIt).toArray, .string ⟨#[]⟩, .bool false]) ∧ Below w.heap.size w w' := by
  have h0 : (0 : Int) < (s.size : Int) := by omega
  subst h1
  have hz := zero_it
  have hlen : (itL noIt).length = 259 := by simp [itL]
  have hone : (itL noIt).toArray.all (·.oneCell') = true := by kernel_rfl
  obtain ⟨Z, hZ⟩ : ∃ Z, itL noIt = Z := ⟨_, rfl⟩
  rw [hZ] at hz hlen hone ⊢
  clear hZ
  go_enter Try.func87, Try.ntmps87
  go_upto_region 5 with fail
  obtain ⟨W2, hW2⟩ : ∃ W2, (w.alloc (.cells Z.toArray 119)).alloc (.cells Z.toArray 119) = W2 := ⟨_, rfl⟩
  have hB : Below w.heap.size w W2 := by
    rw [← hW2]
    exact ((Below.refl _ _).alloc (Nat.le_refl _) _).alloc (by rw [World.size_alloc]; omega) _
  have r0 : Row W2 w.heap.size 119 Z.toArray := by rw [← hW2]; exact (Row.new _ _ _).alloc _
  have r1 : Row W2 (w.heap.size + 1) 119 Z.toArray := by
    rw [← hW2]
    have := Row.new (w.alloc (.cells Z.toArray 119)) 119 Z.toArray
    rwa [World.size_alloc] at this
  have g1 : W2.rangeAt (w.heap.size + 1) 0 Z := fun j v hv => by rw [Nat.zero_add, r1.cell j]; simpa using hv
  have t0 : W2.there w.heap.size 0 Z.length := fun j hj => by
    rw [Nat.zero_add]
    refine ⟨?_, r0.frozen j⟩
    rw [r0.cell j]
    simp [hj]
  have hi : (Try.prog.info? 119).map (·.size) = some Z.length := by rw [hlen]; kernel_rfl
  have hr := World.rangeAt_setCells_same W2 w.heap.size 0 Z t0
  have HB := hide (show Below w.heap.size w (W2.setCells w.heap.size 0 Z) from hB.trans (Below.setCells_ge w.heap.size w.heap.size (Nat.le_refl _) Z 0 W2))
  have HR := hide hr
  have HI := hide hi
  have HI2 := hide (show (Try.prog.info? 119).map (·.size) = some Z.toArray.size by simpa using hi)
  have G1 := hide g1
  have T0 := hide (show W2.there w.heap.size 0 Z.toArray.size by simpa using t0)
  have HO := hide hone
  rw [hW2]
  clear hW2 hB hr hi r0 r1 g1 t0 hz hone hlen
  go_wp2_with (first | (refine wpList_load_mid rfl 119 (.tmp 5) rfl (w.heap.size + 1) 0 rfl Z _ G1.out Try.underlying119 rfl HI.out ?_) | (refine wpList_store_mid rfl 119 (.tmp 2) (.tmp 35) rfl w.heap.size 0 Z.toArray rfl rfl T0.out HI2.out HO.out ?_))
  exact bodyPost_ret (v := .tuple #[.agg Z.toArray, .string ⟨#[]⟩, .bool false]) (results_mid2 rfl _ _ w.heap.size Z _ _ _ rfl rfl rfl HR.out Try.underlying119 rfl HI.out) rfl ⟨rfl, HB.out⟩
set_option maxRecDepth 100000 in
set_option maxHeartbeats 8000000 in
theorem next_93 (c : UInt8) (s : ByteArray) (w : World) (h : 0 < s.size) (hc : s[0]'h = c) (h1 : c = 93) :
    Calls Try.prog 87 #[.string s] w fun e w' => e = .returned (.tuple #[.agg (itL noIt).toArray, .string ⟨#[]⟩, .bool false]) ∧ Below w.heap.size w w' := by
  have h0 : (0 : Int) < (s.size : Int) := by omega
  subst h1
  have hz := zero_it
  have hlen : (itL noIt).length = 259 := by simp [itL]
  have hone : (itL noIt).toArray.all (·.oneCell') = true := by kernel_rfl
  obtain ⟨Z, hZ⟩ : ∃ Z, itL noIt = Z := ⟨_, rfl⟩
  rw [hZ] at hz hlen hone ⊢
  clear hZ
  go_enter Try.func87, Try.ntmps87
  go_upto_region 5 with fail
  obtain ⟨W2, hW2⟩ : ∃ W2, (w.alloc (.cells Z.toArray 119)).alloc (.cells Z.toArray 119) = W2 := ⟨_, rfl⟩
  have hB : Below w.heap.size w W2 := by
    rw [← hW2]
    exact ((Below.refl _ _).alloc (Nat.le_refl _) _).alloc (by rw [World.size_alloc]; omega) _
  have r0 : Row W2 w.heap.size 119 Z.toArray := by rw [← hW2]; exact (Row.new _ _ _).alloc _
  have r1 : Row W2 (w.heap.size + 1) 119 Z.toArray := by
    rw [← hW2]
    have := Row.new (w.alloc (.cells Z.toArray 119)) 119 Z.toArray
    rwa [World.size_alloc] at this
  have g1 : W2.rangeAt (w.heap.size + 1) 0 Z := fun j v hv => by rw [Nat.zero_add, r1.cell j]; simpa using hv
  have t0 : W2.there w.heap.size 0 Z.length := fun j hj => by
    rw [Nat.zero_add]
    refine ⟨?_, r0.frozen j⟩
    rw [r0.cell j]
    simp [hj]
  have hi : (Try.prog.info? 119).map (·.size) = some Z.length := by rw [hlen]; kernel_rfl
  have hr := World.rangeAt_setCells_same W2 w.heap.size 0 Z t0
  have HB := hide (show Below w.heap.size w (W2.setCells w.heap.size 0 Z) from hB.trans (Below.setCells_ge w.heap.size w.heap.size (Nat.le_refl _) Z 0 W2))
  have HR := hide hr
  have HI := hide hi
  have HI2 := hide (show (Try.prog.info? 119).map (·.size) = some Z.toArray.size by simpa using hi)
  have G1 := hide g1
  have T0 := hide (show W2.there w.heap.size 0 Z.toArray.size by simpa using t0)
  have HO := hide hone
  rw [hW2]
  clear hW2 hB hr hi r0 r1 g1 t0 hz hone hlen
  go_wp2_with (first | (refine wpList_load_mid rfl 119 (.tmp 5) rfl (w.heap.size + 1) 0 rfl Z _ G1.out Try.underlying119 rfl HI.out ?_) | (refine wpList_store_mid rfl 119 (.tmp 2) (.tmp 35) rfl w.heap.size 0 Z.toArray rfl rfl T0.out HI2.out HO.out ?_))
  exact bodyPost_ret (v := .tuple #[.agg Z.toArray, .string ⟨#[]⟩, .bool false]) (results_mid2 rfl _ _ w.heap.size Z _ _ _ rfl rfl rfl HR.out Try.underlying119 rfl HI.out) rfl ⟨rfl, HB.out⟩
theorem next_bad (c : UInt8) (s : ByteArray) (w : World) (h : 0 < s.size) (hc : s[0]'h = c) (hb : c.toNat < 33 ∨ 126 < c.toNat ∨ c = 46 ∨ c = 92 ∨ c = 93) :
    Calls Try.prog 87 #[.string s] w fun e w' => e = .returned (.tuple #[.agg (itL noIt).toArray, .string ⟨#[]⟩, .bool false]) ∧ Below w.heap.size w w' := by
  rcases hb with hb | hb | hb | hb | hb
  · exact next_low c s w h hc hb
  · exact next_high c s w h hc hb
  · exact next_46 c s w h hc hb
  · exact next_92 c s w h hc hb
  · exact next_93 c s w h hc hb
end Go.Proofs.Ytpfiofgchkfkhaa

/- The cells of an item, one by one. -/
set_option linter.unusedVariables false
set_option linter.unusedSimpArgs false
namespace Go.Proofs.Ytpfiofgchkfkhaa
open Go.RowKit Go.Shelf

theorem itL_len (x : It) : (itL x).length = 259 := by simp [itL]
theorem itL_get (x : It) (j : Nat) : (itL x)[j]? = if j = 0 then some (.bool x.star) else if j < 257 then some (.bool (x.set (UInt8.ofNat (j - 1)))) else if j = 257 then some (.bool x.plain) else if j = 258 then some (.int .u8 (x.self.toNat : Int)) else none := by
  cases j with
  | zero => rfl
  | succ k =>
    rw [if_neg (by omega)]
    show (((List.range 256).map fun k => Value.bool (x.set (UInt8.ofNat k))) ++ [.bool x.plain, .int .u8 (x.self.toNat : Int)])[k]? = _
    rw [List.getElem?_append]
    have hl : ((List.range 256).map fun k => Value.bool (x.set (UInt8.ofNat k))).length = 256 := by simp
    rw [hl]
    by_cases h : k < 256
    · rw [if_pos h, if_pos (by omega), List.getElem?_map, List.getElem?_range h]; rfl
    · rw [if_neg h, if_neg (by omega)]
      by_cases h1 : k = 256
      · subst h1; rfl
      · by_cases h2 : k = 257
        · subst h2; rfl
        · rw [if_neg (by omega), if_neg (by omega), List.getElem?_eq_none (by simp; omega)]
def byteIt (c : UInt8) : It := ⟨false, fun x => x == c, true, c⟩
theorem itL_byte (c : UInt8) : (((itL noIt).set (1 + c.toNat) (.bool true)).set 257 (.bool true)).set 258 (.int .u8 (c.toNat : Int)) = itL (byteIt c) := by
  have hc := c.toNat_lt
  apply List.ext_getElem?
  intro j
  rw [List.getElem?_set, List.getElem?_set, List.getElem?_set, itL_get, itL_get]
  simp only [List.length_set, itL_len]
  by_cases h0 : 258 = j
  · subst h0; rfl
  · rw [if_neg h0]
    by_cases h1 : 257 = j
    · subst h1; rfl
    · rw [if_neg h1]
      by_cases h2 : 1 + c.toNat = j
      · subst h2
        rw [if_pos rfl, if_pos (by omega), if_neg (by omega), if_pos (by omega)]
        show _ = some (Value.bool (UInt8.ofNat (1 + c.toNat - 1) == c))
        rw [show 1 + c.toNat - 1 = c.toNat by omega, UInt8.ofNat_toNat, beq_self_eq_true]
      · rw [if_neg h2]
        by_cases h3 : j = 0
        · rw [if_pos h3, if_pos h3]; rfl
        · rw [if_neg h3, if_neg h3]
          by_cases h4 : j < 257
          · rw [if_pos h4, if_pos h4]
            show some (Value.bool false) = some (Value.bool (UInt8.ofNat (j - 1) == c))
            have : (UInt8.ofNat (j - 1) == c) = false := by
              rw [beq_eq_false_iff_ne]
              intro e
              have := congrArg UInt8.toNat e
              rw [UInt8.toNat_ofNat', Nat.mod_eq_of_lt (by omega)] at this
              omega
            rw [this]
          · rw [if_neg h4, if_neg h4, if_neg (by omega), if_neg (by omega), if_neg (by omega), if_neg (by omega)]
/-- how matches reads an item -/
theorem items_of (W : World) (b o : Nat) (w : List It) (h : ∀ i, ∀ hi : i < w.length, ∀ j v, (itL w[i])[j]? = some v → W.cell? ⟨b, o + i * 259 + j, none⟩ = some v) : Items W b o w := fun i hi =>
  ⟨h i hi 0 _ rfl, fun c => by
    have hc := c.toNat_lt
    have := h i hi (1 + c.toNat) (.bool (w[i].set c)) (by
      rw [itL_get, if_neg (by omega), if_pos (by omega), show 1 + c.toNat - 1 = c.toNat by omega, UInt8.ofNat_toNat])
    rwa [← Nat.add_assoc] at this⟩
end Go.Proofs.Ytpfiofgchkfkhaa

/- Plain: the digits at the beginning of a text. -/
set_option linter.unusedVariables false
namespace Go.Proofs.Ytpfiofgchkfkhaa
open Go

def isD (b : UInt8) : Bool := decide (48 ≤ b.toNat ∧ b.toNat ≤ 57)
/-- how many digits a text begins with -/
def nd (l : List UInt8) : Nat := (l.takeWhile isD).length
theorem nd_le (l : List UInt8) : nd l ≤ l.length := by
  unfold nd
  induction l with
  | nil => exact Nat.le_refl _
  | cons a t ih => rw [List.takeWhile_cons]; split <;> simp <;> omega
theorem nd_in (l : List UInt8) : ∀ (j : Nat) (h : j < l.length), j < nd l → isD l[j] = true := by
  unfold nd
  induction l with
  | nil => intro j h; simp at h
  | cons a t ih =>
    intro j h hj
    rw [List.takeWhile_cons] at hj
    cases ha : isD a with
    | false => rw [ha] at hj; simp at hj
    | true =>
      rw [ha] at hj
      rcases j with _ | j
      · exact ha
      · exact ih j (by simpa using h) (by simpa using hj)
theorem nd_end (l : List UInt8) (h : nd l < l.length) : isD l[nd l] = false := by
  unfold nd at h ⊢
  induction l with
  | nil => simp at h
  | cons a t ih =>
    cases ha : isD a with
    | false => simp [ha]
    | true =>
      have h' : (t.takeWhile isD).length < t.length := by simpa [List.takeWhile_cons, ha] using h
      simpa [ha] using ih h'
/-- the number that digits spell -/
def dv (l : List UInt8) : Nat := l.foldl (fun a b => 10 * a + (b.toNat - 48)) 0
theorem dv_snoc (l : List UInt8) (b : UInt8) : dv (l ++ [b]) = 10 * dv l + (b.toNat - 48) := by
  unfold dv; rw [List.foldl_append]; rfl
theorem take_snocL (l : List UInt8) (k : Nat) (h : k < l.length) : l.take (k + 1) = l.take k ++ [l[k]] := by
  rw [List.take_succ_eq_append_getElem h]
theorem dv_take (l : List UInt8) (k : Nat) (h : k < l.length) : dv (l.take (k + 1)) = 10 * dv (l.take k) + (l[k].toNat - 48) := by
  rw [take_snocL l k h, dv_snoc]
theorem dv_lt (l : List UInt8) (k : Nat) : (∀ j (h : j < l.length), j < k → isD l[j] = true) → k ≤ l.length → dv (l.take k) < 10 ^ k := by
  induction k with
  | zero => intro _ _; show 0 < _; decide
  | succ k ih =>
    intro hd hk
    have h1 := ih (fun j h hj => hd j h (by omega)) (by omega)
    have h2 := hd k (by omega) (by omega)
    rw [dv_take l k (by omega), Nat.pow_succ]
    simp only [isD, decide_eq_true_eq] at h2
    omega
theorem digit_of {b : UInt8} (h : isD b = true) : Lib.digitVal b = some (b.toNat - 48) := by
  simp only [isD, decide_eq_true_eq] at h
  unfold Lib.digitVal
  rw [if_pos (by first | exact h | simpa using h)]
theorem decFrom_dv (l : List UInt8) (k : Nat) : (∀ j (h : j < l.length), j < k → isD l[j] = true) → k ≤ l.length → Lib.decFrom 0 (l.take k) = some (dv (l.take k)) := by
  induction k with
  | zero => intro _ _; rfl
  | succ k ih =>
    intro hd hk
    have h1 := ih (fun j h hj => hd j h (by omega)) (by omega)
    have h2 := hd k (by omega) (by omega)
    rw [Lib.decFrom_take l k 0 _ l[k] _ h1 (List.getElem?_eq_getElem (by omega)) (digit_of h2), dv_take l k (by omega), Nat.mul_comm]
theorem atoi_dv (l : List UInt8) (k : Nat) (hd : ∀ j (h : j < l.length), j < k → isD l[j] = true) (hk : k ≤ l.length) (h1 : 1 ≤ k) : Lib.atoi (l.take k) = some ((dv (l.take k) : Nat) : Int) := by
  have hf := decFrom_dv l k hd hk
  rcases l with _ | ⟨b, t⟩
  · simp at hk; omega
  · obtain ⟨k', rfl⟩ : ∃ k', k = k' + 1 := ⟨k - 1, by omega⟩
    have hb := hd 0 (by simp) (by omega)
    simp only [isD, decide_eq_true_eq, List.getElem_cons_zero] at hb
    rw [List.take_succ_cons] at hf ⊢
    have n1 : (b == 45) = false := beq_eq_false_iff_ne.2 (fun e => by subst e; simp at hb)
    have n2 : (b == 43) = false := beq_eq_false_iff_ne.2 (fun e => by subst e; simp at hb)
    unfold Lib.atoi
    simp only [n1, n2, Bool.false_eq_true, if_false]
    unfold Lib.decNat
    first | (rw [hf]; rfl) | (simp [hf])
/-- digits spell themselves, if there is no zero ahead -/
theorem dec_self' (n : Nat) : ∀ (l : List UInt8) (hn : l.length = n) (hd : ∀ j (h : j < l.length), isD l[j] = true) (h1 : 1 ≤ l.length) (hz : ∀ h : 0 < l.length, l[0] ≠ 48 ∨ l.length = 1), Lib.decDigits (dv l) = l := by
  induction n with
  | zero => intro l hn _ h; omega
  | succ n ih =>
    intro l hn hd h1 hz
    obtain ⟨t, b, rfl⟩ : ∃ t b, l = t ++ [b] := ⟨l.dropLast, l.getLast (by intro e; subst e; simp at hn), (List.dropLast_concat_getLast _).symm⟩
    have hb := hd t.length (by simp)
    simp only [List.getElem_append_right (Nat.le_refl _), Nat.sub_self, List.getElem_cons_zero, isD, decide_eq_true_eq] at hb
    have hu : UInt8.ofNat (48 + (b.toNat - 48)) = b := by
      apply UInt8.toNat_inj.1
      rw [UInt8.toNat_ofNat', Nat.mod_eq_of_lt (by omega)]; omega
    rw [dv_snoc]
    have hl : t.length = n := by simpa using hn
    rcases Nat.eq_zero_or_pos n with h0 | h0
    · obtain rfl : t = [] := List.eq_nil_of_length_eq_zero (by omega)
      show Lib.decDigits (10 * 0 + _) = _
      rw [Lib.decDigits, dif_pos (by omega), show 48 + (10 * 0 + (b.toNat - 48)) = 48 + (b.toNat - 48) by omega, hu]; rfl
    · have hz0 := hz (by omega)
      have ht : ∀ j (h : j < t.length), isD t[j] = true := fun j h => by
        have := hd j (by simp; omega)
        rwa [List.getElem_append_left h] at this
      have hne : t[0]'(by omega) ≠ 48 := by
        have := hz (by simp)
        rw [List.getElem_append_left (by omega)] at this
        rcases this with h | h
        · exact h
        · simp only [List.length_append, List.length_cons, List.length_nil] at h; omega
      have hi := ih t hl ht (by omega) (fun h => .inl hne)
      have hpos : 1 ≤ dv t := by
        rcases Nat.eq_zero_or_pos (dv t) with h | h
        · exfalso
          rw [h, Lib.decDigits, dif_pos (by decide)] at hi
          have : t[0]'(by omega) = 48 := by
            have e : t = [48] := hi.symm
            simp [e]
          exact hne this
        · exact h
      rw [Lib.decDigits, dif_neg (by omega), show (10 * dv t + (b.toNat - 48)) / 10 = dv t by omega, show (10 * dv t + (b.toNat - 48)) % 10 = b.toNat - 48 by omega, hi, hu]
theorem dec_head (n : Nat) : 1 ≤ n → ∀ h : 0 < (Lib.decDigits n).length, (Lib.decDigits n)[0] ≠ 48 := by
  induction n using Nat.strongRecOn with
  | _ n ih =>
  intro h1 h
  by_cases hs : n < 10
  · have e : Lib.decDigits n = [UInt8.ofNat (48 + n)] := by rw [Lib.decDigits, dif_pos hs]
    simp only [e, List.getElem_cons_zero]
    intro hh
    have := congrArg UInt8.toNat hh
    rw [UInt8.toNat_ofNat', Nat.mod_eq_of_lt (by omega)] at this
    have h48 : (48 : UInt8).toNat = 48 := rfl
    omega
  · have e : Lib.decDigits n = Lib.decDigits (n / 10) ++ [UInt8.ofNat (48 + n % 10)] := by rw [Lib.decDigits, dif_neg hs]
    have hp : 0 < (Lib.decDigits (n / 10)).length := by rw [Lib.decDigits]; split <;> simp
    simp only [e]
    rw [List.getElem_append_left hp]
    exact ih (n / 10) (by omega) (by omega) hp
/-- the test of the reference is that of the program -/
theorem dec_iff (l : List UInt8) (hd : ∀ j (h : j < l.length), isD l[j] = true) (h1 : 1 ≤ l.length) : l = Lib.decDigits (dv l) ↔ ¬ (l[0]'(by omega) = 48 ∧ 1 < l.length) := by
  constructor
  · rintro he ⟨h0, hl⟩
    rcases Nat.eq_zero_or_pos (dv l) with h | h
    · rw [h, Lib.decDigits, dif_pos (by omega)] at he
      rw [he] at hl; simp at hl
    · have := dec_head (dv l) h (by rw [← he]; omega)
      exact this (by simp only [← he]; exact h0)
  · intro hno
    exact (dec_self' l.length l rfl hd h1 (fun h => by
      by_cases hz : l[0] = 48
      · exact .inr (by have : ¬ 1 < l.length := fun hl => hno ⟨hz, hl⟩
                       omega)
      · exact .inl hz)).symm
end Go.Proofs.Ytpfiofgchkfkhaa

/- Plain: names, numbers, bit ranges, over lists of bytes. -/
set_option linter.unusedVariables false
namespace Go.Proofs.Ytpfiofgchkfkhaa
open Go

def prB (c : UInt8) : Bool := decide (33 ≤ c.toNat ∧ c.toNat ≤ 126)
def allPr (l : List UInt8) : Bool := l.all prB
/-- bytes that no plain name has -/
def okC (c : UInt8) : Bool := !(c == 92 || c == 46 || c == 91 || c == 93)
/-- a name, by its bytes -/
def vN (l : List UInt8) : Bool := decide (1 ≤ l.length ∧ l.length ≤ 32) && (allPr l && (if l.head? = some 92 then decide (2 ≤ l.length) else decide (l.head? ≠ some 36) && l.all okC))
/-- an escaped name -/
def escN (l : List UInt8) : Bool := decide (2 ≤ l.length) && (decide (l.head? = some 92) && vN l)
theorem vN_esc {l : List UInt8} (h : l.head? = some 92) : vN l = (decide (2 ≤ l.length ∧ l.length ≤ 32) && allPr l) := by
  unfold vN
  rw [if_pos h]
  by_cases h2 : 2 ≤ l.length <;> by_cases h3 : l.length ≤ 32 <;> cases allPr l <;> simp [h2, h3]
  omega
theorem vN_plain {l : List UInt8} (h : l.head? ≠ some 92) : vN l = (decide (1 ≤ l.length ∧ l.length ≤ 32) && (allPr l && (decide (l.head? ≠ some 36) && l.all okC))) := by
  unfold vN; rw [if_neg h]
theorem vN_len {l : List UInt8} (h : vN l = true) : 1 ≤ l.length ∧ l.length ≤ 32 := by
  unfold vN at h
  rw [Bool.and_eq_true] at h
  exact of_decide_eq_true h.1
theorem vN_pr {l : List UInt8} (h : vN l = true) : allPr l = true := by
  unfold vN at h
  rw [Bool.and_eq_true, Bool.and_eq_true] at h
  exact h.2.1
theorem escN_iff {l : List UInt8} : escN l = true ↔ l.head? = some 92 ∧ vN l = true := by
  unfold escN
  rw [Bool.and_eq_true, Bool.and_eq_true, decide_eq_true_eq, decide_eq_true_eq]
  constructor
  · rintro ⟨_, h1, h2⟩; exact ⟨h1, h2⟩
  · rintro ⟨h1, h2⟩
    refine ⟨?_, h1, h2⟩
    rw [vN_esc h1, Bool.and_eq_true, decide_eq_true_eq] at h2
    exact h2.1.1
/-- a number in the bounds of a bit range -/
def bdB (n : Int) : Bool := decide (-32768 ≤ n ∧ n ≤ 32768)
def widthS (m n : Int) : Int := if bdB m && bdB n then (if m < n then n - m + 1 else m - n + 1) else 0

/-- what take does: whether the text begins with p, and what is left -/
def takeS (l p : List UInt8) : Bool × List UInt8 := if p.isPrefixOf l then (true, l.drop p.length) else (false, l)
/-- the digits are no number -/
def badD (l : List UInt8) (neg : Bool) : Bool := decide (nd l < 1 ∨ 9 < nd l ∨ (l.head? = some 48 ∧ (1 < nd l ∨ neg = true)))
/-- what number does: the number, whether there is one, what is left -/
def numS (l : List UInt8) : Int × Bool × List UInt8 :=
  if badD (takeS l [45]).2 (takeS l [45]).1 then (0, false, (takeS l [45]).2.drop (nd (takeS l [45]).2))
  else ((if (takeS l [45]).1 then -((dv ((takeS l [45]).2.take (nd (takeS l [45]).2)) : Nat) : Int) else ((dv ((takeS l [45]).2.take (nd (takeS l [45]).2)) : Nat) : Int)), true, (takeS l [45]).2.drop (nd (takeS l [45]).2))
/-- the second bound -/
def lsbS (l : List UInt8) (m : Int) : Int × Bool × List UInt8 := if (takeS l [58]).1 then numS (takeS l [58]).2 else (m, true, (takeS l [58]).2)
/-- what Range returns -/
def rangeS (l : List UInt8) : Int × Int × Int :=
  if !(takeS l [91]).1 || !(numS (takeS l [91]).2).2.1 || !(lsbS (numS (takeS l [91]).2).2.2 (numS (takeS l [91]).2).1).2.1 || !decide ((lsbS (numS (takeS l [91]).2).2.2 (numS (takeS l [91]).2).1).2.2 = [93]) then (0, 0, 3)
  else if !bdB (numS (takeS l [91]).2).1 || !bdB (lsbS (numS (takeS l [91]).2).2.2 (numS (takeS l [91]).2).1).1 then (0, 0, 2)
  else ((numS (takeS l [91]).2).1, (lsbS (numS (takeS l [91]).2).2.2 (numS (takeS l [91]).2).1).1, 0)

/-- a number, read whole, as the reference does: none if it is none -/
def numW (l : List UInt8) : Option Int :=
  if (numS l).2.1 = true ∧ (numS l).2.2 = [] then some (numS l).1 else none
/-- the reference's view of a bit range -/
def rangeW (l : List UInt8) : Int × Int × Int :=
  if l.length < 3 ∨ l.head? ≠ some 91 ∨ l.getLast? ≠ some 93 then (0, 0, 3)
  else match (if (l.drop 1).dropLast.contains 58 then
      (numW ((l.drop 1).dropLast.takeWhile (· != 58)), numW (((l.drop 1).dropLast.dropWhile (· != 58)).drop 1)) else (numW (l.drop 1).dropLast, numW (l.drop 1).dropLast)) with
    | (some m, some n) => if bdB m && bdB n then (m, n, 0) else (0, 0, 2)
    | _ => (0, 0, 3)
theorem takeS_eq (l p : List UInt8) : takeS l p = (Lib.hasPrefix l p, Lib.trimPrefix l p) := by
  unfold takeS Lib.trimPrefix Lib.hasPrefix
  split
  · rename_i h; rw [h]
  · rename_i h; rw [Bool.not_eq_true] at h; rw [h]
theorem takeS_one (l : List UInt8) (c : UInt8) : takeS l [c] = if l.head? = some c then (true, l.tail) else (false, l) := by
  unfold takeS
  rcases l with _ | ⟨a, t⟩
  · rfl
  · by_cases h : c = a
    · subst h; simp [List.isPrefixOf]
    · have h' : ¬ a = c := fun e => h e.symm
      simp [List.isPrefixOf, h, h']
theorem nd_append_stop (l r : List UInt8) (hr : ∀ c, r.head? = some c → isD c = false) : nd (l ++ r) = nd l := by
  unfold nd
  induction l with
  | nil =>
    rcases r with _ | ⟨c, r⟩
    · rfl
    · have := hr c rfl
      simp [this]
  | cons a l ih =>
    rw [List.cons_append, List.takeWhile_cons, List.takeWhile_cons]
    split
    · simpa using ih
    · rfl
theorem head_append {l r : List UInt8} (h : l ≠ []) : (l ++ r).head? = l.head? := by
  cases l with
  | nil => exact absurd rfl h
  | cons a t => rfl
theorem nd_head_digit {l : List UInt8} {c : UInt8} (h : l.head? = some c) (hc : isD c = false) : nd l = 0 := by
  cases l with
  | nil => cases h
  | cons a t =>
    obtain rfl : a = c := Option.some.inj h
    unfold nd; rw [List.takeWhile_cons, hc]; rfl
/-- a number in front of a byte that is no digit -/
theorem numS_stop (l r : List UInt8) (h0 : l ≠ []) (hr : ∀ c, r.head? = some c → isD c = false) : (numS (l ++ r)).1 = (numS l).1 ∧ (numS (l ++ r)).2.1 = (numS l).2.1 ∧ (numS (l ++ r)).2.2 = (numS l).2.2 ++ r := by
  have e1 : takeS (l ++ r) [45] = ((takeS l [45]).1, (takeS l [45]).2 ++ r) := by
    rw [takeS_one, takeS_one, head_append h0]
    split
    · cases l with
      | nil => exact absurd rfl h0
      | cons a t => rfl
    · rfl
  have e2 := nd_append_stop (takeS l [45]).2 r hr
  have hle := nd_le (takeS l [45]).2
  have e3 : ((takeS l [45]).2 ++ r).take (nd (takeS l [45]).2) = (takeS l [45]).2.take (nd (takeS l [45]).2) := List.take_append_of_le_length hle
  have e4 : ((takeS l [45]).2 ++ r).drop (nd (takeS l [45]).2) = (takeS l [45]).2.drop (nd (takeS l [45]).2) ++ r := List.drop_append_of_le_length hle
  have e5 : badD ((takeS l [45]).2 ++ r) (takeS l [45]).1 = badD (takeS l [45]).2 (takeS l [45]).1 := by
    unfold badD
    rw [e2]
    by_cases hn : nd (takeS l [45]).2 < 1
    · rw [Bool.eq_iff_iff, decide_eq_true_eq, decide_eq_true_eq]
      exact ⟨fun _ => .inl hn, fun _ => .inl hn⟩
    · have hne : (takeS l [45]).2 ≠ [] := fun e => hn (by rw [e]; decide)
      rw [head_append hne]
  unfold numS
  rw [e1]
  simp only
  rw [e5, e2, e3, e4]
  split <;> exact ⟨rfl, rfl, rfl⟩
/-- the bytes that a number takes: an optional hyphen and digits -/
theorem numS_rest (l : List UInt8) : ∃ p, l = p ++ (numS l).2.2 ∧ (∀ c ∈ p, c = 45 ∨ isD c = true) ∧ ∀ c, (numS l).2.2.head? = some c → isD c = false := by
  have hr : (numS l).2.2 = (takeS l [45]).2.drop (nd (takeS l [45]).2) := by unfold numS; split <;> rfl
  rw [hr]
  have hd := nd_in (takeS l [45]).2
  have he := nd_end (takeS l [45]).2
  have htd : ∀ c ∈ (takeS l [45]).2.take (nd (takeS l [45]).2), isD c = true := fun c hc => by
    obtain ⟨j, hj, rfl⟩ := List.mem_iff_getElem.1 hc
    rw [List.getElem_take]
    rw [List.length_take] at hj
    exact hd j (by omega) (by omega)
  have hstop : ∀ c, ((takeS l [45]).2.drop (nd (takeS l [45]).2)).head? = some c → isD c = false := fun c hc => by
    rw [List.head?_drop] at hc
    obtain ⟨hl, rfl⟩ := List.getElem?_eq_some_iff.1 hc
    exact he hl
  rw [takeS_one] at htd hstop ⊢
  by_cases h : l.head? = some 45
  · rw [if_pos h] at htd hstop ⊢
    refine ⟨45 :: l.tail.take (nd l.tail), ?_, ?_, hstop⟩
    · cases l with
      | nil => cases h
      | cons a t =>
        obtain rfl : a = 45 := Option.some.inj h
        show 45 :: t = 45 :: (t.take (nd t) ++ t.drop (nd t))
        rw [List.take_append_drop]
    · intro c hc
      rcases List.mem_cons.1 hc with rfl | hc
      · exact .inl rfl
      · exact .inr (htd c hc)
  · rw [if_neg h] at htd hstop ⊢
    exact ⟨l.take (nd l), (List.take_append_drop _ _).symm, fun c hc => .inr (htd c hc), hstop⟩
theorem takeWhile_no (c : UInt8) (l : List UInt8) : ∀ x ∈ l.takeWhile (· != c), x ≠ c := by
  induction l with
  | nil => intro x hx; cases hx
  | cons a t ih =>
    intro x hx
    rw [List.takeWhile_cons] at hx
    by_cases h : (a != c) = true
    · rw [if_pos h] at hx
      rcases List.mem_cons.1 hx with rfl | hx
      · simpa using h
      · exact ih x hx
    · rw [if_neg h] at hx; cases hx
theorem takeWhile_ne (c : UInt8) (l : List UInt8) (h : l.contains c = true) : l = l.takeWhile (· != c) ++ c :: (l.dropWhile (· != c)).drop 1 ∧ ∀ x ∈ l.takeWhile (· != c), x ≠ c := by
  refine ⟨?_, takeWhile_no c l⟩
  induction l with
  | nil => cases h
  | cons a t ih =>
    by_cases ha : a = c
    · subst ha; simp
    · have ha' : (a != c) = true := by simpa using ha
      have ht : t.contains c = true := by
        rw [List.contains_cons] at h
        have : (c == a) = false := beq_eq_false_iff_ne.2 (fun e => ha e.symm)
        rwa [this, Bool.false_or] at h
      rw [List.takeWhile_cons, if_pos ha', List.dropWhile_cons, if_pos ha', List.cons_append, ← ih ht]
theorem split58 (p r : List UInt8) (hp : ∀ c ∈ p, c ≠ 58) : (p ++ 58 :: r).contains 58 = true ∧ (p ++ 58 :: r).takeWhile (· != 58) = p ∧ ((p ++ 58 :: r).dropWhile (· != 58)).drop 1 = r := by
  refine ⟨by simp, ?_, ?_⟩
  · rw [List.takeWhile_append_of_pos (by intro c hc; simpa using hp c hc)]; simp
  · rw [List.dropWhile_append_of_pos (by intro c hc; simpa using hp c hc)]; simp
theorem pcs {p : List UInt8} (hp : ∀ c ∈ p, c = 45 ∨ isD c = true) : ∀ c ∈ p, c ≠ 58 := fun c hc e => by
  subst e
  rcases hp 58 hc with h | h
  · exact absurd h (by decide)
  · exact absurd h (by decide)
theorem rangeW_mid (s : List UInt8) (hs : s ≠ []) : rangeW (91 :: (s ++ [93])) = match (if s.contains 58 then (numW (s.takeWhile (· != 58)), numW ((s.dropWhile (· != 58)).drop 1)) else (numW s, numW s)) with
    | (some m, some n) => if bdB m && bdB n then (m, n, 0) else (0, 0, 2)
    | _ => (0, 0, 3) := by
  unfold rangeW
  have h1 : ¬ ((91 :: (s ++ [93])).length < 3 ∨ (91 :: (s ++ [93])).head? ≠ some 91 ∨ (91 :: (s ++ [93])).getLast? ≠ some 93) := by
    have : 0 < s.length := List.length_pos_iff.2 hs
    have e : (91 :: (s ++ [93])).getLast? = some 93 := by
      rw [show 91 :: (s ++ [93]) = (91 :: s) ++ [93] from rfl, List.getLast?_append]; rfl
    rw [e]
    simp
    omega
  rw [if_neg h1]
  have e : ((91 :: (s ++ [93])).drop 1).dropLast = s := by
    show (s ++ [93]).dropLast = s
    rw [List.dropLast_concat]
  rw [e]
theorem numS_nil : (numS []).2.1 = false := by decide
theorem numS_ok_ne {l : List UInt8} (h : (numS l).2.1 = true) : l ≠ [] := fun e => by rw [e, numS_nil] at h; cases h
theorem numW_some {l : List UInt8} (h1 : (numS l).2.1 = true) (h2 : (numS l).2.2 = []) : numW l = some (numS l).1 := by unfold numW; rw [if_pos ⟨h1, h2⟩]
theorem numW_inv {l : List UInt8} {m : Int} (h : numW l = some m) : (numS l).2.1 = true ∧ (numS l).2.2 = [] ∧ (numS l).1 = m := by
  unfold numW at h
  split at h
  · rename_i h'; exact ⟨h'.1, h'.2, Option.some.inj h⟩
  · cases h
/-- a number read whole, in front of a byte that is no digit -/
theorem numW_stop {l : List UInt8} {m : Int} (h : numW l = some m) (r : List UInt8) (hr : ∀ c, r.head? = some c → isD c = false) : numS (l ++ r) = (m, true, r) := by
  obtain ⟨h1, h2, h3⟩ := numW_inv h
  obtain ⟨e1, e2, e3⟩ := numS_stop l r (numS_ok_ne h1) hr
  rw [h2] at e3
  exact Prod.ext (e1.trans h3) (Prod.ext (e2.trans h1) e3)
theorem numS_split {l r : List UInt8} (h1 : (numS l).2.1 = true) (h2 : (numS l).2.2 = r) : ∃ p, l = p ++ r ∧ (∀ c ∈ p, c = 45 ∨ isD c = true) ∧ numW p = some (numS l).1 := by
  obtain ⟨p, e1, e2, e3⟩ := numS_rest l
  rw [h2] at e1 e3
  refine ⟨p, e1, e2, ?_⟩
  have hp : p ≠ [] := fun e => by
    subst e
    rw [List.nil_append] at e1
    rw [← e1] at e3 h2
    have hk : nd l = 0 := by
      cases l with
      | nil => rfl
      | cons a t => exact nd_head_digit rfl (e3 a rfl)
    cases l with
    | nil => rw [numS_nil] at h1; cases h1
    | cons a t =>
      unfold numS at h1
      rw [takeS_one] at h1
      by_cases h45 : (a :: t).head? = some 45
      · rw [if_pos h45] at h1
        obtain rfl : a = 45 := Option.some.inj h45
        unfold numS at h2
        rw [takeS_one, if_pos h45] at h2
        have hl := congrArg List.length h2
        split at hl <;> simp at hl <;> omega
      · rw [if_neg h45] at h1
        have hb : badD (a :: t) false = true := by unfold badD; rw [decide_eq_true_eq]; left; omega
        simp only [hb] at h1
        cases h1
  obtain ⟨f1, f2, f3⟩ := numS_stop p r hp e3
  rw [← e1] at f1 f2 f3
  have hz : (numS p).2.2 = [] := by
    rw [h2] at f3
    exact List.append_cancel_right (by rw [List.nil_append]; exact f3.symm)
  rw [numW_some (f2.symm.trans h1) hz, f1]
theorem stop93 : ∀ c, ([93] : List UInt8).head? = some c → isD c = false := by intro c h; cases h; decide
theorem stop58 (r : List UInt8) : ∀ c, (58 :: r : List UInt8).head? = some c → isD c = false := by intro c h; cases h; decide
/-- the program's Range is the reference's -/
theorem range_eq (l : List UInt8) : rangeS l = rangeW l := by
  by_cases hok : (!(takeS l [91]).1 || !(numS (takeS l [91]).2).2.1 || !(lsbS (numS (takeS l [91]).2).2.2 (numS (takeS l [91]).2).1).2.1 || !decide ((lsbS (numS (takeS l [91]).2).2.2 (numS (takeS l [91]).2).1).2.2 = [93])) = true
  · have hS : rangeS l = (0, 0, 3) := by unfold rangeS; rw [if_pos hok]
    rw [hS]
    symm
    unfold rangeW
    split
    · rfl
    · rename_i hc
      have h91 : l.head? = some 91 := by
        rcases Decidable.em (l.head? = some 91) with h | h
        · exact h
        · exact absurd (.inr (.inl h)) hc
      have h93 : l.getLast? = some 93 := by
        rcases Decidable.em (l.getLast? = some 93) with h | h
        · exact h
        · exact absurd (.inr (.inr h)) hc
      cases l with
      | nil => cases h91
      | cons a t =>
        obtain rfl : a = 91 := Option.some.inj h91
        have ht : t ≠ [] := fun e => by subst e; simp at hc
        obtain ⟨s, rfl⟩ : ∃ s, t = s ++ [93] := by
          refine ⟨t.dropLast, ?_⟩
          have e1 := List.dropLast_concat_getLast ht
          have e2 : t.getLast ht = 93 := by
            rw [List.getLast?_cons_of_ne_nil ht, List.getLast?_eq_some_getLast ht] at h93
            exact Option.some.inj h93
          rw [e2] at e1; exact e1.symm
        have e : ((91 :: (s ++ [93])).drop 1).dropLast = s := by
          show (s ++ [93]).dropLast = s
          rw [List.dropLast_concat]
        rw [e]
        have et : takeS (91 :: (s ++ [93])) [91] = (true, s ++ [93]) := by rw [takeS_one]; rfl
        rw [et] at hok
        simp only [Bool.not_true, Bool.false_or] at hok
        split
        · rename_i m n hmn
          exfalso
          by_cases h58 : s.contains 58 = true
          · rw [if_pos h58] at hmn
            obtain ⟨p, r, hs, hp⟩ : ∃ p r, s = p ++ 58 :: r ∧ ∀ c ∈ p, c ≠ 58 := ⟨_, _, (takeWhile_ne 58 s h58).1, (takeWhile_ne 58 s h58).2⟩
            obtain ⟨q1, q2, q3⟩ := split58 p r hp
            rw [← hs] at q1 q2 q3
            rw [q2, q3] at hmn
            have hm : numW p = some m := congrArg Prod.fst hmn
            have hn : numW r = some n := congrArg Prod.snd hmn
            have x1 := numW_stop hm (58 :: (r ++ [93])) (stop58 _)
            have x2 := numW_stop hn [93] stop93
            have hs2 : s ++ [93] = p ++ 58 :: (r ++ [93]) := by rw [hs]; simp
            have x3 : lsbS (58 :: (r ++ [93])) m = (n, true, [93]) := by
              unfold lsbS; rw [takeS_one]; exact x2
            rw [hs2, x1] at hok
            simp only [x3] at hok
            simp at hok
          · rw [if_neg h58] at hmn
            have hm : numW s = some m := congrArg Prod.fst hmn
            have x1 := numW_stop hm [93] stop93
            rw [x1] at hok
            have x3 : lsbS [93] m = (m, true, [93]) := by unfold lsbS; rw [takeS_one]; rfl
            simp only [x3] at hok
            simp at hok
        · rfl
  · have hS : rangeS l = if !bdB (numS (takeS l [91]).2).1 || !bdB (lsbS (numS (takeS l [91]).2).2.2 (numS (takeS l [91]).2).1).1 then (0, 0, 2) else ((numS (takeS l [91]).2).1, (lsbS (numS (takeS l [91]).2).2.2 (numS (takeS l [91]).2).1).1, 0) := by
      unfold rangeS; rw [if_neg hok]
    have hok2 : (takeS l [91]).1 = true ∧ (numS (takeS l [91]).2).2.1 = true ∧ (lsbS (numS (takeS l [91]).2).2.2 (numS (takeS l [91]).2).1).2.1 = true ∧ (lsbS (numS (takeS l [91]).2).2.2 (numS (takeS l [91]).2).1).2.2 = [93] := by
      simp only [Bool.or_eq_true, Bool.not_eq_true', decide_eq_false_iff_not, not_or, Bool.not_eq_false, Decidable.not_not] at hok
      exact ⟨hok.1.1.1, hok.1.1.2, hok.1.2, hok.2⟩
    obtain ⟨k1, k2, k3, k4⟩ := hok2
    rw [hS]
    by_cases h91 : l.head? = some 91
    · cases l with
      | nil => cases h91
      | cons a t =>
        obtain rfl : a = 91 := Option.some.inj h91
        have et : takeS (91 :: t) [91] = (true, t) := by rw [takeS_one]; rfl
        rw [et] at k2 k3 k4 ⊢
        obtain ⟨p, e1, e2, e3⟩ := numS_split k2 rfl
        clear hS hok k1
        obtain ⟨m, hm⟩ : ∃ m, (numS t).1 = m := ⟨_, rfl⟩
        obtain ⟨rr, hrr⟩ : ∃ rr, (numS t).2.2 = rr := ⟨_, rfl⟩
        rw [hm, hrr] at k3 k4 ⊢
        rw [hm] at e3
        rw [hrr] at e1
        have e1 : t = p ++ rr := e1
        unfold lsbS at k3 k4 ⊢
        rw [takeS_one] at k3 k4 ⊢
        by_cases h58 : rr.head? = some 58
        · rw [if_pos h58] at k3 k4 ⊢
          simp only [if_true] at k3 k4 ⊢
          obtain ⟨p2, f1, f2, f3⟩ := numS_split k3 k4
          have hrr2 : rr = 58 :: (p2 ++ [93]) := by
            cases rr with
            | nil => cases h58
            | cons b u =>
              obtain rfl : b = 58 := Option.some.inj h58
              rw [← f1]; rfl
          have ht : 91 :: t = 91 :: ((p ++ 58 :: p2) ++ [93]) := by rw [e1, hrr2]; simp
          obtain ⟨q1, q2, q3⟩ := split58 p p2 (pcs e2)
          rw [ht, rangeW_mid _ (by simp), q1, if_pos rfl, q2, q3, e3, f3]
          simp only
          cases bdB m <;> cases bdB (numS rr.tail).1 <;> rfl
        · rw [if_neg h58] at k3 k4 ⊢
          simp only [Bool.false_eq_true, if_false] at k3 k4 ⊢
          have ht : 91 :: t = 91 :: (p ++ [93]) := by rw [e1, k4]
          have hno : ¬ p.contains 58 = true := fun h => pcs e2 58 (by simpa using h) rfl
          have hpne : p ≠ [] := numS_ok_ne (numW_inv e3).1
          rw [ht, rangeW_mid p hpne, if_neg hno, e3]
          simp only
          cases bdB m <;> rfl
    · rw [takeS_one, if_neg h91] at k1
      cases k1
end Go.Proofs.Ytpfiofgchkfkhaa

/- Plain: paths and their texts, over lists of bytes. -/
set_option linter.unusedVariables false
namespace Go.Proofs.Ytpfiofgchkfkhaa
open Go

/-- what stands behind a name of a path that has a next one -/
def sepN (p : List UInt8) : List UInt8 := if escN p then [32, 46] else [46]
def pj : List (List UInt8) → List UInt8
  | [] => []
  | [p] => p
  | p :: q :: r => p ++ (sepN p ++ pj (q :: r))
def vpB (L : List (List UInt8)) : Bool := decide (1 ≤ L.length ∧ L.length ≤ 9) && L.all vN
/-- the text of a path -/
def pathL (L : List (List UInt8)) : List UInt8 := if vpB L then pj L else []
/-- the first name of a text, what is behind it, and whether there is more -/
def cutN (l : List UInt8) : List UInt8 × List UInt8 × Bool := Lib.cut l (if l.head? = some 92 then [32, 46] else [46])
/-- the names of a text, at most so many -/
def splitF : Nat → List UInt8 → Option (List (List UInt8))
  | 0, _ => none
  | k + 1, l => if vN (cutN l).1 then (if (cutN l).2.2 then (splitF k (cutN l).2.1).map ((cutN l).1 :: ·) else some [(cutN l).1]) else none
/-- the reference's view: all names, whatever they are -/
def splitA : Nat → List UInt8 → Option (List (List UInt8))
  | 0, _ => none
  | k + 1, l => if l.head? = some 92 then
      (if l.contains 32 then (if ((l.dropWhile (· != 32)).drop 1).head? = some 46 then (splitA k (((l.dropWhile (· != 32)).drop 1).drop 1)).map (l.takeWhile (· != 32) :: ·) else none) else some [l])
    else (if l.contains 46 then (splitA k ((l.dropWhile (· != 46)).drop 1)).map (l.takeWhile (· != 46) :: ·) else some [l])

theorem pj_cons (p : List UInt8) (L : List (List UInt8)) (h : L ≠ []) : pj (p :: L) = p ++ (sepN p ++ pj L) := by
  cases L with
  | nil => exact absurd rfl h
  | cons q r => rfl
theorem pj_snoc (L : List (List UInt8)) (p y : List UInt8) : pj (L ++ [p, y]) = pj (L ++ [p]) ++ (sepN p ++ y) := by
  induction L with
  | nil => rfl
  | cons a L ih =>
    rw [List.cons_append, pj_cons _ _ (by simp), ih, List.cons_append, pj_cons _ _ (by simp)]
    simp
theorem index_ge (sub : List UInt8) : ∀ l : List UInt8, -1 ≤ Lib.index l sub := by
  intro l
  induction l with
  | nil => show -1 ≤ (if sub.isEmpty then (0 : Int) else -1); split <;> decide
  | cons c l ih =>
    show -1 ≤ (if sub.isPrefixOf (c :: l) then (0 : Int) else if Lib.index l sub == -1 then -1 else Lib.index l sub + 1)
    split
    · decide
    · split
      · decide
      · omega
theorem index_dec (sub : List UInt8) : ∀ l : List UInt8, 0 ≤ Lib.index l sub → ∃ a r, l = a ++ (sub ++ r) ∧ Lib.index l sub = a.length := by
  intro l
  induction l with
  | nil =>
    intro h
    cases sub with
    | nil => exact ⟨[], [], rfl, rfl⟩
    | cons c s => exact absurd h (by show ¬ (0 : Int) ≤ -1; decide)
  | cons b l ih =>
    intro h
    have e : Lib.index (b :: l) sub = if sub.isPrefixOf (b :: l) then 0 else if Lib.index l sub == -1 then -1 else Lib.index l sub + 1 := rfl
    rw [e] at h ⊢
    by_cases hp : sub.isPrefixOf (b :: l) = true
    · rw [if_pos hp]
      obtain ⟨r, hr⟩ := List.isPrefixOf_iff_prefix.1 hp
      exact ⟨[], r, hr.symm, rfl⟩
    · rw [if_neg hp] at h ⊢
      by_cases hm : (Lib.index l sub == -1) = true
      · rw [if_pos hm] at h; exact absurd h (by decide)
      · rw [if_neg hm] at h ⊢
        have hge := index_ge sub l
        have hne : Lib.index l sub ≠ -1 := by simpa using hm
        obtain ⟨a, r, h1, h2⟩ := ih (by omega)
        exact ⟨b :: a, r, by rw [h1]; rfl, by rw [h2]; simp⟩
theorem cut_dec (l sub : List UInt8) : Lib.cut l sub = (l, [], false) ∧ Lib.index l sub < 0 ∨ ∃ a r, l = a ++ (sub ++ r) ∧ Lib.cut l sub = (a, r, true) ∧ Lib.index l sub = a.length := by
  unfold Lib.cut
  by_cases h : 0 ≤ Lib.index l sub
  · right
    obtain ⟨a, r, h1, h2⟩ := index_dec sub l h
    refine ⟨a, r, h1, ?_, h2⟩
    rw [if_pos h, h2]
    have e : ((a.length : Nat) : Int).toNat = a.length := rfl
    rw [e, h1]
    simp
  · left; rw [if_neg h]; exact ⟨rfl, by omega⟩
theorem index_skip (sub : List UInt8) (c : UInt8) (s : List UInt8) (hs : sub = c :: s) : ∀ (a l : List UInt8), (∀ x ∈ a, x ≠ c) → Lib.index (a ++ l) sub = if Lib.index l sub = -1 then -1 else Lib.index l sub + a.length := by
  intro a l ha
  induction a with
  | nil =>
    rw [List.nil_append]
    split
    · rename_i h; exact h
    · simp
  | cons b a ih =>
    have ih' := ih (fun x hx => ha x (by simp [hx]))
    have hb := ha b (by simp)
    have hp : sub.isPrefixOf (b :: (a ++ l)) = false := by
      rw [hs]
      have : ¬ c = b := fun e => hb e.symm
      simp [List.isPrefixOf, this]
    have e : Lib.index (b :: a ++ l) sub = if sub.isPrefixOf (b :: (a ++ l)) then 0 else if Lib.index (a ++ l) sub == -1 then -1 else Lib.index (a ++ l) sub + 1 := rfl
    rw [e, hp, if_neg Bool.false_ne_true, ih']
    by_cases h : Lib.index l sub = -1
    · rw [if_pos h, if_pos h]; rfl
    · rw [if_neg h, if_neg h]
      have hge := index_ge sub l
      have : ¬ (Lib.index l sub + (a.length : Int) == -1) = true := by
        rw [beq_iff_eq]; omega
      rw [if_neg this]
      simp only [List.length_cons]
      omega
theorem cut_at (sub : List UInt8) (c : UInt8) (s : List UInt8) (hs : sub = c :: s) (a r : List UInt8) (ha : ∀ x ∈ a, x ≠ c) : Lib.cut (a ++ (sub ++ r)) sub = (a, r, true) := by
  have h0 : Lib.index (sub ++ r) sub = 0 := by
    rw [hs]
    show (if (c :: s).isPrefixOf (c :: (s ++ r)) then (0 : Int) else _) = 0
    rw [if_pos]
    exact List.isPrefixOf_iff_prefix.2 (List.prefix_append (c :: s) r)
  have h1 := index_skip sub c s hs a (sub ++ r) ha
  rw [h0, if_neg (by decide), Int.zero_add] at h1
  unfold Lib.cut
  rw [h1, if_pos (by omega)]
  have e : ((a.length : Nat) : Int).toNat = a.length := rfl
  rw [e]
  simp
theorem cut_no (sub : List UInt8) (c : UInt8) (s : List UInt8) (hs : sub = c :: s) (l : List UInt8) (ha : ∀ x ∈ l, x ≠ c) : Lib.cut l sub = (l, [], false) := by
  have h1 := index_skip sub c s hs l [] ha
  rw [List.append_nil] at h1
  have h0 : Lib.index [] sub = -1 := by rw [hs]; rfl
  rw [h0, if_pos rfl] at h1
  unfold Lib.cut
  rw [h1, if_neg (by decide)]
theorem mem_pr {l : List UInt8} (h : allPr l = true) : ∀ c ∈ l, c ≠ 32 := fun c hc e => by
  have := List.all_eq_true.1 h c hc
  rw [e] at this; exact absurd this (by decide)
theorem plain_ok {l : List UInt8} (h : vN l = true) (hh : l.head? ≠ some 92) : ∀ c ∈ l, c ≠ 46 := fun c hc e => by
  rw [vN_plain hh, Bool.and_eq_true, Bool.and_eq_true, Bool.and_eq_true] at h
  have := List.all_eq_true.1 h.2.2.2 c hc
  rw [e] at this; exact absurd this (by decide)
theorem sepN_esc {p : List UInt8} (h : vN p = true) (hh : p.head? = some 92) : sepN p = [32, 46] := by unfold sepN; rw [if_pos (escN_iff.2 ⟨hh, h⟩)]
theorem sepN_plain {p : List UInt8} (hh : p.head? ≠ some 92) : sepN p = [46] := by unfold sepN; rw [if_neg (fun h => hh (escN_iff.1 h).1)]
theorem vN_ne {l : List UInt8} (h : vN l = true) : l ≠ [] := fun e => by have := (vN_len h).1; rw [e] at this; simp at this
theorem cutN_cons {p : List UInt8} (h : vN p = true) (r : List UInt8) : cutN (p ++ (sepN p ++ r)) = (p, r, true) := by
  unfold cutN
  rw [show (p ++ (sepN p ++ r)).head? = p.head? from by
    cases p with
    | nil => exact absurd rfl (vN_ne h)
    | cons a t => rfl]
  by_cases hh : p.head? = some 92
  · rw [if_pos hh, sepN_esc h hh]
    exact cut_at _ 32 [46] rfl p r (mem_pr (vN_pr h))
  · rw [if_neg hh, sepN_plain hh]
    exact cut_at _ 46 [] rfl p r (plain_ok h hh)
theorem cutN_one {p : List UInt8} (h : vN p = true) : cutN p = (p, [], false) := by
  unfold cutN
  by_cases hh : p.head? = some 92
  · rw [if_pos hh]; exact cut_no _ 32 [46] rfl p (mem_pr (vN_pr h))
  · rw [if_neg hh]; exact cut_no _ 46 [] rfl p (plain_ok h hh)
theorem splitF_pj : ∀ (k : Nat) (L : List (List UInt8)), L ≠ [] → L.length ≤ k → L.all vN = true → splitF k (pj L) = some L := by
  intro k
  induction k with
  | zero => intro L h hl; cases L with
    | nil => exact absurd rfl h
    | cons a t => simp at hl
  | succ k ih =>
    intro L h hl hv
    cases L with
    | nil => exact absurd rfl h
    | cons p r =>
      simp only [List.all_cons, Bool.and_eq_true] at hv
      cases r with
      | nil =>
        show splitF (k + 1) p = _
        unfold splitF
        rw [cutN_one hv.1, if_pos hv.1, if_neg Bool.false_ne_true]
      | cons q r =>
        show splitF (k + 1) (p ++ (sepN p ++ pj (q :: r))) = _
        unfold splitF
        rw [cutN_cons hv.1, if_pos hv.1, if_pos rfl, ih (q :: r) (by simp) (by simpa using hl) hv.2]
        rfl
theorem splitF_inv : ∀ (k : Nat) (l : List UInt8) (L : List (List UInt8)), splitF k l = some L → pj L = l ∧ L ≠ [] ∧ L.length ≤ k ∧ L.all vN = true := by
  intro k
  induction k with
  | zero => intro l L h; cases h
  | succ k ih =>
    intro l L h
    unfold splitF at h
    by_cases hv : vN (cutN l).1 = true
    · rw [if_pos hv] at h
      have hd := cut_dec l (if l.head? = some 92 then [32, 46] else [46])
      by_cases hm : (cutN l).2.2 = true
      · rw [if_pos hm] at h
        obtain ⟨L', h1, h2⟩ := Option.map_eq_some_iff.1 h
        obtain ⟨i1, i2, i3, i4⟩ := ih _ _ h1
        rcases hd with ⟨hd, _⟩ | ⟨a, r, d1, d2, _⟩
        · unfold cutN at hm; rw [hd] at hm; cases hm
        · have hc : cutN l = (a, r, true) := d2
          rw [hc] at hv h2 i1
          simp only at hv h2 i1
          have hh : l.head? = a.head? := by
            rw [d1]
            cases a with
            | nil => exact absurd rfl (vN_ne hv)
            | cons x t => rfl
          refine ⟨?_, by rw [← h2]; simp, by rw [← h2]; simp; omega, by rw [← h2, List.all_cons, hv, i4]; rfl⟩
          rw [← h2, pj_cons _ _ i2, i1]
          rw [hh] at d1
          by_cases he : a.head? = some 92
          · rw [if_pos he] at d1; rw [sepN_esc hv he]; exact d1.symm
          · rw [if_neg he] at d1; rw [sepN_plain he]; exact d1.symm
      · rw [if_neg hm] at h
        obtain rfl := (Option.some.inj h).symm
        rcases hd with ⟨hd, _⟩ | ⟨a, r, d1, d2, _⟩
        · have hc : cutN l = (l, [], false) := hd
          rw [hc] at hv ⊢
          exact ⟨rfl, by simp, by simp, by simpa using hv⟩
        · exfalso
          have hc : cutN l = (a, r, true) := d2
          rw [hc] at hm; exact hm rfl
    · rw [if_neg hv] at h; cases h
theorem vN_blank {l : List UInt8} (h : 32 ∈ l) : ¬ vN l = true := fun hv => mem_pr (vN_pr hv) 32 h rfl
theorem not_contains {c : UInt8} {l : List UInt8} (h : ¬ l.contains c = true) : ∀ x ∈ l, x ≠ c := fun x hx e => h (by rw [← e]; simpa using hx)
/-- the two ways of reading a path are one -/
theorem split_eq : ∀ (fuel k : Nat) (l : List UInt8), l.length < fuel → (splitA fuel l).bind (fun N => if N.length ≤ k ∧ N.all vN = true then some N else none) = splitF k l := by
  intro fuel
  induction fuel with
  | zero => intro k l h; omega
  | succ fuel ih =>
    intro k l hl
    have step : ∀ (a r : List UInt8), cutN l = (a, r, true) → r.length < fuel → ((splitA fuel r).map (a :: ·)).bind (fun N => if N.length ≤ k ∧ N.all vN = true then some N else none) = splitF k l := by
      intro a r hc hr
      cases k with
      | zero =>
        show _ = none
        cases splitA fuel r with
        | none => rfl
        | some N => show (if (a :: N).length ≤ 0 ∧ (a :: N).all vN = true then some (a :: N) else none) = none; rw [if_neg]; simp
      | succ k =>
        unfold splitF
        rw [hc]
        simp only [if_true]
        by_cases hv : vN a = true
        · rw [if_pos hv, ← ih k r hr]
          cases splitA fuel r with
          | none => rfl
          | some N =>
            show (if (a :: N).length ≤ k + 1 ∧ (a :: N).all vN = true then some (a :: N) else none) = Option.map (a :: ·) (if N.length ≤ k ∧ N.all vN = true then some N else none)
            by_cases hN : N.length ≤ k ∧ N.all vN = true
            · rw [if_pos hN, if_pos ⟨by simpa using hN.1, by rw [List.all_cons, hv, hN.2]; rfl⟩]; rfl
            · rw [if_neg hN, if_neg]
              · rfl
              · rintro ⟨h1, h2⟩
                rw [List.all_cons, Bool.and_eq_true] at h2
                exact hN ⟨by simpa using h1, h2.2⟩
        · rw [if_neg hv]
          cases splitA fuel r with
          | none => rfl
          | some N =>
            show (if (a :: N).length ≤ k + 1 ∧ (a :: N).all vN = true then some (a :: N) else none) = none
            rw [if_neg]
            rintro ⟨_, h2⟩
            rw [List.all_cons, Bool.and_eq_true] at h2
            exact hv h2.1
    have last : cutN l = (l, [], false) → (some [l] : Option (List (List UInt8))).bind (fun N => if N.length ≤ k ∧ N.all vN = true then some N else none) = splitF k l := by
      intro hc
      show (if [l].length ≤ k ∧ [l].all vN = true then some [l] else none) = _
      cases k with
      | zero => rw [if_neg (by simp)]; rfl
      | succ k =>
        unfold splitF
        rw [hc]
        by_cases hv : vN l = true
        · rw [if_pos hv, if_neg Bool.false_ne_true, if_pos ⟨by simp, by simpa using hv⟩]
        · rw [if_neg hv, if_neg]; rintro ⟨_, h2⟩; exact hv (by simpa using h2)
    unfold splitA
    by_cases hh : l.head? = some 92
    · rw [if_pos hh]
      by_cases hb : l.contains 32 = true
      · rw [if_pos hb]
        obtain ⟨e1, e2⟩ := takeWhile_ne 32 l hb
        generalize l.takeWhile (· != 32) = a at e1 e2 ⊢
        generalize (l.dropWhile (· != 32)).drop 1 = r at e1 ⊢
        by_cases hr : r.head? = some 46
        · rw [if_pos hr]
          obtain ⟨r', rfl⟩ : ∃ r', r = 46 :: r' := by
            cases r with
            | nil => cases hr
            | cons x t => obtain rfl : x = 46 := Option.some.inj hr; exact ⟨t, rfl⟩
          refine step a r' ?_ ?_
          · unfold cutN; rw [if_pos hh, e1]; exact cut_at _ 32 [46] rfl a r' e2
          · rw [e1] at hl; simp at hl; omega
        · rw [if_neg hr]
          show none = _
          cases k with
          | zero => rfl
          | succ k =>
            unfold splitF
            rw [if_neg]
            unfold cutN
            rw [if_pos hh]
            rcases cut_dec l [32, 46] with ⟨hc, _⟩ | ⟨x, y, d1, d2, d3⟩
            · rw [hc]; exact vN_blank (by simpa using hb)
            · rw [d2]
              refine vN_blank ?_
              have h1 := index_skip [32, 46] 32 [46] rfl a (32 :: r) e2
              have h2 : Lib.index (32 :: r) [32, 46] = if Lib.index r [32, 46] == -1 then -1 else Lib.index r [32, 46] + 1 := by
                show (if ([32, 46] : List UInt8).isPrefixOf (32 :: r) then (0 : Int) else _) = _
                rw [if_neg]
                intro hp
                cases r with
                | nil => simp [List.isPrefixOf] at hp
                | cons z t => simp [List.isPrefixOf] at hp; rw [← hp] at hr; exact hr rfl
              rw [← e1, d3, h2] at h1
              have hx : a.length < x.length := by
                by_cases q : (Lib.index r [32, 46] == -1) = true
                · rw [if_pos q, if_pos rfl] at h1; omega
                · rw [if_neg q] at h1
                  have q' : Lib.index r [32, 46] ≠ -1 := by simpa using q
                  have q5 := index_ge [32, 46] r
                  rcases cut_dec r [32, 46] with ⟨_, q3⟩ | ⟨_, _, _, _, q3⟩
                  · split at h1
                    · omega
                    · exfalso
                      rename_i q4
                      omega
                  · rw [q3] at h1
                    rw [if_neg (by omega)] at h1
                    omega
              have h3 : x = l.take x.length := by rw [d1]; simp
              rw [h3, e1]
              have h4 : x.length = a.length + (x.length - a.length - 1) + 1 := by omega
              rw [h4, List.take_append]
              simp
              right
              rw [show a.length + (x.length - a.length - 1) + 1 - a.length = (x.length - a.length - 1) + 1 by omega]
              simp
      · rw [if_neg hb]
        refine last ?_
        unfold cutN; rw [if_pos hh]; exact cut_no _ 32 [46] rfl l (not_contains hb)
    · rw [if_neg hh]
      by_cases hb : l.contains 46 = true
      · rw [if_pos hb]
        obtain ⟨e1, e2⟩ := takeWhile_ne 46 l hb
        generalize l.takeWhile (· != 46) = a at e1 e2 ⊢
        generalize (l.dropWhile (· != 46)).drop 1 = r at e1 ⊢
        refine step a r ?_ ?_
        · unfold cutN; rw [if_neg hh, e1]; exact cut_at _ 46 [] rfl a r e2
        · rw [e1] at hl; simp at hl; omega
      · rw [if_neg hb]
        refine last ?_
        unfold cutN; rw [if_neg hh]; exact cut_no _ 46 [] rfl l (not_contains hb)
end Go.Proofs.Ytpfiofgchkfkhaa

/- Plain laws for the walk of set: texts as lists of bytes, cells of an item changed one by one, the body of a set step by step. -/
set_option linter.unusedVariables false
set_option linter.unusedSimpArgs false
namespace Go.Proofs.Ytpfiofgchkfkhaa
open Go.RowKit Go.Shelf

def bsP (l : List UInt8) : ByteArray := ⟨l.toArray⟩
theorem bsP_list (l : List UInt8) : (bsP l).data.toList = l := rfl
theorem bsP_of (s : ByteArray) : s = bsP s.data.toList := rfl
theorem bsP_size (l : List UInt8) : (bsP l).size = l.length := by rw [Lib.size_eq, bsP_list]
theorem bsP_get (l : List UInt8) (i : Nat) (h : i < (bsP l).size) : (bsP l)[i]'h = l[i]'(by rw [← bsP_size]; exact h) := by
  have := Lib.data_getElem? (bsP l) i h
  rw [bsP_list, List.getElem?_eq_getElem (by rw [← bsP_size]; exact h)] at this
  exact (Option.some.inj this).symm
theorem bsP_drop (l : List UInt8) (k : Nat) : (bsP l).extract k (bsP l).size = bsP (l.drop k) := by
  apply Go.WideShapes.bytes_inj
  rw [Lib.extract_to_end, bsP_list, bsP_list]
theorem bsP_ne {l : List UInt8} (h : l ≠ []) : (bsP l).toList ≠ [] ∧ (bsP l).toList.isEmpty = false := by
  have e : (bsP l).toList = l := by rw [Lib.toList_data]; rfl
  rw [e]
  exact ⟨h, by rw [Bool.eq_false_iff]; intro h2; exact h (List.isEmpty_iff.1 h2)⟩
theorem bsP_no : (bsP []).toList = [] ∧ (bsP []).toList.isEmpty = true := by
  have e : (bsP []).toList = [] := by rw [Lib.toList_data]; rfl
  rw [e]; exact ⟨rfl, rfl⟩

theorem setF_fuel : ∀ (n m : Nat) (b : List UInt8) (f : UInt8 → Bool), b.length ≤ n → b.length ≤ m → setF n b f = setF m b f
  | 0, m, b, f, hn, _ => by
    have hb : b = [] := List.length_eq_zero_iff.1 (by omega)
    subst hb
    cases m <;> rfl
  | n + 1, 0, b, f, _, hm => by
    have hb : b = [] := List.length_eq_zero_iff.1 (by omega)
    subst hb; rfl
  | n + 1, m + 1, b, f, hn, hm => by
    unfold setF
    by_cases hb : b = []
    · rw [if_pos hb, if_pos hb]
    · rw [if_neg hb, if_neg hb]
      have h1 : 1 ≤ stepB b := by unfold stepB; split <;> omega
      rw [setF_fuel n m _ _ (by rw [List.length_drop]; omega) (by rw [List.length_drop]; omega)]
theorem setF_nil (f : UInt8 → Bool) : setF ([] : List UInt8).length [] f = some f := rfl
theorem setF_step (b : List UInt8) (f : UInt8 → Bool) (hb : b ≠ []) : setF b.length b f = if goodB b then setF (b.drop (stepB b)).length (b.drop (stepB b)) (fun c => f c || decide ((b.headD 0).toNat ≤ c.toNat ∧ c.toNat ≤ (hiB b).toNat)) else none := by
  obtain ⟨n, hn⟩ : ∃ n, b.length = n + 1 := ⟨b.length - 1, by have := List.length_pos_iff.2 hb; omega⟩
  have h1 : 1 ≤ stepB b := by unfold stepB; split <;> omega
  rw [hn]
  conv => lhs; unfold setF
  rw [if_neg hb, setF_fuel n (b.drop (stepB b)).length _ _ (by rw [List.length_drop]; omega) (Nat.le_refl _)]
theorem itL_upd (x : It) (k : Nat) (v : Bool) (hk : k < 256) : (itL x).set (1 + k) (.bool v) = itL ⟨x.star, fun c => if c.toNat = k then v else x.set c, x.plain, x.self⟩ := by
  apply List.ext_getElem?
  intro j
  rw [List.getElem?_set, itL_get, itL_get, itL_len]
  by_cases h2 : 1 + k = j
  · subst h2
    rw [if_pos rfl, if_pos (by omega), if_neg (by omega), if_pos (by omega)]
    show _ = some (Value.bool (if (UInt8.ofNat (1 + k - 1)).toNat = k then v else _))
    rw [UInt8.toNat_ofNat', Nat.mod_eq_of_lt (by omega), if_pos (by omega)]
  · rw [if_neg h2]
    by_cases h3 : j = 0
    · rw [if_pos h3, if_pos h3]
    · rw [if_neg h3, if_neg h3]
      by_cases h4 : j < 257
      · rw [if_pos h4, if_pos h4]
        show some (Value.bool (x.set (UInt8.ofNat (j - 1)))) = some (Value.bool (if (UInt8.ofNat (j - 1)).toNat = k then v else x.set (UInt8.ofNat (j - 1))))
        rw [UInt8.toNat_ofNat', Nat.mod_eq_of_lt (by omega), if_neg (by omega)]
      · rw [if_neg h4, if_neg h4]
/-- an item that is a set -/
def setIt (f : UInt8 → Bool) : It := ⟨false, f, false, 0⟩
theorem setIt_no : setIt (fun _ => false) = noIt := rfl
theorem setIt_one (f : UInt8 → Bool) (a k : Nat) (hk : k < 256) (ha : a ≤ k) : (itL (setIt fun c => f c || decide (a ≤ c.toNat ∧ c.toNat < k))).set (1 + k) (.bool true) = itL (setIt fun c => f c || decide (a ≤ c.toNat ∧ c.toNat < k + 1)) := by
  rw [itL_upd _ _ _ hk]
  unfold setIt
  congr 2
  funext c
  by_cases h : c.toNat = k
  · rw [if_pos h, decide_eq_true (by omega), Bool.or_true]
  · rw [if_neg h]
    show (f c || decide _) = (f c || decide _)
    congr 1
    rw [decide_eq_decide]; omega
/-- the first k bytes turned -/
def turnF (f : UInt8 → Bool) (k : Nat) (c : UInt8) : Bool := if c.toNat < k then !f c else f c
theorem turnF_0 (f : UInt8 → Bool) : turnF f 0 = f := by
  funext c; unfold turnF; rw [if_neg (Nat.not_lt_zero _)]
theorem turnF_all (f : UInt8 → Bool) : turnF f 256 = fun c => !f c := by
  funext c; unfold turnF; rw [if_pos c.toNat_lt]
theorem turn_get (f : UInt8 → Bool) (k : Nat) (hk : k < 256) : (itL (setIt (turnF f k)))[1 + k]? = some (.bool (f (UInt8.ofNat k))) := by
  rw [itL_get, if_neg (by omega), if_pos (by omega), show 1 + k - 1 = k by omega]
  show some (Value.bool (if (UInt8.ofNat k).toNat < k then !f (UInt8.ofNat k) else f (UInt8.ofNat k))) = _
  rw [UInt8.toNat_ofNat', Nat.mod_eq_of_lt (by omega), if_neg (Nat.lt_irrefl _)]
theorem turn_one (f : UInt8 → Bool) (k : Nat) (hk : k < 256) : (itL (setIt (turnF f k))).set (1 + k) (.bool (!f (UInt8.ofNat k))) = itL (setIt (turnF f (k + 1))) := by
  rw [itL_upd _ _ _ hk]
  unfold setIt
  congr 2
  funext c
  unfold turnF
  by_cases h : c.toNat = k
  · rw [if_pos h, if_pos (by omega), ← h, UInt8.ofNat_toNat]
  · rw [if_neg h]
    show (if c.toNat < k then _ else _) = _
    by_cases h2 : c.toNat < k
    · rw [if_pos h2, if_pos (by omega)]
    · rw [if_neg h2, if_neg (by omega)]
theorem takeNe {c : UInt8} : ∀ (l : List UInt8), ∀ x ∈ l.takeWhile (· != c), x ≠ c
  | [], x, h => by cases h
  | a :: t, x, h => by
    by_cases ha : (a != c) = true
    · rw [show List.takeWhile (fun x => x != c) (a :: t) = a :: List.takeWhile (fun x => x != c) t by rw [List.takeWhile_cons, if_pos ha]] at h
      rcases List.mem_cons.1 h with rfl | h
      · simpa using ha
      · exact takeNe t x h
    · rw [show List.takeWhile (fun x => x != c) (a :: t) = [] by rw [List.takeWhile_cons, if_neg ha]] at h; cases h
theorem cut_mem {c : UInt8} : ∀ (l : List UInt8), c ∈ l → l = l.takeWhile (· != c) ++ ([c] ++ l.drop ((l.takeWhile (· != c)).length + 1))
  | [], h => by cases h
  | a :: t, h => by
    by_cases ha : (a != c) = true
    · rw [show List.takeWhile (fun x => x != c) (a :: t) = a :: List.takeWhile (fun x => x != c) t by rw [List.takeWhile_cons, if_pos ha]]
      have h2 : c ∈ t := by
        rcases List.mem_cons.1 h with rfl | h
        · simp at ha
        · exact h
      show a :: t = a :: _
      congr 1
      exact cut_mem t h2
    · rw [show List.takeWhile (fun x => x != c) (a :: t) = [] by rw [List.takeWhile_cons, if_neg ha]]
      have : a = c := by simpa using ha
      subst this; rfl
theorem cutB_eq (c : UInt8) (l : List UInt8) : cutB c l = if (Lib.cut l [c]).2.2 then some ((Lib.cut l [c]).1, (Lib.cut l [c]).2.1) else none := by
  unfold cutB
  by_cases h : c ∈ l
  · rw [if_pos h]
    have e := cut_mem l h
    have h2 := cut_at [c] c [] rfl (l.takeWhile (· != c)) (l.drop ((l.takeWhile (· != c)).length + 1)) (takeNe l)
    rw [← e] at h2
    rw [h2]; rfl
  · rw [if_neg h, cut_no [c] c [] rfl l (fun x hx e => h (e ▸ hx))]; rfl
theorem trim_one (c : UInt8) (l : List UInt8) : Lib.hasPrefix l [c] = decide (l.head? = some c) ∧ Lib.trimPrefix l [c] = if decide (l.head? = some c) then l.tail else l := by
  unfold Lib.trimPrefix Lib.hasPrefix
  cases l with
  | nil => exact ⟨rfl, rfl⟩
  | cons a t =>
    by_cases h : c = a
    · subst h; simp [List.isPrefixOf]
    · have h' : ¬ a = c := fun e => h e.symm
      simp [List.isPrefixOf, h, h']
theorem setV_eq (l : List UInt8) : setV l = if (Lib.cut (Lib.trimPrefix l [33]) [93]).2.2 = false ∨ (Lib.cut (Lib.trimPrefix l [33]) [93]).1 = [] then none else
    (setF (Lib.cut (Lib.trimPrefix l [33]) [93]).1.length (Lib.cut (Lib.trimPrefix l [33]) [93]).1 fun _ => false).map fun f => (setIt (if Lib.hasPrefix l [33] then fun c => !f c else f), (Lib.cut (Lib.trimPrefix l [33]) [93]).2.1) := by
  unfold setV
  simp only
  rw [← (trim_one 33 l).2, ← (trim_one 33 l).1, cutB_eq]
  generalize Lib.cut (Lib.trimPrefix l [33]) [93] = c
  obtain ⟨a, b, ok⟩ := c
  simp only
  cases ok with
  | false => rw [if_neg Bool.false_ne_true, if_pos (.inl rfl)]; rfl
  | true =>
    rw [if_pos rfl]
    simp only [Option.bind_some]
    by_cases h : a = []
    · rw [if_pos h, if_pos (.inr h)]
    · rw [if_neg h, if_neg (by rintro (h2 | h2); cases h2; exact h h2)]; rfl
end Go.Proofs.Ytpfiofgchkfkhaa

/- Contract of pattern's next at a star (under way). -/
set_option linter.unusedVariables false
set_option linter.unusedSimpArgs false
namespace Go.Proofs.Ytpfiofgchkfkhaa
open Go.RowKit Go.Shelf

def starIt : It := ⟨true, fun _ => false, false, 0⟩
set_option maxRecDepth 100000 in
set_option maxHeartbeats 8000000 in
theorem next_star (s : ByteArray) (w : World) (h : 0 < s.size) (hc : s[0]'h = 42) :
    Calls Try.prog 87 #[.string s] w fun e w' => e = .returned (.tuple #[.agg (itL starIt).toArray, .string (s.extract 1 s.size), .bool true]) ∧ Below w.heap.size w w' := by
  have h0 : (0 : Int) < (s.size : Int) := by omega
  have hz := zero_it
  have hlen : (itL noIt).length = 259 := by simp [itL]
  have hs0 : (itL noIt)[0]? = some (.bool false) := rfl
  have hset : (itL noIt).set 0 (.bool true) = itL starIt := rfl
  have hone : (itL starIt).toArray.all (·.oneCell') = true := by kernel_rfl
  obtain ⟨Z, hZ⟩ : ∃ Z, itL noIt = Z := ⟨_, rfl⟩
  obtain ⟨Z2, hZ2⟩ : ∃ Z, itL starIt = Z := ⟨_, rfl⟩
  rw [hZ] at hz hlen hset hs0
  rw [hZ2] at hone hset ⊢
  clear hZ hZ2
  have hlen2 : Z2.length = 259 := by rw [← hset, List.length_set, hlen]
  go_enter Try.func87, Try.ntmps87
  go_upto_region 9 with fail
  obtain ⟨W2, hW2⟩ : ∃ W2, (w.alloc (.cells Z.toArray 119)).alloc (.cells Z.toArray 119) = W2 := ⟨_, rfl⟩
  have hB : Below w.heap.size w W2 := by
    rw [← hW2]
    exact ((Below.refl _ _).alloc (Nat.le_refl _) _).alloc (by rw [World.size_alloc]; omega) _
  have r0 : Row W2 w.heap.size 119 Z.toArray := by rw [← hW2]; exact (Row.new _ _ _).alloc _
  have r1 : Row W2 (w.heap.size + 1) 119 Z.toArray := by
    rw [← hW2]
    have := Row.new (w.alloc (.cells Z.toArray 119)) 119 Z.toArray
    rwa [World.size_alloc] at this
  have c0 : W2.cell? ⟨w.heap.size + 1, 0, none⟩ = some (.bool false) := by rw [r1.cell 0]; simpa using hs0
  have f0 : W2.frozen? ⟨w.heap.size + 1, 0, none⟩ = false := r1.frozen 0
  have r2 : Row (W2.setCell ⟨w.heap.size + 1, 0, none⟩ (.bool true)) (w.heap.size + 1) 119 Z2.toArray := by
    have := r1.set_ 0 (.bool true)
    rwa [show Z.toArray.setIfInBounds 0 (.bool true) = Z2.toArray by rw [← hset]; simp] at this
  have r3 : Row (W2.setCell ⟨w.heap.size + 1, 0, none⟩ (.bool true)) w.heap.size 119 Z.toArray := r0.off (by omega) _ _
  have HB := hide (hB.setCell (p := ⟨w.heap.size + 1, 0, none⟩) (Nat.le_succ _) (.bool true))
  have HR2 := hide r2
  have HR3 := hide r3
  have Hone := hide hone
  have HL := hide (And.intro hlen hlen2)
  rw [hW2]
  clear hW2 hB r0 r1 r2 r3 hz hone hset hs0 hlen hlen2
  go_upto_region 16 with fail
  obtain ⟨W4, hW4⟩ : ∃ W4, W2.setCell ⟨w.heap.size + 1, 0, none⟩ (.bool true) = W4 := ⟨_, rfl⟩
  rw [hW4] at HB HR2 HR3 ⊢
  clear hW4 c0 f0
  have g1 : W4.rangeAt (w.heap.size + 1) 0 Z2 := fun j v hv => by rw [Nat.zero_add, HR2.out.cell j]; simpa using hv
  have t0 : W4.there w.heap.size 0 259 := fun j hj => by
    rw [Nat.zero_add]
    refine ⟨?_, HR3.out.frozen j⟩
    rw [HR3.out.cell j]
    have := HL.out.1
    simp; omega
  have hu := Try.underlying119
  have hi : (Try.prog.info? 119).map (·.size) = some Z2.length := by rw [HL.out.2]; kernel_rfl
  have hl2 := HL.out.2
  have h1c : ∀ v ∈ Z2, v.oneCell' = true := fun v hv => (Array.all_eq_true_iff_forall_mem.1 Hone.out) v (by simpa using hv)
  have hs1 : (1 : Int) ≤ (s.size : Int) := by omega
  have T0 := hide t0
  have hne : w.heap.size + 1 ≠ w.heap.size := by omega
  have hthere : ∀ W : World, W.there w.heap.size 0 259 → W.there w.heap.size 0 Z2.toArray.size := fun W h => by simpa [hl2] using h
  have hi2 : (Try.prog.info? 119).map (·.size) = some Z2.toArray.size := by simpa using hi
  refine wp_region_held_drew (S := fun w' => w'.rangeAt (w.heap.size + 1) 0 Z2 ∧ w'.there w.heap.size 0 259) (by kernel_rfl) ?_ (fun hHeld => ?_)
  · exact ⟨g1, T0.out⟩
  refine wpAnyH_take (i := 0) (oi := ?oi0) (v := .agg Z2.toArray) ?h00 ?h10 ?h20 ?h30 ?h40 ?hy0 (by assumption) ?rest0
  case h00 => (simp only [List.getElem?_toArray, List.getElem?_cons_zero, List.getElem?_cons_succ]; rfl)
  case h10 => kernel_rfl
  case h20 => kernel_rfl
  case h30 => kernel_rfl
  case h40 => exact fun _ _ _ h => h
  case hy0 => exact yieldsIf_load_mid (by rfl) _ _ rfl _ _ rfl Z2 _ (fun w' hw' => hw'.1) hu rfl hi
  try simp only [Act.put, List.setIfInBounds_toArray, List.set_cons_zero, List.set_cons_succ]
  have HHt := hide hthere
  have HHi := hide hi2
  have HHu := hide (And.intro hu hi)
  clear hthere hi2 hu hi
  refine wpAnyH_take (i := 1) (oi := ?oi1) (v := ?v1) ?h01 ?h11 ?h21 ?h31 ?h41 (Or.inl ⟨?hw1, ?hy1⟩) (by assumption) ?rest1
  case h01 => (simp only [List.getElem?_toArray, List.getElem?_cons_zero, List.getElem?_cons_succ]; rfl)
  case h11 => kernel_rfl
  case h21 => kernel_rfl
  case h31 => kernel_rfl
  case h41 => exact fun _ _ _ h => h
  case hw1 => rfl
  case hy1 => ((intro w hSw; go_simp); (try (with_reducible rfl)))
  try simp only [Act.put, List.setIfInBounds_toArray, List.set_cons_zero, List.set_cons_succ]
  refine wpAnyH_take (i := 2) (oi := ?oi2) (v := ?v2) ?h02 ?h12 ?h22 ?h32 ?h42 (Or.inl ⟨?hw2, ?hy2⟩) (by assumption) ?rest2
  case h02 => (simp only [List.getElem?_toArray, List.getElem?_cons_zero, List.getElem?_cons_succ]; rfl)
  case h12 => kernel_rfl
  case h22 => kernel_rfl
  case h32 => kernel_rfl
  case h42 => exact fun _ _ _ h => h
  case hw2 => rfl
  case hy2 => ((intro w hSw; go_simp); (try (with_reducible rfl)))
  try simp only [Act.put, List.setIfInBounds_toArray, List.set_cons_zero, List.set_cons_succ]
  refine wpAnyH_ready (rs := [3]) (by kernel_rfl) (by simp) ?_
  refine AllReadyH.cons (o := ?oi3) ?h03 (fun K hK => ?_) AllReadyH.nil
  case h03 => (simp only [List.getElem?_toArray, List.getElem?_cons_zero, List.getElem?_cons_succ]; rfl)
  rw [if_pos (by rfl)]
  refine wp_store_mid _ _ _ rfl _ _ Z2.toArray rfl rfl (HHt.out _ hHeld.2) HHi.out Hone.out ?_
  refine hK.out _ _ ?_ (fun hHeld2 => ?_)
  · exact ⟨World.rangeAt_setCells_apart hHeld.1 _ _ _ (.inl hne), World.there_setCells hHeld.2 _ _ _⟩
  clear hK K
  try simp only [Act.put, List.setIfInBounds_toArray, List.set_cons_zero, List.set_cons_succ]
  refine wpAnyH_take (i := 4) (oi := ?oi4) (v := ?v4) ?h04 ?h14 ?h24 ?h34 ?h44 (Or.inl ⟨?hw4, ?hy4⟩) (by assumption) ?rest4
  case h04 => (simp only [List.getElem?_toArray, List.getElem?_cons_zero, List.getElem?_cons_succ]; rfl)
  case h14 => kernel_rfl
  case h24 => kernel_rfl
  case h34 => kernel_rfl
  case h44 => exact fun _ _ _ h => h
  case hw4 => rfl
  case hy4 => ((intro w hSw; go_simp); (try (with_reducible rfl)))
  try simp only [Act.put, List.setIfInBounds_toArray, List.set_cons_zero, List.set_cons_succ]
  refine wpAnyH_take (i := 5) (oi := ?oi5) (v := ?v5) ?h05 ?h15 ?h25 ?h35 ?h45 (Or.inl ⟨?hw5, ?hy5⟩) (by assumption) ?rest5
  case h05 => (simp only [List.getElem?_toArray, List.getElem?_cons_zero, List.getElem?_cons_succ]; rfl)
  case h15 => kernel_rfl
  case h25 => kernel_rfl
  case h35 => kernel_rfl
  case h45 => exact fun _ _ _ h => h
  case hw5 => rfl
  case hy5 => ((intro w hSw; go_simp); (try (with_reducible rfl)))
  try simp only [Act.put, List.setIfInBounds_toArray, List.set_cons_zero, List.set_cons_succ]
  refine wpAnyH_done (by kernel_rfl) ?_ _
  have hr := hide (World.rangeAt_setCells_same W4.drew w.heap.size 0 Z2 (by rw [hl2]; exact hHeld.2))
  have HBf := hide (HB.out.drew.trans (Below.setCells_ge w.heap.size w.heap.size (Nat.le_refl _) Z2 0 W4.drew))
  obtain ⟨W5, hW5⟩ : ∃ W5, W4.drew.setCells w.heap.size 0 Z2 = W5 := ⟨_, rfl⟩
  rw [hW5] at hr HBf ⊢
  clear hW5 hHeld2 hHeld g1 t0 h1c hl2
  go_wp2
  exact bodyPost_ret (v := .tuple #[.agg Z2.toArray, .string (s.extract 1 s.size), .bool true]) (results_mid2 rfl _ _ w.heap.size Z2 _ _ _ rfl rfl rfl hr.out HHu.out.1 rfl HHu.out.2) rfl ⟨rfl, HBf.out⟩
end Go.Proofs.Ytpfiofgchkfkhaa
