/- Plain: names, numbers, bit ranges, over lists of bytes. -/
import Derived.Test.YtcjehiecgdmidaaTsJ
import Derived.Lib.IndexAny
import Derived.Lib.IndexMore
set_option linter.unusedVariables false
namespace Go.Proofs.Ytcjehiecgdmidaa
open Go

def prB (c : UInt8) : Bool := decide (33 ≤ c.toNat ∧ c.toNat ≤ 126)
def allPr (l : List UInt8) : Bool := l.all prB
/-- bytes that no plain name has -/
def okC (c : UInt8) : Bool := !(c == 92 || c == 46 || c == 91 || c == 93)
/-- a name, by its bytes -/
def vN (l : List UInt8) : Bool := decide (1 ≤ l.length ∧ l.length ≤ 32) && (allPr l && (if l.head? = some 92 then decide (2 ≤ l.length) else decide (l.head? ≠ some 36) && l.all okC))
/-- an escaped name -/
def escN (l : List UInt8) : Bool := decide (2 ≤ l.length) && (decide (l.head? = some 92) && vN l)
theorem vN_esc {l : List UInt8} (h : l.head? = some 92) : vN l = (decide (2 ≤ l.length ∧ l.length ≤ 32) && allPr l) := by
  unfold vN
  rw [if_pos h]
  by_cases h2 : 2 ≤ l.length <;> by_cases h3 : l.length ≤ 32 <;> cases allPr l <;> simp [h2, h3]
  omega
theorem vN_plain {l : List UInt8} (h : l.head? ≠ some 92) : vN l = (decide (1 ≤ l.length ∧ l.length ≤ 32) && (allPr l && (decide (l.head? ≠ some 36) && l.all okC))) := by
  unfold vN; rw [if_neg h]
theorem vN_len {l : List UInt8} (h : vN l = true) : 1 ≤ l.length ∧ l.length ≤ 32 := by
  unfold vN at h
  rw [Bool.and_eq_true] at h
  exact of_decide_eq_true h.1
theorem vN_pr {l : List UInt8} (h : vN l = true) : allPr l = true := by
  unfold vN at h
  rw [Bool.and_eq_true, Bool.and_eq_true] at h
  exact h.2.1
theorem escN_iff {l : List UInt8} : escN l = true ↔ l.head? = some 92 ∧ vN l = true := by
  unfold escN
  rw [Bool.and_eq_true, Bool.and_eq_true, decide_eq_true_eq, decide_eq_true_eq]
  constructor
  · rintro ⟨_, h1, h2⟩; exact ⟨h1, h2⟩
  · rintro ⟨h1, h2⟩
    refine ⟨?_, h1, h2⟩
    rw [vN_esc h1, Bool.and_eq_true, decide_eq_true_eq] at h2
    exact h2.1.1
/-- a number in the bounds of a bit range -/
def bdB (n : Int) : Bool := decide (-32768 ≤ n ∧ n ≤ 32768)
def widthS (m n : Int) : Int := if bdB m && bdB n then (if m < n then n - m + 1 else m - n + 1) else 0

/-- what take does: whether the text begins with p, and what is left -/
def takeS (l p : List UInt8) : Bool × List UInt8 := if p.isPrefixOf l then (true, l.drop p.length) else (false, l)
/-- the digits are no number -/
def badD (l : List UInt8) (neg : Bool) : Bool := decide (nd l < 1 ∨ 9 < nd l ∨ (l.head? = some 48 ∧ (1 < nd l ∨ neg = true)))
/-- what number does: the number, whether there is one, what is left -/
def numS (l : List UInt8) : Int × Bool × List UInt8 :=
  if badD (takeS l [45]).2 (takeS l [45]).1 then (0, false, (takeS l [45]).2.drop (nd (takeS l [45]).2))
  else ((if (takeS l [45]).1 then -((dv ((takeS l [45]).2.take (nd (takeS l [45]).2)) : Nat) : Int) else ((dv ((takeS l [45]).2.take (nd (takeS l [45]).2)) : Nat) : Int)), true, (takeS l [45]).2.drop (nd (takeS l [45]).2))
/-- the second bound -/
def lsbS (l : List UInt8) (m : Int) : Int × Bool × List UInt8 := if (takeS l [58]).1 then numS (takeS l [58]).2 else (m, true, (takeS l [58]).2)
/-- what Range returns -/
def rangeS (l : List UInt8) : Int × Int × Int :=
  if !(takeS l [91]).1 || !(numS (takeS l [91]).2).2.1 || !(lsbS (numS (takeS l [91]).2).2.2 (numS (takeS l [91]).2).1).2.1 || !decide ((lsbS (numS (takeS l [91]).2).2.2 (numS (takeS l [91]).2).1).2.2 = [93]) then (0, 0, 3)
  else if !bdB (numS (takeS l [91]).2).1 || !bdB (lsbS (numS (takeS l [91]).2).2.2 (numS (takeS l [91]).2).1).1 then (0, 0, 2)
  else ((numS (takeS l [91]).2).1, (lsbS (numS (takeS l [91]).2).2.2 (numS (takeS l [91]).2).1).1, 0)

/-- a number, read whole, as the reference does: none if it is none -/
def numW (l : List UInt8) : Option Int :=
  if (numS l).2.1 = true ∧ (numS l).2.2 = [] then some (numS l).1 else none
/-- the reference's view of a bit range -/
def rangeW (l : List UInt8) : Int × Int × Int :=
  if l.length < 3 ∨ l.head? ≠ some 91 ∨ l.getLast? ≠ some 93 then (0, 0, 3)
  else match (if (l.drop 1).dropLast.contains 58 then
      (numW ((l.drop 1).dropLast.takeWhile (· != 58)), numW (((l.drop 1).dropLast.dropWhile (· != 58)).drop 1)) else (numW (l.drop 1).dropLast, numW (l.drop 1).dropLast)) with
    | (some m, some n) => if bdB m && bdB n then (m, n, 0) else (0, 0, 2)
    | _ => (0, 0, 3)
theorem takeS_eq (l p : List UInt8) : takeS l p = (Lib.hasPrefix l p, Lib.trimPrefix l p) := by
  unfold takeS Lib.trimPrefix Lib.hasPrefix
  split
  · rename_i h; rw [h]
  · rename_i h; rw [Bool.not_eq_true] at h; rw [h]
theorem takeS_one (l : List UInt8) (c : UInt8) : takeS l [c] = if l.head? = some c then (true, l.tail) else (false, l) := by
  unfold takeS
  rcases l with _ | ⟨a, t⟩
  · rfl
  · by_cases h : c = a
    · subst h; simp [List.isPrefixOf]
    · have h' : ¬ a = c := fun e => h e.symm
      simp [List.isPrefixOf, h, h']
theorem nd_append_stop (l r : List UInt8) (hr : ∀ c, r.head? = some c → isD c = false) : nd (l ++ r) = nd l := by
  unfold nd
  induction l with
  | nil =>
    rcases r with _ | ⟨c, r⟩
    · rfl
    · have := hr c rfl
      simp [this]
  | cons a l ih =>
    rw [List.cons_append, List.takeWhile_cons, List.takeWhile_cons]
    split
    · simpa using ih
    · rfl
theorem head_append {l r : List UInt8} (h : l ≠ []) : (l ++ r).head? = l.head? := by
  cases l with
  | nil => exact absurd rfl h
  | cons a t => rfl
theorem nd_head_digit {l : List UInt8} {c : UInt8} (h : l.head? = some c) (hc : isD c = false) : nd l = 0 := by
  cases l with
  | nil => cases h
  | cons a t =>
    obtain rfl : a = c := Option.some.inj h
    unfold nd; rw [List.takeWhile_cons, hc]; rfl
/-- a number in front of a byte that is no digit -/
theorem numS_stop (l r : List UInt8) (h0 : l ≠ []) (hr : ∀ c, r.head? = some c → isD c = false) : (numS (l ++ r)).1 = (numS l).1 ∧ (numS (l ++ r)).2.1 = (numS l).2.1 ∧ (numS (l ++ r)).2.2 = (numS l).2.2 ++ r := by
  have e1 : takeS (l ++ r) [45] = ((takeS l [45]).1, (takeS l [45]).2 ++ r) := by
    rw [takeS_one, takeS_one, head_append h0]
    split
    · cases l with
      | nil => exact absurd rfl h0
      | cons a t => rfl
    · rfl
  have e2 := nd_append_stop (takeS l [45]).2 r hr
  have hle := nd_le (takeS l [45]).2
  have e3 : ((takeS l [45]).2 ++ r).take (nd (takeS l [45]).2) = (takeS l [45]).2.take (nd (takeS l [45]).2) := List.take_append_of_le_length hle
  have e4 : ((takeS l [45]).2 ++ r).drop (nd (takeS l [45]).2) = (takeS l [45]).2.drop (nd (takeS l [45]).2) ++ r := List.drop_append_of_le_length hle
  have e5 : badD ((takeS l [45]).2 ++ r) (takeS l [45]).1 = badD (takeS l [45]).2 (takeS l [45]).1 := by
    unfold badD
    rw [e2]
    by_cases hn : nd (takeS l [45]).2 < 1
    · rw [Bool.eq_iff_iff, decide_eq_true_eq, decide_eq_true_eq]
      exact ⟨fun _ => .inl hn, fun _ => .inl hn⟩
    · have hne : (takeS l [45]).2 ≠ [] := fun e => hn (by rw [e]; decide)
      rw [head_append hne]
  unfold numS
  rw [e1]
  simp only
  rw [e5, e2, e3, e4]
  split <;> exact ⟨rfl, rfl, rfl⟩
/-- the bytes that a number takes: an optional hyphen and digits -/
theorem numS_rest (l : List UInt8) : ∃ p, l = p ++ (numS l).2.2 ∧ (∀ c ∈ p, c = 45 ∨ isD c = true) ∧ ∀ c, (numS l).2.2.head? = some c → isD c = false := by
  have hr : (numS l).2.2 = (takeS l [45]).2.drop (nd (takeS l [45]).2) := by unfold numS; split <;> rfl
  rw [hr]
  have hd := nd_in (takeS l [45]).2
  have he := nd_end (takeS l [45]).2
  have htd : ∀ c ∈ (takeS l [45]).2.take (nd (takeS l [45]).2), isD c = true := fun c hc => by
    obtain ⟨j, hj, rfl⟩ := List.mem_iff_getElem.1 hc
    rw [List.getElem_take]
    rw [List.length_take] at hj
    exact hd j (by omega) (by omega)
  have hstop : ∀ c, ((takeS l [45]).2.drop (nd (takeS l [45]).2)).head? = some c → isD c = false := fun c hc => by
    rw [List.head?_drop] at hc
    obtain ⟨hl, rfl⟩ := List.getElem?_eq_some_iff.1 hc
    exact he hl
  rw [takeS_one] at htd hstop ⊢
  by_cases h : l.head? = some 45
  · rw [if_pos h] at htd hstop ⊢
    refine ⟨45 :: l.tail.take (nd l.tail), ?_, ?_, hstop⟩
    · cases l with
      | nil => cases h
      | cons a t =>
        obtain rfl : a = 45 := Option.some.inj h
        show 45 :: t = 45 :: (t.take (nd t) ++ t.drop (nd t))
        rw [List.take_append_drop]
    · intro c hc
      rcases List.mem_cons.1 hc with rfl | hc
      · exact .inl rfl
      · exact .inr (htd c hc)
  · rw [if_neg h] at htd hstop ⊢
    exact ⟨l.take (nd l), (List.take_append_drop _ _).symm, fun c hc => .inr (htd c hc), hstop⟩
theorem takeWhile_no (c : UInt8) (l : List UInt8) : ∀ x ∈ l.takeWhile (· != c), x ≠ c := by
  induction l with
  | nil => intro x hx; cases hx
  | cons a t ih =>
    intro x hx
    rw [List.takeWhile_cons] at hx
    by_cases h : (a != c) = true
    · rw [if_pos h] at hx
      rcases List.mem_cons.1 hx with rfl | hx
      · simpa using h
      · exact ih x hx
    · rw [if_neg h] at hx; cases hx
theorem takeWhile_ne (c : UInt8) (l : List UInt8) (h : l.contains c = true) : l = l.takeWhile (· != c) ++ c :: (l.dropWhile (· != c)).drop 1 ∧ ∀ x ∈ l.takeWhile (· != c), x ≠ c := by
  refine ⟨?_, takeWhile_no c l⟩
  induction l with
  | nil => cases h
  | cons a t ih =>
    by_cases ha : a = c
    · subst ha; simp
    · have ha' : (a != c) = true := by simpa using ha
      have ht : t.contains c = true := by
        rw [List.contains_cons] at h
        have : (c == a) = false := beq_eq_false_iff_ne.2 (fun e => ha e.symm)
        rwa [this, Bool.false_or] at h
      rw [List.takeWhile_cons, if_pos ha', List.dropWhile_cons, if_pos ha', List.cons_append, ← ih ht]
theorem split58 (p r : List UInt8) (hp : ∀ c ∈ p, c ≠ 58) : (p ++ 58 :: r).contains 58 = true ∧ (p ++ 58 :: r).takeWhile (· != 58) = p ∧ ((p ++ 58 :: r).dropWhile (· != 58)).drop 1 = r := by
  refine ⟨by simp, ?_, ?_⟩
  · rw [List.takeWhile_append_of_pos (by intro c hc; simpa using hp c hc)]; simp
  · rw [List.dropWhile_append_of_pos (by intro c hc; simpa using hp c hc)]; simp
theorem pcs {p : List UInt8} (hp : ∀ c ∈ p, c = 45 ∨ isD c = true) : ∀ c ∈ p, c ≠ 58 := fun c hc e => by
  subst e
  rcases hp 58 hc with h | h
  · exact absurd h (by decide)
  · exact absurd h (by decide)
theorem rangeW_mid (s : List UInt8) (hs : s ≠ []) : rangeW (91 :: (s ++ [93])) = match (if s.contains 58 then (numW (s.takeWhile (· != 58)), numW ((s.dropWhile (· != 58)).drop 1)) else (numW s, numW s)) with
    | (some m, some n) => if bdB m && bdB n then (m, n, 0) else (0, 0, 2)
    | _ => (0, 0, 3) := by
  unfold rangeW
  have h1 : ¬ ((91 :: (s ++ [93])).length < 3 ∨ (91 :: (s ++ [93])).head? ≠ some 91 ∨ (91 :: (s ++ [93])).getLast? ≠ some 93) := by
    have : 0 < s.length := List.length_pos_iff.2 hs
    have e : (91 :: (s ++ [93])).getLast? = some 93 := by
      rw [show 91 :: (s ++ [93]) = (91 :: s) ++ [93] from rfl, List.getLast?_append]; rfl
    rw [e]
    simp
    omega
  rw [if_neg h1]
  have e : ((91 :: (s ++ [93])).drop 1).dropLast = s := by
    show (s ++ [93]).dropLast = s
    rw [List.dropLast_concat]
  rw [e]
theorem numS_nil : (numS []).2.1 = false := by decide
theorem numS_ok_ne {l : List UInt8} (h : (numS l).2.1 = true) : l ≠ [] := fun e => by rw [e, numS_nil] at h; cases h
theorem numW_some {l : List UInt8} (h1 : (numS l).2.1 = true) (h2 : (numS l).2.2 = []) : numW l = some (numS l).1 := by unfold numW; rw [if_pos ⟨h1, h2⟩]
theorem numW_inv {l : List UInt8} {m : Int} (h : numW l = some m) : (numS l).2.1 = true ∧ (numS l).2.2 = [] ∧ (numS l).1 = m := by
  unfold numW at h
  split at h
  · rename_i h'; exact ⟨h'.1, h'.2, Option.some.inj h⟩
  · cases h
/-- a number read whole, in front of a byte that is no digit -/
theorem numW_stop {l : List UInt8} {m : Int} (h : numW l = some m) (r : List UInt8) (hr : ∀ c, r.head? = some c → isD c = false) : numS (l ++ r) = (m, true, r) := by
  obtain ⟨h1, h2, h3⟩ := numW_inv h
  obtain ⟨e1, e2, e3⟩ := numS_stop l r (numS_ok_ne h1) hr
  rw [h2] at e3
  exact Prod.ext (e1.trans h3) (Prod.ext (e2.trans h1) e3)
theorem numS_split {l r : List UInt8} (h1 : (numS l).2.1 = true) (h2 : (numS l).2.2 = r) : ∃ p, l = p ++ r ∧ (∀ c ∈ p, c = 45 ∨ isD c = true) ∧ numW p = some (numS l).1 := by
  obtain ⟨p, e1, e2, e3⟩ := numS_rest l
  rw [h2] at e1 e3
  refine ⟨p, e1, e2, ?_⟩
  have hp : p ≠ [] := fun e => by
    subst e
    rw [List.nil_append] at e1
    rw [← e1] at e3 h2
    have hk : nd l = 0 := by
      cases l with
      | nil => rfl
      | cons a t => exact nd_head_digit rfl (e3 a rfl)
    cases l with
    | nil => rw [numS_nil] at h1; cases h1
    | cons a t =>
      unfold numS at h1
      rw [takeS_one] at h1
      by_cases h45 : (a :: t).head? = some 45
      · rw [if_pos h45] at h1
        obtain rfl : a = 45 := Option.some.inj h45
        unfold numS at h2
        rw [takeS_one, if_pos h45] at h2
        have hl := congrArg List.length h2
        split at hl <;> simp at hl <;> omega
      · rw [if_neg h45] at h1
        have hb : badD (a :: t) false = true := by unfold badD; rw [decide_eq_true_eq]; left; omega
        simp only [hb] at h1
        cases h1
  obtain ⟨f1, f2, f3⟩ := numS_stop p r hp e3
  rw [← e1] at f1 f2 f3
  have hz : (numS p).2.2 = [] := by
    rw [h2] at f3
    exact List.append_cancel_right (by rw [List.nil_append]; exact f3.symm)
  rw [numW_some (f2.symm.trans h1) hz, f1]
theorem stop93 : ∀ c, ([93] : List UInt8).head? = some c → isD c = false := by intro c h; cases h; decide
theorem stop58 (r : List UInt8) : ∀ c, (58 :: r : List UInt8).head? = some c → isD c = false := by intro c h; cases h; decide
/-- the program's Range is the reference's -/
theorem range_eq (l : List UInt8) : rangeS l = rangeW l := by
  by_cases hok : (!(takeS l [91]).1 || !(numS (takeS l [91]).2).2.1 || !(lsbS (numS (takeS l [91]).2).2.2 (numS (takeS l [91]).2).1).2.1 || !decide ((lsbS (numS (takeS l [91]).2).2.2 (numS (takeS l [91]).2).1).2.2 = [93])) = true
  · have hS : rangeS l = (0, 0, 3) := by unfold rangeS; rw [if_pos hok]
    rw [hS]
    symm
    unfold rangeW
    split
    · rfl
    · rename_i hc
      have h91 : l.head? = some 91 := by
        rcases Decidable.em (l.head? = some 91) with h | h
        · exact h
        · exact absurd (.inr (.inl h)) hc
      have h93 : l.getLast? = some 93 := by
        rcases Decidable.em (l.getLast? = some 93) with h | h
        · exact h
        · exact absurd (.inr (.inr h)) hc
      cases l with
      | nil => cases h91
      | cons a t =>
        obtain rfl : a = 91 := Option.some.inj h91
        have ht : t ≠ [] := fun e => by subst e; simp at hc
        obtain ⟨s, rfl⟩ : ∃ s, t = s ++ [93] := by
          refine ⟨t.dropLast, ?_⟩
          have e1 := List.dropLast_concat_getLast ht
          have e2 : t.getLast ht = 93 := by
            rw [List.getLast?_cons_of_ne_nil ht, List.getLast?_eq_some_getLast ht] at h93
            exact Option.some.inj h93
          rw [e2] at e1; exact e1.symm
        have e : ((91 :: (s ++ [93])).drop 1).dropLast = s := by
          show (s ++ [93]).dropLast = s
          rw [List.dropLast_concat]
        rw [e]
        have et : takeS (91 :: (s ++ [93])) [91] = (true, s ++ [93]) := by rw [takeS_one]; rfl
        rw [et] at hok
        simp only [Bool.not_true, Bool.false_or] at hok
        split
        · rename_i m n hmn
          exfalso
          by_cases h58 : s.contains 58 = true
          · rw [if_pos h58] at hmn
            obtain ⟨p, r, hs, hp⟩ : ∃ p r, s = p ++ 58 :: r ∧ ∀ c ∈ p, c ≠ 58 := ⟨_, _, (takeWhile_ne 58 s h58).1, (takeWhile_ne 58 s h58).2⟩
            obtain ⟨q1, q2, q3⟩ := split58 p r hp
            rw [← hs] at q1 q2 q3
            rw [q2, q3] at hmn
            have hm : numW p = some m := congrArg Prod.fst hmn
            have hn : numW r = some n := congrArg Prod.snd hmn
            have x1 := numW_stop hm (58 :: (r ++ [93])) (stop58 _)
            have x2 := numW_stop hn [93] stop93
            have hs2 : s ++ [93] = p ++ 58 :: (r ++ [93]) := by rw [hs]; simp
            have x3 : lsbS (58 :: (r ++ [93])) m = (n, true, [93]) := by
              unfold lsbS; rw [takeS_one]; exact x2
            rw [hs2, x1] at hok
            simp only [x3] at hok
            simp at hok
          · rw [if_neg h58] at hmn
            have hm : numW s = some m := congrArg Prod.fst hmn
            have x1 := numW_stop hm [93] stop93
            rw [x1] at hok
            have x3 : lsbS [93] m = (m, true, [93]) := by unfold lsbS; rw [takeS_one]; rfl
            simp only [x3] at hok
            simp at hok
        · rfl
  · have hS : rangeS l = if !bdB (numS (takeS l [91]).2).1 || !bdB (lsbS (numS (takeS l [91]).2).2.2 (numS (takeS l [91]).2).1).1 then (0, 0, 2) else ((numS (takeS l [91]).2).1, (lsbS (numS (takeS l [91]).2).2.2 (numS (takeS l [91]).2).1).1, 0) := by
      unfold rangeS; rw [if_neg hok]
    have hok2 : (takeS l [91]).1 = true ∧ (numS (takeS l [91]).2).2.1 = true ∧ (lsbS (numS (takeS l [91]).2).2.2 (numS (takeS l [91]).2).1).2.1 = true ∧ (lsbS (numS (takeS l [91]).2).2.2 (numS (takeS l [91]).2).1).2.2 = [93] := by
      simp only [Bool.or_eq_true, Bool.not_eq_true', decide_eq_false_iff_not, not_or, Bool.not_eq_false, Decidable.not_not] at hok
      exact ⟨hok.1.1.1, hok.1.1.2, hok.1.2, hok.2⟩
    obtain ⟨k1, k2, k3, k4⟩ := hok2
    rw [hS]
    by_cases h91 : l.head? = some 91
    · cases l with
      | nil => cases h91
      | cons a t =>
        obtain rfl : a = 91 := Option.some.inj h91
        have et : takeS (91 :: t) [91] = (true, t) := by rw [takeS_one]; rfl
        rw [et] at k2 k3 k4 ⊢
        obtain ⟨p, e1, e2, e3⟩ := numS_split k2 rfl
        clear hS hok k1
        obtain ⟨m, hm⟩ : ∃ m, (numS t).1 = m := ⟨_, rfl⟩
        obtain ⟨rr, hrr⟩ : ∃ rr, (numS t).2.2 = rr := ⟨_, rfl⟩
        rw [hm, hrr] at k3 k4 ⊢
        rw [hm] at e3
        rw [hrr] at e1
        have e1 : t = p ++ rr := e1
        unfold lsbS at k3 k4 ⊢
        rw [takeS_one] at k3 k4 ⊢
        by_cases h58 : rr.head? = some 58
        · rw [if_pos h58] at k3 k4 ⊢
          simp only [if_true] at k3 k4 ⊢
          obtain ⟨p2, f1, f2, f3⟩ := numS_split k3 k4
          have hrr2 : rr = 58 :: (p2 ++ [93]) := by
            cases rr with
            | nil => cases h58
            | cons b u =>
              obtain rfl : b = 58 := Option.some.inj h58
              rw [← f1]; rfl
          have ht : 91 :: t = 91 :: ((p ++ 58 :: p2) ++ [93]) := by rw [e1, hrr2]; simp
          obtain ⟨q1, q2, q3⟩ := split58 p p2 (pcs e2)
          rw [ht, rangeW_mid _ (by simp), q1, if_pos rfl, q2, q3, e3, f3]
          simp only
          cases bdB m <;> cases bdB (numS rr.tail).1 <;> rfl
        · rw [if_neg h58] at k3 k4 ⊢
          simp only [Bool.false_eq_true, if_false] at k3 k4 ⊢
          have ht : 91 :: t = 91 :: (p ++ [93]) := by rw [e1, k4]
          have hno : ¬ p.contains 58 = true := fun h => pcs e2 58 (by simpa using h) rfl
          have hpne : p ≠ [] := numS_ok_ne (numW_inv e3).1
          rw [ht, rangeW_mid p hpne, if_neg hno, e3]
          simp only
          cases bdB m <;> rfl
    · rw [takeS_one, if_neg h91] at k1
      cases k1
end Go.Proofs.Ytcjehiecgdmidaa
