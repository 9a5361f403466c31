/- Contracts of the reference's number and Range; Width of both. -/
import Derived.Test.YtcjehiecgdmidaaNmC
set_option linter.unusedVariables false
set_option linter.unusedSimpArgs false
namespace Go.Proofs.Ytcjehiecgdmidaa
open Go.RowKit Go.Shelf Go.Sort

def NumPost (o : Option Int) (B : Nat) (w : World) (e : Ending) (w' : World) : Prop := ∃ (v : Int) (ok : Bool), e = .returned (.tuple #[.int .i64 v, .bool ok]) ∧ (∀ m, o = some m → v = m ∧ ok = true) ∧ (o = none → ok = false) ∧ Below B w w'
theorem NumPost.no {B : Nat} {w w' : World} {v : Int} {o : Option Int} (h : o = none) (hb : Below B w w') : NumPost o B w (.returned (.tuple #[.int .i64 v, .bool false])) w' := ⟨v, false, rfl, (fun m hm => by rw [h] at hm; cases hm), (fun _ => rfl), hb⟩
theorem NumPost.yes {B : Nat} {w w' : World} {v : Int} {o : Option Int} (h : o = some v) (hb : Below B w w') : NumPost o B w (.returned (.tuple #[.int .i64 v, .bool true])) w' := ⟨v, true, rfl, (fun m hm => by rw [h] at hm; exact ⟨Option.some.inj hm, rfl⟩), (fun hn => by rw [h] at hn; cases hn), hb⟩
/-- numW, by what is left behind the sign -/
theorem numW_of (l : List UInt8) : numW l = if badD (takeS l [45]).2 (takeS l [45]).1 = false ∧ nd (takeS l [45]).2 = (takeS l [45]).2.length then some (if (takeS l [45]).1 then -((dv (takeS l [45]).2 : Nat) : Int) else ((dv (takeS l [45]).2 : Nat) : Int)) else none := by
  unfold numW numS
  generalize takeS l [45] = t
  obtain ⟨neg, l1⟩ := t
  simp only
  cases hb : badD l1 neg with
  | true => simp
  | false =>
    simp only [Bool.false_eq_true, if_false, true_and]
    have hle := nd_le l1
    by_cases hn : nd l1 = l1.length
    · rw [if_pos hn, if_pos (by rw [List.drop_eq_nil_iff]; omega), List.take_of_length_le (by omega)]
    · rw [if_neg hn, if_neg (by rw [List.drop_eq_nil_iff]; omega)]
theorem if_iff {α : Type} {p q : Prop} [Decidable p] [Decidable q] (h : p ↔ q) (a b : α) : (if p then a else b) = if q then a else b := by
  by_cases hp : p
  · rw [if_pos hp, if_pos (h.1 hp)]
  · rw [if_neg hp, if_neg (fun hq => hp (h.2 hq))]
theorem digits_head (l : List UInt8) (h : nd l = l.length) : ∀ j (hj : j < l.length), isD l[j] = true := fun j hj => nd_in l j hj (by omega)
/-- the reference's last test -/
theorem last_test (l : List UInt8) (neg : Bool) (hn : nd l = l.length) (h9 : l.length ≤ 9) : badD l neg = false ↔ (l ≠ [] ∧ l = Lib.decDigits (dv l) ∧ (0 < dv l ∨ neg = false)) := by
  unfold badD
  rw [decide_eq_false_iff_not]
  by_cases h0 : l = []
  · subst h0
    constructor
    · intro h; exact absurd (.inl (by decide)) h
    · intro h; exact absurd rfl h.1
  · have hp : 1 ≤ l.length := List.length_pos_iff.2 h0
    have hd := digits_head l hn
    have hi := dec_iff l hd hp
    have hh : l.head? = some (l[0]'(by omega)) := by rw [List.head?_eq_getElem?, List.getElem?_eq_getElem]
    rw [hi, hh]
    have hz : l[0]'(by omega) = 48 → l.length = 1 → dv l = 0 := by
      intro h1 h2
      obtain ⟨a, ha⟩ := List.length_eq_one_iff.1 h2
      have h3 : l.head? = some 48 := by rw [hh, h1]
      rw [ha] at h3 ⊢
      obtain rfl : a = 48 := Option.some.inj h3
      rfl
    have hpos : ¬ (l[0]'(by omega) = 48 ∧ 1 < l.length) → dv l = 0 → l[0]'(by omega) = 48 ∧ l.length = 1 := by
      intro h1 h2
      have he := hi.2 h1
      rw [h2, Lib.decDigits, dif_pos (by decide)] at he
      have h3 : l.length = 1 := by rw [he]; rfl
      have h4 : l.head? = some 48 := by rw [he]; rfl
      rw [hh] at h4
      exact ⟨Option.some.inj h4, h3⟩
    constructor
    · intro h
      refine ⟨h0, fun h' => h (.inr (.inr ⟨by rw [h'.1], .inl (by omega)⟩)), ?_⟩
      cases hneg : neg with
      | false => exact .inr rfl
      | true =>
        left
        rcases Nat.eq_zero_or_pos (dv l) with h1 | h1
        · obtain ⟨q1, q2⟩ := hpos (fun h' => h (.inr (.inr ⟨by rw [h'.1], .inl (by omega)⟩))) h1
          exact absurd (.inr (.inr ⟨by rw [q1], .inr hneg⟩)) h
        · exact h1
    · rintro ⟨_, h1, h2⟩ (h | h | ⟨h, h'⟩)
      · omega
      · omega
      · have q1 : l[0]'(by omega) = 48 := Option.some.inj h
        rcases h' with h' | h'
        · exact h1 ⟨q1, by omega⟩
        · have q2 : l.length = 1 := by
            rcases Nat.lt_or_ge 1 l.length with h3 | h3
            · exact absurd ⟨q1, h3⟩ h1
            · omega
          have := hz q1 q2
          rcases h2 with h2 | h2
          · omega
          · rw [h2] at h'; cases h'

end Go.Proofs.Ytcjehiecgdmidaa
