/- Plain: where the words of a text stand, and what is between them. -/
import Derived.Test.YtbhmgooohhgpaaaDoorLexO
import Derived.Lib.SlTrimSet
import Derived.Lib.IndexAny
set_option linter.unusedVariables false
namespace Go.Proofs.YtbhmgooohhgpaaaDoor.lexerWords
open Go.RowKit Go.Shelf

def endOf (ps : List (Nat × Nat)) : Nat := (ps.getLast?.map (·.2)).getD 0
def atOf (ps : List (Nat × Nat)) (i : Nat) : Nat := endOf (ps.take i)
theorem endOf_nil : endOf [] = 0 := rfl
theorem endOf_snoc (qs : List (Nat × Nat)) (p : Nat × Nat) : endOf (qs ++ [p]) = p.2 := by simp [endOf]
theorem atOf_zero (ps : List (Nat × Nat)) : atOf ps 0 = 0 := rfl
theorem atOf_succ (ps : List (Nat × Nat)) (i : Nat) (h : i < ps.length) : atOf ps (i + 1) = ps[i].2 := by
  unfold atOf; rw [List.take_succ_eq_append_getElem h, endOf_snoc]
theorem atOf_left (qs : List (Nat × Nat)) (p : Nat × Nat) (i : Nat) (h : i ≤ qs.length) : atOf (qs ++ [p]) i = atOf qs i := by
  unfold atOf; rw [List.take_append_of_le_length h]
theorem atOf_all (ps : List (Nat × Nat)) : atOf ps ps.length = endOf ps := by unfold atOf; rw [List.take_length]

/-- a word at (o, e), the last one having ended at a -/
structure WordAt (l : List UInt8) (a i o e : Nat) : Prop where
  le : a ≤ o
  lt : 0 < i → a < o
  ne : o < e
  gap : ∀ j, a ≤ j → j < o → whiteB (l.getD j 0).toNat = true
  word : ∀ j, o ≤ j → j < e → whiteB (l.getD j 0).toNat = false
structure Inv (l : List UInt8) (k : Nat) (ps : List (Nat × Nat)) (ins : Bool) : Prop where
  each : ∀ i (h : i < ps.length), WordAt l (atOf ps i) i ps[i].1 ps[i].2 ∧ ps[i].2 ≤ k
  yes : ins = true → 0 < ps.length ∧ endOf ps = k
  le : endOf ps ≤ k
  no : ins = false → (0 < ps.length → endOf ps < k) ∧ ∀ j, endOf ps ≤ j → j < k → whiteB (l.getD j 0).toNat = true

theorem inv (l : List UInt8) : ∀ k, Inv l k (scanW l k).1 (scanW l k).2 := by
  intro k
  induction k with
  | zero => exact ⟨fun i h => absurd h (by simp [scanW]), (fun h => by simp [scanW] at h), by simp [scanW, endOf], fun _ => ⟨fun h => absurd h (by simp [scanW]), fun j _ h => absurd h (by omega)⟩⟩
  | succ k ih =>
    cases hc : whiteB (l.getD k 0).toNat with
    | true =>
      have e := scanW_white l k _ rfl hc
      rw [e]
      refine ⟨fun i h => ⟨(ih.each i h).1, Nat.le_succ_of_le (ih.each i h).2⟩, (fun h => by cases h), Nat.le_succ_of_le ih.le, fun _ => ⟨fun _ => Nat.lt_succ_of_le ih.le, fun j h1 h2 => ?_⟩⟩
      cases hi : (scanW l k).2 with
      | true =>
        have := (ih.yes hi).2
        obtain rfl : j = k := by simp only at h1; omega
        exact hc
      | false =>
        rcases Nat.lt_or_ge j k with h | h
        · exact (ih.no hi).2 j h1 h
        · obtain rfl : j = k := by omega
          exact hc
    | false =>
      cases hi : (scanW l k).2 with
      | true =>
        have e := scanW_more l k _ rfl hc hi
        obtain ⟨qs, o, hq, ho⟩ := scanW_inside l k hi
        rw [hq] at e ih
        have e' : scanW l (k + 1) = (qs ++ [(o, k + 1)], true) := by rw [e]; simp
        rw [e']
        have hlast := ih.each qs.length (by simp)
        rw [List.getElem_append_right (Nat.le_refl _), atOf_left _ _ _ (Nat.le_refl _)] at hlast
        simp only [Nat.sub_self, List.getElem_cons_zero] at hlast
        refine ⟨fun i h => ?_, fun _ => ⟨by simp, endOf_snoc _ _⟩, by rw [endOf_snoc]; exact Nat.le_refl _, (fun h => by cases h)⟩
        rcases Nat.lt_or_ge i qs.length with h1 | h1
        · have := ih.each i (by simp; omega)
          rw [List.getElem_append_left h1, atOf_left _ _ _ (Nat.le_of_lt h1)] at this ⊢
          exact ⟨this.1, Nat.le_succ_of_le this.2⟩
        · obtain rfl : i = qs.length := by simp at h; omega
          rw [List.getElem_append_right (Nat.le_refl _), atOf_left _ _ _ (Nat.le_refl _)]
          simp only [Nat.sub_self, List.getElem_cons_zero]
          refine ⟨⟨hlast.1.le, hlast.1.lt, Nat.lt_succ_of_lt ho, hlast.1.gap, fun j h1 h2 => ?_⟩, Nat.le_refl _⟩
          rcases Nat.lt_or_ge j k with h3 | h3
          · exact hlast.1.word j h1 h3
          · obtain rfl : j = k := by omega
            exact hc
      | false =>
        have e := scanW_new l k _ rfl hc hi
        rw [e]
        have hno := ih.no hi
        refine ⟨fun i h => ?_, fun _ => ⟨by simp, endOf_snoc _ _⟩, by rw [endOf_snoc]; exact Nat.le_refl _, (fun h => by cases h)⟩
        rcases Nat.lt_or_ge i (scanW l k).1.length with h1 | h1
        · have := ih.each i h1
          rw [List.getElem_append_left h1, atOf_left _ _ _ (Nat.le_of_lt h1)]
          exact ⟨this.1, Nat.le_succ_of_le this.2⟩
        · obtain rfl : i = (scanW l k).1.length := by simp at h; omega
          rw [List.getElem_append_right (Nat.le_refl _), atOf_left _ _ _ (Nat.le_refl _), atOf_all]
          simp only [Nat.sub_self, List.getElem_cons_zero]
          refine ⟨⟨ih.le, hno.1, Nat.lt_succ_self _, hno.2, fun j h1 h2 => ?_⟩, Nat.le_refl _⟩
          obtain rfl : j = k := by omega
          exact hc

def cutset : List UInt8 := [32, 9, 10, 11, 12, 13]
theorem contains_white (c : UInt8) : cutset.contains c = whiteB c.toNat := by
  rw [Bool.eq_iff_iff]
  simp only [cutset, List.contains_eq_mem, List.mem_cons, List.not_mem_nil, or_false, decide_eq_true_eq, whiteB]
  constructor
  · rintro (rfl | rfl | rfl | rfl | rfl | rfl) <;> decide
  · intro h
    have : c.toNat = 32 ∨ c.toNat = 9 ∨ c.toNat = 10 ∨ c.toNat = 11 ∨ c.toNat = 12 ∨ c.toNat = 13 := by omega
    rcases this with h | h | h | h | h | h
    · exact .inl (UInt8.toNat_inj.1 h)
    · exact .inr (.inl (UInt8.toNat_inj.1 h))
    · exact .inr (.inr (.inl (UInt8.toNat_inj.1 h)))
    · exact .inr (.inr (.inr (.inl (UInt8.toNat_inj.1 h))))
    · exact .inr (.inr (.inr (.inr (.inl (UInt8.toNat_inj.1 h)))))
    · exact .inr (.inr (.inr (.inr (.inr (UInt8.toNat_inj.1 h)))))
theorem dropWhile_all (l : List UInt8) (h : ∀ c ∈ l, cutset.contains c = true) : l.dropWhile (cutset.contains ·) = [] := by
  induction l with
  | nil => rfl
  | cons b l ih =>
    rw [List.dropWhile_cons_of_pos (by exact h b (by simp))]
    exact ih (fun c hc => h c (by simp [hc]))
theorem trim_all (l : List UInt8) (h : ∀ c ∈ l, whiteB c.toNat = true) : Lib.trimS l cutset = [] := by
  unfold Lib.trimS Lib.trimRightS
  rw [dropWhile_all _ (fun c hc => by rw [contains_white]; exact h c (List.mem_reverse.1 hc))]
  rfl
theorem indexAny_no (l : List UInt8) (h : ∀ c ∈ l, whiteB c.toNat = false) : Lib.indexAny l cutset = -1 := by
  induction l with
  | nil => rfl
  | cons b l ih =>
    unfold Lib.indexAny
    rw [contains_white, h b (by simp), ih (fun c hc => h c (by simp [hc]))]
    rfl
theorem containsAny_no (l : List UInt8) (h : ∀ c ∈ l, whiteB c.toNat = false) : Lib.containsAny l cutset = false := by
  unfold Lib.containsAny; rw [indexAny_no l h]; rfl
theorem mem_cut (l : List UInt8) (a b : Nat) (hb : b ≤ l.length) (c : UInt8) (h : c ∈ (l.drop a).take (b - a)) : ∃ j, a ≤ j ∧ j < b ∧ l.getD j 0 = c := by
  obtain ⟨i, hi, rfl⟩ := List.mem_iff_getElem.1 h
  simp only [List.length_take, List.length_drop] at hi
  refine ⟨a + i, by omega, by omega, ?_⟩
  rw [List.getElem_take, List.getElem_drop, List.getD_eq_getElem?_getD, List.getElem?_eq_getElem (by omega)]; rfl

/-- what the law asks of a word of s -/
structure Fair (s : ByteArray) (a i o e : Nat) : Prop where
  le : a ≤ o
  lt : 0 < i → a < o
  ne : o < e
  top : e ≤ s.size
  has : Lib.containsAny (s.extract o e).data.toList cutset = false
  trim : Lib.trimS (s.extract a o).data.toList cutset = []
theorem fair (s : ByteArray) (i : Nat) (h : i < (wordsOf s).length) : Fair s (atOf (wordsOf s) i) i (wordsOf s)[i].1 (wordsOf s)[i].2 := by
  have hz := Lib.size_eq s
  have I := inv s.data.toList s.size
  obtain ⟨E, hE⟩ := I.each i h
  refine ⟨E.le, E.lt, E.ne, hE, containsAny_no _ fun c hc => ?_, trim_all _ fun c hc => ?_⟩
  · rw [Lib.extract_data] at hc
    obtain ⟨j, h1, h2, rfl⟩ := mem_cut _ _ _ (by have : (wordsOf s)[i].2 ≤ s.size := hE; omega) c hc
    exact E.word j h1 h2
  · rw [Lib.extract_data] at hc
    obtain ⟨j, h1, h2, rfl⟩ := mem_cut _ _ _ (by have : (wordsOf s)[i].2 ≤ s.size := hE; have := E.ne; show (wordsOf s)[i].1 ≤ _; have : (wordsOf s)[i].1 < (wordsOf s)[i].2 := E.ne; omega) c hc
    exact E.gap j h1 h2
theorem fair_end (s : ByteArray) : endOf (wordsOf s) ≤ s.size ∧ Lib.trimS (s.extract (endOf (wordsOf s)) s.size).data.toList cutset = [] := by
  have hz := Lib.size_eq s
  have I := inv s.data.toList s.size
  refine ⟨I.le, trim_all _ fun c hc => ?_⟩
  rw [Lib.extract_data] at hc
  obtain ⟨j, h1, h2, rfl⟩ := mem_cut _ _ _ (by omega) c hc
  cases hi : (scanW s.data.toList s.size).2 with
  | true =>
    have h3 : endOf (wordsOf s) = s.size := (I.yes hi).2
    omega
  | false => exact (I.no hi).2 j h1 h2
end Go.Proofs.YtbhmgooohhgpaaaDoor.lexerWords
