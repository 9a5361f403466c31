/- Plain: the words of a text, as pairs (begin, end), and their cells. -/
import Derived.Test.YtbhmgooohhgpaaaDoorLexD
namespace Go.Proofs.YtbhmgooohhgpaaaDoor
open Go.RowKit Go.Shelf

/-- after the first k bytes: the words so far (the last one perhaps still growing), and whether the last byte was one of a word -/
def scanW (l : List UInt8) : Nat → List (Nat × Nat) × Bool
  | 0 => ([], false)
  | k + 1 =>
    let p := scanW l k
    if whiteB (l.getD k 0).toNat then (p.1, false)
    else if p.2 then (p.1.dropLast ++ [((p.1.getLastD (0, 0)).1, k + 1)], true)
    else (p.1 ++ [(k, k + 1)], true)

theorem scanW_white (l : List UInt8) (k : Nat) (c : UInt8) (h : l.getD k 0 = c) (hc : whiteB c.toNat = true) : scanW l (k + 1) = ((scanW l k).1, false) := by
  simp only [scanW, h, hc, if_true]
theorem scanW_more (l : List UInt8) (k : Nat) (c : UInt8) (h : l.getD k 0 = c) (hc : whiteB c.toNat = false) (hi : (scanW l k).2 = true) :
    scanW l (k + 1) = ((scanW l k).1.dropLast ++ [(((scanW l k).1.getLastD (0, 0)).1, k + 1)], true) := by
  simp only [scanW, h, hc, hi, if_true, Bool.false_eq_true, if_false]
theorem scanW_new (l : List UInt8) (k : Nat) (c : UInt8) (h : l.getD k 0 = c) (hc : whiteB c.toNat = false) (hi : (scanW l k).2 = false) :
    scanW l (k + 1) = ((scanW l k).1 ++ [(k, k + 1)], true) := by
  simp only [scanW, h, hc, hi, Bool.false_eq_true, if_false]

/-- inside a word: there is a last one; it ends here -/
theorem scanW_inside (l : List UInt8) (k : Nat) (h : (scanW l k).2 = true) : ∃ qs o, (scanW l k).1 = qs ++ [(o, k)] ∧ o < k := by
  induction k with
  | zero => cases h
  | succ k ih =>
    cases hc : whiteB (l.getD k 0).toNat with
    | true => rw [scanW_white l k _ rfl hc] at h; cases h
    | false =>
      cases hi : (scanW l k).2 with
      | true =>
        obtain ⟨qs, o, e, ho⟩ := ih hi
        rw [scanW_more l k _ rfl hc hi, e]
        exact ⟨qs, o, by simp, by omega⟩
      | false =>
        rw [scanW_new l k _ rfl hc hi]
        exact ⟨_, k, rfl, by omega⟩
theorem scanW_len (l : List UInt8) (k : Nat) : (scanW l k).1.length ≤ k := by
  induction k with
  | zero => simp [scanW]
  | succ k ih =>
    cases hc : whiteB (l.getD k 0).toNat with
    | true => rw [scanW_white l k _ rfl hc]; simp; omega
    | false =>
      cases hi : (scanW l k).2 with
      | true =>
        obtain ⟨qs, o, e, ho⟩ := scanW_inside l k hi
        rw [scanW_more l k _ rfl hc hi, e]; rw [e] at ih; simp at ih ⊢; omega
      | false => rw [scanW_new l k _ rfl hc hi]; simp; omega

/-- the cells of a word -/
def wc (s : ByteArray) (p : Nat × Nat) : List Value := [.string (s.extract p.1 p.2), .int .i64 p.1, .int .i64 (pl s.data.toList p.1).2.1, .int .i64 (pl s.data.toList p.1).2.2]
def wcs (s : ByteArray) (ps : List (Nat × Nat)) : List Value := ps.flatMap (wc s)
theorem wcs_length (s : ByteArray) (ps : List (Nat × Nat)) : (wcs s ps).length = ps.length * 4 := by
  unfold wcs
  induction ps with
  | nil => rfl
  | cons p ps ih => simp [List.flatMap_cons, wc, ih]; omega
theorem wcs_snoc (s : ByteArray) (ps : List (Nat × Nat)) (p : Nat × Nat) : wcs s (ps ++ [p]) = wcs s ps ++ wc s p := by simp [wcs]
theorem wcs_get (s : ByteArray) (qs : List (Nat × Nat)) (p : Nat × Nat) (j : Nat) (hj : j < 4) : (wcs s (qs ++ [p]))[qs.length * 4 + j]? = (wc s p)[j]? := by
  rw [wcs_snoc, List.getElem?_append_right (by rw [wcs_length]; omega), wcs_length]
  congr 1; omega
theorem wcs_set (s : ByteArray) (qs : List (Nat × Nat)) (o e k : Nat) : (wcs s (qs ++ [(o, e)])).set (qs.length * 4) (.string (s.extract o k)) = wcs s (qs ++ [(o, k)]) := by
  rw [wcs_snoc, wcs_snoc, List.set_append_right _ _ (by rw [wcs_length]; omega), wcs_length]
  simp [wc]
theorem wcs_one (s : ByteArray) (ps : List (Nat × Nat)) : ∀ u ∈ wcs s ps, u.oneCell' = true := by
  intro u hu
  unfold wcs at hu
  obtain ⟨p, _, hp⟩ := List.mem_flatMap.1 hu
  simp only [wc, List.mem_cons, List.not_mem_nil, or_false] at hp
  rcases hp with rfl | rfl | rfl | rfl <;> rfl
theorem wcs_end (s : ByteArray) (ws : List (Nat × Nat)) (l : List Value) (j : Nat) : (wcs s ws ++ l)[ws.length * 4 + j]? = l[j]? := by
  rw [List.getElem?_append_right (by rw [wcs_length]; omega), wcs_length]
  congr 1; omega
theorem wcs_fresh (s : ByteArray) (ws : List (Nat × Nat)) (k : Nat) : (wcs s ws ++ [Value.string ⟨#[]⟩, Value.int .i64 k, Value.int .i64 (pl s.data.toList k).2.1, Value.int .i64 (pl s.data.toList k).2.2]).set (ws.length * 4) (.string (s.extract k (k + 1))) = wcs s (ws ++ [(k, k + 1)]) := by
  rw [wcs_snoc, List.set_append_right _ _ (by rw [wcs_length]; omega), wcs_length]
  simp [wc]
/-- the words of a text -/
def wordsOf (s : ByteArray) : List (Nat × Nat) := (scanW s.data.toList s.size).1
end Go.Proofs.YtbhmgooohhgpaaaDoor
