/- Plain: white space and words put one behind the other: their words. -/
import Derived.Test.YtbhmgooohhgpaaaLexPaP
namespace Go.Proofs.Ytbhmgooohhgpaaa.lexerJoins
open Go.RowKit Go.Shelf

def scanAll (l : List UInt8) : List (Nat × Nat) × Bool := scanW l l.length
theorem scanAll_step (l : List UInt8) (c : UInt8) : scanW (l ++ [c]) l.length = scanAll l := lexerParts.scan_left l [c] l.length (Nat.le_refl _)
theorem getD_end (l : List UInt8) (c : UInt8) : (l ++ [c]).getD l.length 0 = c := by simp [List.getD]
theorem all_white (l : List UInt8) (c : UInt8) (h : whiteB c.toNat = true) : scanAll (l ++ [c]) = ((scanAll l).1, false) := by
  unfold scanAll
  rw [List.length_append, List.length_singleton, scanW_white _ _ c (getD_end l c) h, scanAll_step]; rfl
theorem all_new (l : List UInt8) (c : UInt8) (h : whiteB c.toNat = false) (hi : (scanAll l).2 = false) : scanAll (l ++ [c]) = ((scanAll l).1 ++ [(l.length, l.length + 1)], true) := by
  have hi' : (scanW (l ++ [c]) l.length).2 = false := by rw [scanAll_step]; exact hi
  unfold scanAll
  rw [List.length_append, List.length_singleton, scanW_new _ _ c (getD_end l c) h hi', scanAll_step]; rfl
theorem all_more (l : List UInt8) (c : UInt8) (qs : List (Nat × Nat)) (o e : Nat) (h : whiteB c.toNat = false) (hs : scanAll l = (qs ++ [(o, e)], true)) : scanAll (l ++ [c]) = (qs ++ [(o, l.length + 1)], true) := by
  have hi' : (scanW (l ++ [c]) l.length).2 = true := by rw [scanAll_step, hs]
  unfold scanAll
  rw [List.length_append, List.length_singleton, scanW_more _ _ c (getD_end l c) h hi', scanAll_step, hs]
  simp

theorem scan_spaces (sp : List UInt8) (hsp : ∀ c ∈ sp, whiteB c.toNat = true) : ∀ l : List UInt8, sp ≠ [] → scanAll (l ++ sp) = ((scanAll l).1, false) := by
  induction sp with
  | nil => intro l h; exact absurd rfl h
  | cons c sp ih =>
    intro l _
    have hc := hsp c (by simp)
    rw [show l ++ c :: sp = (l ++ [c]) ++ sp by simp]
    by_cases h : sp = []
    · subst h; rw [List.append_nil]; exact all_white l c hc
    · rw [ih (fun x hx => hsp x (by simp [hx])) (l ++ [c]) h, all_white l c hc]
theorem scan_rest (w : List UInt8) (hw : ∀ c ∈ w, whiteB c.toNat = false) : ∀ (l : List UInt8) (qs : List (Nat × Nat)) (o : Nat), scanAll l = (qs ++ [(o, l.length)], true) → scanAll (l ++ w) = (qs ++ [(o, l.length + w.length)], true) := by
  induction w with
  | nil => intro l qs o h; simpa using h
  | cons c w ih =>
    intro l qs o h
    rw [show l ++ c :: w = (l ++ [c]) ++ w by simp, ih (fun x hx => hw x (by simp [hx])) (l ++ [c]) qs o (by rw [all_more l c qs o _ (hw c (by simp)) h]; simp)]
    simp; omega
theorem scan_word (w : List UInt8) (hw : ∀ c ∈ w, whiteB c.toNat = false) (hne : w ≠ []) (l : List UInt8) (hi : (scanAll l).2 = false) : scanAll (l ++ w) = ((scanAll l).1 ++ [(l.length, l.length + w.length)], true) := by
  cases w with
  | nil => exact absurd rfl hne
  | cons c w =>
    rw [show l ++ c :: w = (l ++ [c]) ++ w by simp, scan_rest w (fun x hx => hw x (by simp [hx])) (l ++ [c]) (scanAll l).1 l.length (by rw [all_new l c (hw c (by simp)) hi]; simp)]
    simp; omega

/-- the text of a list of (white space, word) -/
def textOf : List (List UInt8 × List UInt8) → List UInt8
  | [] => []
  | p :: ps => p.1 ++ p.2 ++ textOf ps
theorem textOf_snoc (ps : List (List UInt8 × List UInt8)) (p : List UInt8 × List UInt8) : textOf (ps ++ [p]) = textOf ps ++ (p.1 ++ p.2) := by
  induction ps with
  | nil => simp [textOf]
  | cons q ps ih => simp [textOf, ih]
def cut (l : List UInt8) (p : Nat × Nat) : List UInt8 := (l.drop p.1).take (p.2 - p.1)
def Fine (p : List UInt8 × List UInt8) : Prop := p.1 ≠ [] ∧ (∀ c ∈ p.1, whiteB c.toNat = true) ∧ p.2 ≠ [] ∧ (∀ c ∈ p.2, whiteB c.toNat = false)
theorem cut_left (l r : List UInt8) (p : Nat × Nat) (h : p.2 ≤ l.length) : cut (l ++ r) p = cut l p := by
  unfold cut
  rcases Nat.lt_or_ge p.1 p.2 with h1 | h1
  · rw [List.drop_append_of_le_length (by omega), List.take_append_of_le_length (by simp; omega)]
  · rw [show p.2 - p.1 = 0 by omega]; simp
theorem words_textOf (ps : List (List UInt8 × List UInt8)) (h : ∀ p ∈ ps, Fine p) :
    (scanAll (textOf ps)).1.map (cut (textOf ps)) = ps.map (·.2) := by
  have key : ∀ n, n ≤ ps.length → (scanAll (textOf (ps.take n))).1.map (cut (textOf (ps.take n))) = (ps.take n).map (·.2) := by
    intro n
    induction n with
    | zero => intro _; simp [textOf, scanAll, scanW]
    | succ n ih =>
      intro hn
      have hlt : n < ps.length := by omega
      obtain ⟨f1, f2, f3, f4⟩ := h ps[n] (List.getElem_mem _)
      have ih' := ih (by omega)
      rw [List.take_succ_eq_append_getElem hlt, textOf_snoc]
      generalize hl : textOf (ps.take n) = l at ih' ⊢
      have e1 := scan_spaces ps[n].1 f2 l f1
      have e2 := scan_word ps[n].2 f4 f3 (l ++ ps[n].1) (by rw [e1])
      rw [← List.append_assoc, e2, e1, List.map_append, List.map_append, ← ih']
      congr 1
      · apply List.map_congr_left
        intro p hp
        have := (lexerLines.scanW_bd l l.length p hp).2
        rw [List.append_assoc]
        exact cut_left l _ p this
      · simp only [List.map_cons, List.map_nil, cut]
        rw [List.drop_left, show (l ++ ps[n].1).length + ps[n].2.length - (l ++ ps[n].1).length = ps[n].2.length by omega, List.take_length]
  have := key ps.length (Nat.le_refl _)
  rwa [List.take_length] at this
end Go.Proofs.Ytbhmgooohhgpaaa.lexerJoins
