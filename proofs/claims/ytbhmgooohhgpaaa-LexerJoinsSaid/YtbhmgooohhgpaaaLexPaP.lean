/- Plain: the words of two texts with a line feed between. -/
import Derived.Test.YtbhmgooohhgpaaaLexLiW
namespace Go.Proofs.Ytbhmgooohhgpaaa.lexerParts
open Go.RowKit Go.Shelf

theorem getD_left (la r : List UInt8) (k : Nat) (h : k < la.length) : (la ++ r).getD k 0 = la.getD k 0 := by simp [List.getD, List.getElem?_append_left h]
theorem getD_right (la r : List UInt8) (k : Nat) : (la ++ r).getD (la.length + k) 0 = r.getD k 0 := by simp [List.getD, List.getElem?_append_right]

theorem scan_left (la r : List UInt8) (k : Nat) (h : k ≤ la.length) : scanW (la ++ r) k = scanW la k := by
  induction k with
  | zero => rfl
  | succ k ih => simp only [scanW, ih (by omega), getD_left la r k (by omega)]

def shift (n : Nat) (p : Nat × Nat) : Nat × Nat := (p.1 + n, p.2 + n)

theorem scan_right (la lb : List UInt8) (k : Nat) : scanW (la ++ 10 :: lb) (la.length + 1 + k) = ((scanW la la.length).1 ++ (scanW lb k).1.map (shift (la.length + 1)), (scanW lb k).2) := by
  have hg : ∀ k, (la ++ 10 :: lb).getD (la.length + 1 + k) 0 = lb.getD k 0 := by
    intro k
    have := getD_right la (10 :: lb) (1 + k)
    rw [show la.length + 1 + k = la.length + (1 + k) by omega, this, Nat.add_comm 1 k]
    rfl
  induction k with
  | zero =>
    have h10 : (la ++ 10 :: lb).getD la.length 0 = 10 := by simp
    rw [Nat.add_zero, scanW_white _ _ _ h10 rfl, scan_left la _ _ (Nat.le_refl _)]
    simp [scanW]
  | succ k ih =>
    rw [show la.length + 1 + (k + 1) = (la.length + 1 + k) + 1 by omega]
    cases hc : whiteB (lb.getD k 0).toNat with
    | true => rw [scanW_white _ _ _ (hg k) hc, scanW_white _ _ _ rfl hc, ih]
    | false =>
      cases hi : (scanW lb k).2 with
      | true =>
        obtain ⟨qs, o, e, ho⟩ := scanW_inside lb k hi
        have hi' : (scanW (la ++ 10 :: lb) (la.length + 1 + k)).2 = true := by rw [ih]; exact hi
        rw [scanW_more _ _ _ (hg k) hc hi', scanW_more _ _ _ rfl hc hi, ih, e]
        have e1 : ((scanW la la.length).1 ++ (qs ++ [(o, k)]).map (shift (la.length + 1))) = ((scanW la la.length).1 ++ qs.map (shift (la.length + 1))) ++ [shift (la.length + 1) (o, k)] := by simp
        simp only [e1, List.dropLast_concat, List.getLastD_concat]
        simp [shift]; omega
      | false =>
        have hi' : (scanW (la ++ 10 :: lb) (la.length + 1 + k)).2 = false := by rw [ih]; exact hi
        rw [scanW_new _ _ _ (hg k) hc hi', scanW_new _ _ _ rfl hc hi, ih]
        simp [shift]; omega

theorem pl_left (la r : List UInt8) (k : Nat) (h : k ≤ la.length) : pl (la ++ r) k = pl la k := by
  unfold pl; rw [List.take_append_of_le_length h]
theorem pl_right (la lb : List UInt8) (k : Nat) (h : k ≤ lb.length) : (pl (la ++ 10 :: lb) (la.length + 1 + k)).2.1 = (pl la la.length).2.1 + (pl lb k).2.1 ∧ (pl (la ++ 10 :: lb) (la.length + 1 + k)).2.2 = (pl lb k).2.2 := by
  induction k with
  | zero =>
    have hl : la.length < (la ++ 10 :: lb).length := by simp
    rw [Nat.add_zero, pl_succ _ _ hl, pl_left la _ _ (Nat.le_refl _)]
    simp [plStep, nextLine, nextCol, pl_zero]
  | succ k ih =>
    obtain ⟨i1, i2⟩ := ih (by omega)
    have hl : la.length + 1 + k < (la ++ 10 :: lb).length := by simp; omega
    have hb : (la ++ 10 :: lb)[la.length + 1 + k]'hl = lb[k]'(by omega) := by
      rw [List.getElem_append_right (by omega)]
      simp only [show la.length + 1 + k - la.length = k + 1 by omega, List.getElem_cons_succ]
    rw [show la.length + 1 + (k + 1) = (la.length + 1 + k) + 1 by omega, pl_succ _ _ hl, pl_succ _ _ (by omega), hb]
    simp only [plStep, nextLine, nextCol, i1, i2]
    by_cases hc : ((lb[k]'(by omega)).toNat : Int) = 10
    · rw [if_pos hc, if_pos hc]; exact ⟨by omega, trivial⟩
    · rw [if_neg hc, if_neg hc]; exact ⟨rfl, trivial⟩

/-- the two texts with a line feed between -/
def glue (a b : ByteArray) : ByteArray := a ++ ⟨#[10]⟩ ++ b
theorem glue_list (a b : ByteArray) : (glue a b).data.toList = a.data.toList ++ 10 :: b.data.toList := by
  simp [glue, ByteArray.data_append]
theorem glue_size (a b : ByteArray) : (glue a b).size = a.size + 1 + b.size := by
  rw [Lib.size_eq, glue_list, Lib.size_eq, Lib.size_eq]; simp; omega

theorem words_glue (a b : ByteArray) : wordsOf (glue a b) = wordsOf a ++ (wordsOf b).map (shift (a.size + 1)) := by
  unfold wordsOf
  rw [glue_size, glue_list]
  have e : a.size = a.data.toList.length := Lib.size_eq a
  have := scan_right a.data.toList b.data.toList b.size
  rw [← e] at this
  rw [this]

theorem extract_ext (s t : ByteArray) (h : s.data.toList = t.data.toList) : s = t := ByteArray.ext (Array.toList_inj.1 h)
theorem glue_extract_left (a b : ByteArray) (o e : Nat) (h : e ≤ a.size) : (glue a b).extract o e = a.extract o e := by
  apply extract_ext
  rw [Lib.extract_data, Lib.extract_data, glue_list]
  have hz := Lib.size_eq a
  rcases Nat.lt_or_ge o e with h1 | h1
  · rw [List.drop_append_of_le_length (by omega), List.take_append_of_le_length (by simp; omega)]
  · rw [show e - o = 0 by omega]; simp
theorem glue_extract_right (a b : ByteArray) (o e : Nat) : (glue a b).extract (o + (a.size + 1)) (e + (a.size + 1)) = b.extract o e := by
  apply extract_ext
  rw [Lib.extract_data, Lib.extract_data, glue_list, show e + (a.size + 1) - (o + (a.size + 1)) = e - o by omega]
  congr 1
  rw [List.drop_append, Lib.size_eq, List.drop_eq_nil_of_le (by omega), List.nil_append, show o + (a.data.toList.length + 1) - a.data.toList.length = o + 1 by omega]
  rfl

def sh (n L : Int) (x : Wd) : Wd := (x.1, x.2.1 + n, x.2.2.1 + L, x.2.2.2)
def lineOf (a : ByteArray) : Int := (pl a.data.toList a.size).2.1
theorem wd_glue (a b : ByteArray) : (wordsOf (glue a b)).map (wd (glue a b)) = (wordsOf a).map (wd a) ++ ((wordsOf b).map (wd b)).map (sh ((a.size : Int) + 1) (lineOf a)) := by
  rw [words_glue, List.map_append, List.map_map, List.map_map]
  have ha : a.size = a.data.toList.length := Lib.size_eq a
  congr 1
  · apply List.map_congr_left
    intro p hp
    have := lexerLines.scanW_bd a.data.toList a.size p hp
    unfold wd
    rw [glue_extract_left a b _ _ this.2, glue_list, pl_left _ _ _ (by omega)]
  · apply List.map_congr_left
    intro p hp
    have hb := lexerLines.scanW_bd b.data.toList b.size p hp
    have hbl : b.size = b.data.toList.length := Lib.size_eq b
    simp only [Function.comp, wd, shift, sh, lineOf]
    rw [glue_extract_right, glue_list]
    obtain ⟨p1, p2⟩ := pl_right a.data.toList b.data.toList p.1 (by omega)
    rw [← ha, Nat.add_comm (a.size + 1) p.1] at p1 p2
    rw [p1, p2]
    simp [Int.add_comm]
theorem wd_bounds (b : ByteArray) (x : Wd) (h : x ∈ (wordsOf b).map (wd b)) : 0 ≤ x.2.1 ∧ x.2.1 ≤ b.size ∧ 1 ≤ x.2.2.1 ∧ x.2.2.1 ≤ b.size + 1 := by
  obtain ⟨p, hp, rfl⟩ := List.mem_map.1 h
  have hb := lexerLines.scanW_bd b.data.toList b.size p hp
  have hbl : b.size = b.data.toList.length := Lib.size_eq b
  obtain ⟨_, h2, h3, _, _⟩ := pl_bd b.data.toList p.1 (by omega)
  simp only [wd]
  omega
end Go.Proofs.Ytbhmgooohhgpaaa.lexerParts
