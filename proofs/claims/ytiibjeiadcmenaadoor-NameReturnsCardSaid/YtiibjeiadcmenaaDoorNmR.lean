/- Plain laws for NameReturns: ranges and references come back from their texts. -/
import Derived.Test.YtiibjeiadcmenaaDoorNmG
import Derived.Lib.CountLaws
import Derived.Lib.IndexLaws
import Derived.Lib.SplitLaws
import Derived.Lib.ReplaceLaws
set_option linter.unusedVariables false
set_option linter.unusedSimpArgs false
namespace Go.Proofs.YtiibjeiadcmenaaDoor
open Go.RowKit Go.Shelf Go.Sort

theorem dec_good (k : Nat) (neg : Bool) (hk : k < 10 ^ 5) (hn : neg = true → 1 ≤ k) : badD (Lib.decDigits k) neg = false ∧ nd (Lib.decDigits k) = (Lib.decDigits k).length := by
  obtain ⟨h1, h2, h3, h4⟩ := dec_all k
  have hnd : nd (Lib.decDigits k) = (Lib.decDigits k).length := by
    have := nd_app (Lib.decDigits k) [] h1 (by intro c hc; cases hc)
    rwa [List.append_nil] at this
  refine ⟨?_, hnd⟩
  unfold badD
  rw [hnd]
  refine decide_eq_false ?_
  rintro (h | h | ⟨h, h'⟩)
  · omega
  · have := h4 5 (by decide) hk; omega
  · rcases Nat.eq_zero_or_pos k with rfl | hp
    · have e0 : (Lib.decDigits 0).length = 1 := by rw [Lib.decDigits, dif_pos (by decide)]; rfl
      rw [e0] at h'
      rcases h' with h' | h'
      · exact absurd h' (by decide)
      · have := hn h'; omega
    · have := dec_head k hp (by omega)
      rw [List.head?_eq_getElem?, List.getElem?_eq_getElem (by omega)] at h
      exact this (Option.some.inj h)
theorem dec_hd (k : Nat) : (Lib.decDigits k).head? ≠ some 45 := by
  obtain ⟨h1, h2, h3, h4⟩ := dec_all k
  intro h
  have := h1 45 (List.mem_of_mem_head? h)
  exact absurd this (by decide)
theorem decB_list (m : Int) : (decB m).data.toList = Lib.itoa m := by unfold decB; simp
theorem numS_dec (m : Int) (h : bdB m = true) : numS (decB m).data.toList = (m, true, []) := by
  obtain ⟨b1, b2⟩ := bdB_bd h
  rw [decB_list]
  rcases Int.lt_or_le m 0 with hneg | hpos
  · obtain ⟨k, rfl⟩ : ∃ k : Nat, m = -(k : Int) := ⟨m.natAbs, by omega⟩
    rw [Lib.itoa_neg k (by omega)]
    obtain ⟨g1, g2⟩ := dec_good k true (by omega) (fun _ => by omega)
    have ht : takeS (45 :: Lib.decDigits k) [45] = (true, Lib.decDigits k) := by rw [takeS_one]; rfl
    unfold numS
    simp only [ht, g1, g2, List.take_length, List.drop_length, (dec_all k).2.1, Bool.false_eq_true, if_false, if_true]
  · obtain ⟨k, rfl⟩ : ∃ k : Nat, m = (k : Int) := ⟨m.natAbs, by omega⟩
    rw [Lib.itoa_nonneg]
    obtain ⟨g1, g2⟩ := dec_good k false (by omega) (fun h => by cases h)
    have ht : takeS (Lib.decDigits k) [45] = (false, Lib.decDigits k) := by rw [takeS_one, if_neg (dec_hd k)]
    unfold numS
    simp only [ht, g1, g2, List.take_length, List.drop_length, (dec_all k).2.1, Bool.false_eq_true, if_false, if_true]
theorem numW_dec (m : Int) (h : bdB m = true) : numW (decB m).data.toList = some m := by
  unfold numW
  rw [numS_dec m h]
  rw [if_pos ⟨rfl, rfl⟩]
theorem dec_chars (m : Int) : ∀ c ∈ (decB m).data.toList, c = 45 ∨ isD c = true := by
  intro c hc
  rw [decB_list] at hc
  unfold Lib.itoa at hc
  split at hc
  · rcases List.mem_cons.1 hc with h | h
    · exact .inl h
    · exact .inr ((dec_all _).1 c h)
  · exact .inr ((dec_all _).1 c hc)
theorem dec_ne (m : Int) (h : bdB m = true) : (decB m).data.toList ≠ [] := fun e => by
  have := numS_dec m h
  rw [e] at this
  have h2 := congrArg (fun p => p.2.1) this
  simp only at h2
  rw [numS_nil] at h2
  cases h2
theorem bytes_app (a b : ByteArray) : (a ++ b).data.toList = a.data.toList ++ b.data.toList := by simp
theorem fmtR_one (m : Int) (h : bdB m = true) : (fmtR m m).data.toList = 91 :: ((decB m).data.toList ++ [93]) := by
  unfold fmtR
  rw [h, Bool.and_true, if_pos rfl, if_pos rfl, bytes_app, bytes_app]
  rfl
theorem fmtR_two (m n : Int) (h : bdB m = true) (h' : bdB n = true) (hne : m ≠ n) : (fmtR m n).data.toList = 91 :: (((decB m).data.toList ++ 58 :: (decB n).data.toList) ++ [93]) := by
  unfold fmtR
  rw [h, h', Bool.and_true, if_pos rfl, if_neg hne, bytes_app, bytes_app, bytes_app, bytes_app]
  show ([91] ++ (decB m).data.toList ++ [58] ++ (decB n).data.toList) ++ [93] = _
  simp
/-- what FormatRange writes, Range reads -/
theorem range_back (m n : Int) (h : fmtR m n ≠ ⟨#[]⟩) : rangeS (fmtR m n).data.toList = (m, n, 0) := by
  have hb : bdB m = true ∧ bdB n = true := by
    unfold fmtR at h
    split at h
    · rename_i hc; exact ⟨(Bool.and_eq_true _ _ ▸ hc).1, (Bool.and_eq_true _ _ ▸ hc).2⟩
    · exact absurd rfl h
  obtain ⟨hm, hn⟩ := hb
  rw [range_eq]
  by_cases hne : m = n
  · subst hne
    rw [fmtR_one m hm, rangeW_mid _ (dec_ne m hm)]
    have hc : (decB m).data.toList.contains 58 = false := by
      cases hcc : (decB m).data.toList.contains 58 with
      | false => rfl
      | true => exact absurd rfl (pcs (dec_chars m) 58 (by simpa using hcc))
    rw [hc, if_neg Bool.false_ne_true, numW_dec m hm]
    simp only [hm, Bool.and_true, if_true]
  · rw [fmtR_two m n hm hn hne, rangeW_mid _ (by simp)]
    obtain ⟨s1, s2, s3⟩ := split58 (decB m).data.toList (decB n).data.toList (pcs (dec_chars m))
    rw [s1, if_pos rfl, s2, s3, numW_dec m hm, numW_dec n hn]
    simp only [hm, hn, Bool.and_true, if_true]
theorem fmtR_empty (m n : Int) : fmtR m n = ⟨#[]⟩ ↔ widthS m n = 0 := by
  by_cases hb : (bdB m && bdB n) = true
  · obtain ⟨hm, hn⟩ := Bool.and_eq_true _ _ ▸ hb
    have h1 : fmtR m n ≠ ⟨#[]⟩ := fun e => by
      by_cases hne : m = n
      · subst hne; have := fmtR_one m hm; rw [e] at this; cases this
      · have := fmtR_two m n hm hn hne; rw [e] at this; cases this
    refine ⟨fun h => absurd h h1, fun h => ?_⟩
    exfalso
    unfold widthS at h
    rw [if_pos hb] at h
    split at h <;> omega
  · constructor
    · intro _; unfold widthS; rw [if_neg hb]
    · intro _; unfold fmtR; rw [if_neg hb]
theorem fmtR_head (m n : Int) (h : fmtR m n ≠ ⟨#[]⟩) : (fmtR m n).data.toList.head? = some 91 := by
  by_cases hb : (bdB m && bdB n) = true
  · obtain ⟨hm, hn⟩ := Bool.and_eq_true _ _ ▸ hb
    by_cases hne : m = n
    · subst hne; rw [fmtR_one m hm]; rfl
    · rw [fmtR_two m n hm hn hne]; rfl
  · exact absurd (by unfold fmtR; rw [if_neg hb]) h
/-- neither names nor ranges have blanks -/
theorem name_noblank {l : List UInt8} (h : vN l = true) : ∀ c ∈ l, c ≠ 32 := fun c hc e => by
  have := List.all_eq_true.1 (vN_pr h) c hc
  rw [e] at this
  exact absurd this (by decide)
theorem fmtR_noblank (m n : Int) : ∀ c ∈ (fmtR m n).data.toList, c ≠ 32 := by
  have hd : ∀ (k : Int), ∀ c ∈ (decB k).data.toList, c ≠ 32 := fun k c hc e => by
    rcases dec_chars k c hc with h | h
    · rw [e] at h; exact absurd h (by decide)
    · rw [e] at h; exact absurd h (by decide)
  by_cases hb : (bdB m && bdB n) = true
  · obtain ⟨hm, hn⟩ := Bool.and_eq_true _ _ ▸ hb
    intro c hc e
    subst e
    by_cases hne : m = n
    · subst hne
      rw [fmtR_one m hm] at hc
      simp only [List.mem_cons, List.mem_append, List.not_mem_nil, or_false] at hc
      rcases hc with hc | hc | hc
      · exact absurd hc (by decide)
      · exact hd _ _ hc rfl
      · exact absurd hc (by decide)
    · rw [fmtR_two m n hm hn hne] at hc
      simp only [List.mem_cons, List.mem_append, List.not_mem_nil, or_false] at hc
      rcases hc with hc | (hc | hc | hc) | hc
      · exact absurd hc (by decide)
      · exact hd _ _ hc rfl
      · exact absurd hc (by decide)
      · exact hd _ _ hc rfl
      · exact absurd hc (by decide)
  · have : fmtR m n = ⟨#[]⟩ := by unfold fmtR; rw [if_neg hb]
    rw [this]
    intro c hc; cases hc
theorem index_no (c : UInt8) : ∀ l : List UInt8, (∀ x ∈ l, x ≠ c) → Lib.indexByte l c = -1 := by
  intro l
  induction l with
  | nil => intro _; rfl
  | cons a t ih =>
    intro h
    have h1 : (a == c) = false := by simpa using h a (List.mem_cons_self ..)
    have h2 := ih (fun x hx => h x (List.mem_cons_of_mem _ hx))
    unfold Lib.indexByte
    rw [h1, h2]; rfl
theorem index_at (c : UInt8) (r : List UInt8) : ∀ l : List UInt8, (∀ x ∈ l, x ≠ c) → Lib.indexByte (l ++ c :: r) c = (l.length : Nat) := by
  intro l
  induction l with
  | nil => intro _; show (if (c == c) = true then (0 : Int) else _) = 0; rw [if_pos (by simp)]
  | cons a t ih =>
    intro h
    have h1 : (a == c) = false := by simpa using h a (List.mem_cons_self ..)
    have h2 := ih (fun x hx => h x (List.mem_cons_of_mem _ hx))
    show (if (a == c) = true then (0 : Int) else if (Lib.indexByte (t ++ c :: r) c == -1) = true then -1 else Lib.indexByte (t ++ c :: r) c + 1) = _
    rw [h1, h2, if_neg Bool.false_ne_true, if_neg (by simp)]
    simp
def blank : ByteArray := ⟨#[32]⟩
theorem indexB_no (s : ByteArray) (h : ∀ x ∈ s.data.toList, x ≠ 32) : Lib.indexB s blank = -1 := by
  show Lib.index s.data.toList [32] = -1
  rw [Lib.index_one]; exact index_no 32 _ h
theorem indexB_at (a b : ByteArray) (h : ∀ x ∈ a.data.toList, x ≠ 32) : Lib.indexB (a ++ blank ++ b) blank = (a.size : Nat) := by
  show Lib.index (a ++ blank ++ b).data.toList [32] = _
  rw [Lib.index_one, bytes_app, bytes_app, List.append_assoc]
  show Lib.indexByte (a.data.toList ++ 32 :: b.data.toList) 32 = _
  rw [index_at 32 _ _ h, size_list]
theorem rest_of (a b : ByteArray) : (a ++ blank ++ b).extract (a.size + 1) (a ++ blank ++ b).size = b := by
  apply Go.WideShapes.bytes_inj
  rw [Lib.extract_to_end, bytes_app, bytes_app, ← size_list a, List.append_assoc]
  show List.drop (a.data.toList.length + 1) (a.data.toList ++ 32 :: b.data.toList) = _
  rw [← List.drop_drop, List.drop_left]; rfl
theorem first_of (a b : ByteArray) : (a ++ blank ++ b).extract 0 a.size = a := by
  apply Go.WideShapes.bytes_inj
  rw [Lib.extract_from_zero, bytes_app, bytes_app, ← size_list a, List.append_assoc]
  exact List.take_left
/-- the parts of a text between its blanks, and the text without them -/
theorem split_none (s : ByteArray) (h : ∀ x ∈ s.data.toList, x ≠ 32) : Lib.countB s blank = 0 ∧ Lib.splitB blank 0 (Lib.countB s blank) s = [s] ∧ Lib.replaceAll s.data.toList [32] [] = s.data.toList := by
  have hi := indexB_no s h
  have hc := Lib.countB_miss s blank hi
  refine ⟨hc, by rw [hc]; rfl, ?_⟩
  have hc' : Lib.count s.data.toList [32] = 0 := hc
  unfold Lib.replaceAll Lib.replace
  show (if (([32] : List UInt8) == []) = true then s.data.toList else Lib.replaceK [32] [] (Lib.replaceNum s.data.toList [32] (-1)) s.data.toList) = _
  rw [if_neg (by decide)]
  unfold Lib.replaceNum
  rw [hc', if_pos (.inl (by decide))]
  rfl
theorem split_two (a b : ByteArray) (ha : ∀ x ∈ a.data.toList, x ≠ 32) (hb : ∀ x ∈ b.data.toList, x ≠ 32) : Lib.countB (a ++ blank ++ b) blank = 1 ∧ Lib.splitB blank 0 (Lib.countB (a ++ blank ++ b) blank) (a ++ blank ++ b) = [a, b] ∧ Lib.replaceAll (a ++ blank ++ b).data.toList [32] [] = a.data.toList ++ b.data.toList := by
  have hi := indexB_at a b ha
  have hc : Lib.countB (a ++ blank ++ b) blank = 1 := by
    rw [Lib.countB_hit _ blank a.size (by decide) hi]
    show 1 + Lib.countB ((a ++ blank ++ b).extract (a.size + 1) _) blank = 1
    rw [rest_of, Lib.countB_miss b blank (indexB_no b hb)]
  refine ⟨hc, ?_, ?_⟩
  · rw [hc, show (1 : Nat) = 0 + 1 from rfl, Lib.splitB_hit blank 0 0 _ a.size hi]
    show (a ++ blank ++ b).extract 0 (a.size + 0) :: [(a ++ blank ++ b).extract (a.size + 1) _] = _
    rw [rest_of, Nat.add_zero, first_of]
  · have hc' : Lib.count (a ++ blank ++ b).data.toList [32] = 1 := hc
    have hi' : Lib.index (a ++ blank ++ b).data.toList [32] = (a.size : Nat) := hi
    unfold Lib.replaceAll Lib.replace
    show (if (([32] : List UInt8) == []) = true then (a ++ blank ++ b).data.toList else Lib.replaceK [32] [] (Lib.replaceNum (a ++ blank ++ b).data.toList [32] (-1)) (a ++ blank ++ b).data.toList) = _
    rw [if_neg (by decide)]
    unfold Lib.replaceNum
    rw [hc', if_pos (.inl (by decide)), Lib.replaceK_hit [32] [] 0 _ a.size hi']
    have e1 := congrArg (fun x : ByteArray => x.data.toList) (rest_of a b)
    have e2 := congrArg (fun x : ByteArray => x.data.toList) (first_of a b)
    simp only [Lib.extract_to_end, Lib.extract_from_zero] at e1 e2
    show List.take a.size _ ++ [] ++ Lib.replaceK [32] [] 0 (List.drop (a.size + 1) _) = _
    rw [e1, e2, List.append_nil]; rfl
/-- a plain name has no bracket -/
theorem brk_plain {s : ByteArray} (h : vN s.data.toList = true) : brk s = none := by
  unfold brk
  by_cases hh : s.data.toList.head? = some 92
  · rw [if_neg (fun e => e.2 hh)]
  · rw [if_neg]
    rintro ⟨e, _⟩
    have hno : ∀ x ∈ s.data.toList, x ≠ 91 := fun x hx e => by
      rw [vN_plain hh, Bool.and_eq_true, Bool.and_eq_true, Bool.and_eq_true] at h
      have := List.all_eq_true.1 h.2.2.2 x hx
      rw [e] at this
      exact absurd this (by decide)
    rw [← indexByte_idxI, index_no 91 _ hno] at e
    exact absurd e (by decide)
theorem ref_one {s : ByteArray} (h : vN s.data.toList = true) : refS [s] = (s, false, 0, 0, 0) := by
  have hp : partsS [s] = some (s, ⟨#[]⟩, false) := by
    show (match brk s with | some k => some (s.extract 0 k, s.extract k s.size, true) | none => some (s, ⟨#[]⟩, false)) = _
    rw [brk_plain h]
  unfold refS
  rw [hp]
  show refP _ = _
  unfold refP
  rw [if_pos h, if_neg Bool.false_ne_true]
theorem ref_two {s : ByteArray} (m n : Int) (h : vN s.data.toList = true) (hr : fmtR m n ≠ ⟨#[]⟩) : refS [s, fmtR m n] = (s, true, m, n, 0) := by
  unfold refS partsS refP
  simp only [h, if_true, range_back m n hr]
theorem ref_join {s : ByteArray} (m n : Int) (h : vN s.data.toList = true) (he : escN s.data.toList = false) (hr : fmtR m n ≠ ⟨#[]⟩) : refS [⟨(s.data.toList ++ (fmtR m n).data.toList).toArray⟩] = (s, true, m, n, 0) := by
  have hh : s.data.toList.head? ≠ some 92 := fun e => by
    rw [escN_iff.2 ⟨e, h⟩] at he; cases he
  have hne : s.data.toList ≠ [] := fun e => by have := (vN_len h).1; rw [e] at this; simp at this
  have hno : ∀ x ∈ s.data.toList, x ≠ 91 := fun x hx e => by
    rw [vN_plain hh, Bool.and_eq_true, Bool.and_eq_true, Bool.and_eq_true] at h
    have := List.all_eq_true.1 h.2.2.2 x hx
    rw [e] at this
    exact absurd this (by decide)
  obtain ⟨t, ht⟩ : ∃ t, (fmtR m n).data.toList = 91 :: t := by
    have := fmtR_head m n hr
    cases hl : (fmtR m n).data.toList with
    | nil => rw [hl] at this; cases this
    | cons a t => rw [hl] at this; exact ⟨t, by rw [Option.some.inj this]⟩
  have hi : idxI 91 (s.data.toList ++ (fmtR m n).data.toList) = (s.data.toList.length : Nat) := by
    rw [← indexByte_idxI, ht, index_at 91 t _ hno]
  have hj : (⟨(s.data.toList ++ (fmtR m n).data.toList).toArray⟩ : ByteArray).data.toList = s.data.toList ++ (fmtR m n).data.toList := by simp
  have hb : brk ⟨(s.data.toList ++ (fmtR m n).data.toList).toArray⟩ = some s.size := by
    unfold brk
    rw [hj, hi, if_pos ⟨by omega, by rw [head_append hne]; exact hh⟩, ← size_list]; rfl
  have e1 : (⟨(s.data.toList ++ (fmtR m n).data.toList).toArray⟩ : ByteArray).extract 0 s.size = s := by
    apply Go.WideShapes.bytes_inj
    rw [Lib.extract_from_zero, hj, ← size_list, List.take_left]
  have e2 : (⟨(s.data.toList ++ (fmtR m n).data.toList).toArray⟩ : ByteArray).extract s.size (⟨(s.data.toList ++ (fmtR m n).data.toList).toArray⟩ : ByteArray).size = fmtR m n := by
    apply Go.WideShapes.bytes_inj
    rw [Lib.extract_to_end, hj, ← size_list, List.drop_left]
  obtain ⟨J, hJ⟩ : ∃ J, (⟨(s.data.toList ++ (fmtR m n).data.toList).toArray⟩ : ByteArray) = J := ⟨_, rfl⟩
  rw [hJ] at hb e1 e2 ⊢
  have hp : partsS [J] = some (s, fmtR m n, true) := by
    show (match brk J with | some k => some (J.extract 0 k, J.extract k J.size, true) | none => some (J, ⟨#[]⟩, false)) = _
    rw [hb]
    show some (J.extract 0 s.size, J.extract s.size J.size, true) = _
    rw [e1, e2]
  unfold refS
  rw [hp]
  show refP _ = _
  unfold refP
  simp only [h, if_true, range_back m n hr]
/-- what the law compares with -/
theorem fmtRef_cases (s : ByteArray) (rg : Bool) (m n : Int) :
    (fmtRef s rg m n = ⟨#[]⟩ ∧ (vN s.data.toList = false ∨ (rg = true ∧ widthS m n = 0))) ∨
    (vN s.data.toList = true ∧ rg = false ∧ fmtRef s rg m n = s) ∨ (vN s.data.toList = true ∧ rg = true ∧ fmtR m n ≠ ⟨#[]⟩ ∧ fmtRef s rg m n = s ++ blank ++ fmtR m n) := by
  unfold fmtRef
  cases hv : vN s.data.toList with
  | false => left; exact ⟨by simp, .inl rfl⟩
  | true =>
    cases rg with
    | false => right; left; exact ⟨rfl, rfl, by simp⟩
    | true =>
      by_cases hr : fmtR m n = ⟨#[]⟩
      · left
        refine ⟨by simp [hr], .inr ⟨rfl, (fmtR_empty m n).1 hr⟩⟩
      · right; right
        refine ⟨rfl, rfl, hr, ?_⟩
        rw [if_pos rfl, if_pos rfl, if_neg hr]; rfl
end Go.Proofs.YtiibjeiadcmenaaDoor
