/- Plain laws for the walk of set: texts as lists of bytes, cells of an item changed one by one, the body of a set step by step. -/
import Derived.Test.YtcjehiecgdmidaaPtF
import Derived.Test.YtcjehiecgdmidaaNmQ
import Derived.Lib.IndexBytes
import Derived.WideShapes
set_option linter.unusedVariables false
set_option linter.unusedSimpArgs false
namespace Go.Proofs.Ytcjehiecgdmidaa
open Go.RowKit Go.Shelf

def bsP (l : List UInt8) : ByteArray := ⟨l.toArray⟩
theorem bsP_list (l : List UInt8) : (bsP l).data.toList = l := rfl
theorem bsP_of (s : ByteArray) : s = bsP s.data.toList := rfl
theorem bsP_size (l : List UInt8) : (bsP l).size = l.length := by rw [Lib.size_eq, bsP_list]
theorem bsP_get (l : List UInt8) (i : Nat) (h : i < (bsP l).size) : (bsP l)[i]'h = l[i]'(by rw [← bsP_size]; exact h) := by
  have := Lib.data_getElem? (bsP l) i h
  rw [bsP_list, List.getElem?_eq_getElem (by rw [← bsP_size]; exact h)] at this
  exact (Option.some.inj this).symm
theorem bsP_drop (l : List UInt8) (k : Nat) : (bsP l).extract k (bsP l).size = bsP (l.drop k) := by
  apply Go.WideShapes.bytes_inj
  rw [Lib.extract_to_end, bsP_list, bsP_list]
theorem bsP_ne {l : List UInt8} (h : l ≠ []) : (bsP l).toList ≠ [] ∧ (bsP l).toList.isEmpty = false := by
  have e : (bsP l).toList = l := by rw [Lib.toList_data]; rfl
  rw [e]
  exact ⟨h, by rw [Bool.eq_false_iff]; intro h2; exact h (List.isEmpty_iff.1 h2)⟩
theorem bsP_no : (bsP []).toList = [] ∧ (bsP []).toList.isEmpty = true := by
  have e : (bsP []).toList = [] := by rw [Lib.toList_data]; rfl
  rw [e]; exact ⟨rfl, rfl⟩

theorem setF_fuel : ∀ (n m : Nat) (b : List UInt8) (f : UInt8 → Bool), b.length ≤ n → b.length ≤ m → setF n b f = setF m b f
  | 0, m, b, f, hn, _ => by
    have hb : b = [] := List.length_eq_zero_iff.1 (by omega)
    subst hb
    cases m <;> rfl
  | n + 1, 0, b, f, _, hm => by
    have hb : b = [] := List.length_eq_zero_iff.1 (by omega)
    subst hb; rfl
  | n + 1, m + 1, b, f, hn, hm => by
    unfold setF
    by_cases hb : b = []
    · rw [if_pos hb, if_pos hb]
    · rw [if_neg hb, if_neg hb]
      have h1 : 1 ≤ stepB b := by unfold stepB; split <;> omega
      rw [setF_fuel n m _ _ (by rw [List.length_drop]; omega) (by rw [List.length_drop]; omega)]
theorem setF_nil (f : UInt8 → Bool) : setF ([] : List UInt8).length [] f = some f := rfl
theorem setF_step (b : List UInt8) (f : UInt8 → Bool) (hb : b ≠ []) : setF b.length b f = if goodB b then setF (b.drop (stepB b)).length (b.drop (stepB b)) (fun c => f c || decide ((b.headD 0).toNat ≤ c.toNat ∧ c.toNat ≤ (hiB b).toNat)) else none := by
  obtain ⟨n, hn⟩ : ∃ n, b.length = n + 1 := ⟨b.length - 1, by have := List.length_pos_iff.2 hb; omega⟩
  have h1 : 1 ≤ stepB b := by unfold stepB; split <;> omega
  rw [hn]
  conv => lhs; unfold setF
  rw [if_neg hb, setF_fuel n (b.drop (stepB b)).length _ _ (by rw [List.length_drop]; omega) (Nat.le_refl _)]
theorem itL_upd (x : It) (k : Nat) (v : Bool) (hk : k < 256) : (itL x).set (1 + k) (.bool v) = itL ⟨x.star, fun c => if c.toNat = k then v else x.set c, x.plain, x.self⟩ := by
  apply List.ext_getElem?
  intro j
  rw [List.getElem?_set, itL_get, itL_get, itL_len]
  by_cases h2 : 1 + k = j
  · subst h2
    rw [if_pos rfl, if_pos (by omega), if_neg (by omega), if_pos (by omega)]
    show _ = some (Value.bool (if (UInt8.ofNat (1 + k - 1)).toNat = k then v else _))
    rw [UInt8.toNat_ofNat', Nat.mod_eq_of_lt (by omega), if_pos (by omega)]
  · rw [if_neg h2]
    by_cases h3 : j = 0
    · rw [if_pos h3, if_pos h3]
    · rw [if_neg h3, if_neg h3]
      by_cases h4 : j < 257
      · rw [if_pos h4, if_pos h4]
        show some (Value.bool (x.set (UInt8.ofNat (j - 1)))) = some (Value.bool (if (UInt8.ofNat (j - 1)).toNat = k then v else x.set (UInt8.ofNat (j - 1))))
        rw [UInt8.toNat_ofNat', Nat.mod_eq_of_lt (by omega), if_neg (by omega)]
      · rw [if_neg h4, if_neg h4]
/-- an item that is a set -/
def setIt (f : UInt8 → Bool) : It := ⟨false, f, false, 0⟩
theorem setIt_no : setIt (fun _ => false) = noIt := rfl
theorem setIt_one (f : UInt8 → Bool) (a k : Nat) (hk : k < 256) (ha : a ≤ k) : (itL (setIt fun c => f c || decide (a ≤ c.toNat ∧ c.toNat < k))).set (1 + k) (.bool true) = itL (setIt fun c => f c || decide (a ≤ c.toNat ∧ c.toNat < k + 1)) := by
  rw [itL_upd _ _ _ hk]
  unfold setIt
  congr 2
  funext c
  by_cases h : c.toNat = k
  · rw [if_pos h, decide_eq_true (by omega), Bool.or_true]
  · rw [if_neg h]
    show (f c || decide _) = (f c || decide _)
    congr 1
    rw [decide_eq_decide]; omega
/-- the first k bytes turned -/
def turnF (f : UInt8 → Bool) (k : Nat) (c : UInt8) : Bool := if c.toNat < k then !f c else f c
theorem turnF_0 (f : UInt8 → Bool) : turnF f 0 = f := by
  funext c; unfold turnF; rw [if_neg (Nat.not_lt_zero _)]
theorem turnF_all (f : UInt8 → Bool) : turnF f 256 = fun c => !f c := by
  funext c; unfold turnF; rw [if_pos c.toNat_lt]
theorem turn_get (f : UInt8 → Bool) (k : Nat) (hk : k < 256) : (itL (setIt (turnF f k)))[1 + k]? = some (.bool (f (UInt8.ofNat k))) := by
  rw [itL_get, if_neg (by omega), if_pos (by omega), show 1 + k - 1 = k by omega]
  show some (Value.bool (if (UInt8.ofNat k).toNat < k then !f (UInt8.ofNat k) else f (UInt8.ofNat k))) = _
  rw [UInt8.toNat_ofNat', Nat.mod_eq_of_lt (by omega), if_neg (Nat.lt_irrefl _)]
theorem turn_one (f : UInt8 → Bool) (k : Nat) (hk : k < 256) : (itL (setIt (turnF f k))).set (1 + k) (.bool (!f (UInt8.ofNat k))) = itL (setIt (turnF f (k + 1))) := by
  rw [itL_upd _ _ _ hk]
  unfold setIt
  congr 2
  funext c
  unfold turnF
  by_cases h : c.toNat = k
  · rw [if_pos h, if_pos (by omega), ← h, UInt8.ofNat_toNat]
  · rw [if_neg h]
    show (if c.toNat < k then _ else _) = _
    by_cases h2 : c.toNat < k
    · rw [if_pos h2, if_pos (by omega)]
    · rw [if_neg h2, if_neg (by omega)]
theorem takeNe {c : UInt8} : ∀ (l : List UInt8), ∀ x ∈ l.takeWhile (· != c), x ≠ c
  | [], x, h => by cases h
  | a :: t, x, h => by
    by_cases ha : (a != c) = true
    · rw [show List.takeWhile (fun x => x != c) (a :: t) = a :: List.takeWhile (fun x => x != c) t by rw [List.takeWhile_cons, if_pos ha]] at h
      rcases List.mem_cons.1 h with rfl | h
      · simpa using ha
      · exact takeNe t x h
    · rw [show List.takeWhile (fun x => x != c) (a :: t) = [] by rw [List.takeWhile_cons, if_neg ha]] at h; cases h
theorem cut_mem {c : UInt8} : ∀ (l : List UInt8), c ∈ l → l = l.takeWhile (· != c) ++ ([c] ++ l.drop ((l.takeWhile (· != c)).length + 1))
  | [], h => by cases h
  | a :: t, h => by
    by_cases ha : (a != c) = true
    · rw [show List.takeWhile (fun x => x != c) (a :: t) = a :: List.takeWhile (fun x => x != c) t by rw [List.takeWhile_cons, if_pos ha]]
      have h2 : c ∈ t := by
        rcases List.mem_cons.1 h with rfl | h
        · simp at ha
        · exact h
      show a :: t = a :: _
      congr 1
      exact cut_mem t h2
    · rw [show List.takeWhile (fun x => x != c) (a :: t) = [] by rw [List.takeWhile_cons, if_neg ha]]
      have : a = c := by simpa using ha
      subst this; rfl
theorem cutB_eq (c : UInt8) (l : List UInt8) : cutB c l = if (Lib.cut l [c]).2.2 then some ((Lib.cut l [c]).1, (Lib.cut l [c]).2.1) else none := by
  unfold cutB
  by_cases h : c ∈ l
  · rw [if_pos h]
    have e := cut_mem l h
    have h2 := cut_at [c] c [] rfl (l.takeWhile (· != c)) (l.drop ((l.takeWhile (· != c)).length + 1)) (takeNe l)
    rw [← e] at h2
    rw [h2]; rfl
  · rw [if_neg h, cut_no [c] c [] rfl l (fun x hx e => h (e ▸ hx))]; rfl
theorem trim_one (c : UInt8) (l : List UInt8) : Lib.hasPrefix l [c] = decide (l.head? = some c) ∧ Lib.trimPrefix l [c] = if decide (l.head? = some c) then l.tail else l := by
  unfold Lib.trimPrefix Lib.hasPrefix
  cases l with
  | nil => exact ⟨rfl, rfl⟩
  | cons a t =>
    by_cases h : c = a
    · subst h; simp [List.isPrefixOf]
    · have h' : ¬ a = c := fun e => h e.symm
      simp [List.isPrefixOf, h, h']
theorem setV_eq (l : List UInt8) : setV l = if (Lib.cut (Lib.trimPrefix l [33]) [93]).2.2 = false ∨ (Lib.cut (Lib.trimPrefix l [33]) [93]).1 = [] then none else
    (setF (Lib.cut (Lib.trimPrefix l [33]) [93]).1.length (Lib.cut (Lib.trimPrefix l [33]) [93]).1 fun _ => false).map fun f => (setIt (if Lib.hasPrefix l [33] then fun c => !f c else f), (Lib.cut (Lib.trimPrefix l [33]) [93]).2.1) := by
  unfold setV
  simp only
  rw [← (trim_one 33 l).2, ← (trim_one 33 l).1, cutB_eq]
  generalize Lib.cut (Lib.trimPrefix l [33]) [93] = c
  obtain ⟨a, b, ok⟩ := c
  simp only
  cases ok with
  | false => rw [if_neg Bool.false_ne_true, if_pos (.inl rfl)]; rfl
  | true =>
    rw [if_pos rfl]
    simp only [Option.bind_some]
    by_cases h : a = []
    · rw [if_pos h, if_pos (.inr h)]
    · rw [if_neg h, if_neg (by rintro (h2 | h2); cases h2; exact h h2)]; rfl
end Go.Proofs.Ytcjehiecgdmidaa
