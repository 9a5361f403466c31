/- Contract of the reference's Read. -/
import Derived.Test.YtglfnbhcdblpiaaDoorTsK
set_option linter.unusedVariables false
namespace Go.Proofs.YtglfnbhcdblpiaaDoor
open Go.RowKit Go.Shelf Go.Sort

theorem uname_head (i : Nat) (h : i < 6) : Lib.hasPrefix (uname i).data.toList [32] = false ∧ (uname i).data.toList ≠ [] := by
  have : i = 0 ∨ i = 1 ∨ i = 2 ∨ i = 3 ∨ i = 4 ∨ i = 5 := by omega
  rcases this with rfl | rfl | rfl | rfl | rfl | rfl <;> exact ⟨by decide +kernel, by decide +kernel⟩
theorem app_data (a b : ByteArray) : (a ++ b).data.toList = a.data.toList ++ b.data.toList := by simp
theorem prefix_cons (l : List UInt8) : Lib.hasPrefix l [32] = true ↔ ∃ t, l = 32 :: t := by
  rcases l with _ | ⟨a, t⟩
  · constructor
    · intro h; exact absurd h (by decide)
    · rintro ⟨t, h⟩; cases h
  · constructor
    · intro h
      have : 32 = a := by simpa [Lib.hasPrefix, List.isPrefixOf] using h
      exact ⟨t, by rw [this]⟩
    · rintro ⟨t', h⟩
      cases h
      simp [Lib.hasPrefix, List.isPrefixOf]
theorem trim_iff (r : ByteArray) (i : Nat) (h : i < 6) : trimB r = uname i ↔ (r = uname i ∨ r = ⟨#[32]⟩ ++ uname i) := by
  obtain ⟨h1, h2⟩ := uname_head i h
  unfold trimB Lib.trimPrefix
  cases hp : Lib.hasPrefix r.data.toList [32] with
  | true =>
    obtain ⟨t, ht⟩ := (prefix_cons _).1 hp
    rw [if_pos rfl, ht]
    show (⟨t.toArray⟩ : ByteArray) = uname i ↔ _
    constructor
    · intro e
      refine .inr (Go.WideShapes.bytes_inj ?_)
      rw [app_data, ht, ← e]; rfl
    · rintro (e | e)
      · rw [e, h1] at hp; exact absurd hp Bool.false_ne_true
      · refine Go.WideShapes.bytes_inj ?_
        have := congrArg (fun b : ByteArray => b.data.toList) e
        simp only [app_data, ht] at this
        exact (List.cons.inj this).2
  | false =>
    rw [if_neg Bool.false_ne_true]
    constructor
    · intro e; exact .inl e
    · rintro (e | e)
      · exact e
      · exfalso
        have : Lib.hasPrefix r.data.toList [32] = true := (prefix_cons _).2 ⟨(uname i).data.toList, by rw [e, app_data]; rfl⟩
        rw [this] at hp; exact absurd hp.symm Bool.false_ne_true
/-- the reference's test of the digits -/
theorem dec_test (text : ByteArray) (h0 : 0 < text.size) (h1 : 1 ≤ nd text.data.toList) : text.extract 0 (nd text.data.toList) = decB (numN text) ↔ ¬ (text[0]'h0 = 48 ∧ 1 < nd text.data.toList) := by
  have hN := nd_le text.data.toList
  have hin := nd_in text.data.toList
  have hl : (text.data.toList.take (nd text.data.toList)).length = nd text.data.toList := by rw [List.length_take]; omega
  have hd : ∀ j (h : j < (text.data.toList.take (nd text.data.toList)).length), isD (text.data.toList.take (nd text.data.toList))[j] = true := fun j h => by
    rw [List.getElem_take]; exact hin j _ (by omega)
  have hi := dec_iff (text.data.toList.take (nd text.data.toList)) hd (by omega)
  have hz : (text.data.toList.take (nd text.data.toList))[0]'(by omega) = text[0]'h0 := by rw [List.getElem_take, Array.getElem_toList]; rfl
  simp only [hz] at hi
  simp only [hl] at hi
  rw [← hi]
  have e1 : (text.extract 0 (nd text.data.toList)).data.toList = text.data.toList.take (nd text.data.toList) := Lib.extract_from_zero _ _
  have e2 : (decB (numN text)).data.toList = Lib.decDigits (dv (text.data.toList.take (nd text.data.toList))) := by
    unfold decB numN
    rw [Lib.itoa_nonneg]
  constructor
  · intro e; exact e1.symm.trans ((congrArg (fun b : ByteArray => b.data.toList) e).trans e2)
  · intro e; exact Go.WideShapes.bytes_inj (by rw [e1, e2]; exact e)
end Go.Proofs.YtglfnbhcdblpiaaDoor
