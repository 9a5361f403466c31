/- The cells of an item, one by one. -/
import Derived.Test.YtcjehiecgdmidaaPtC
set_option linter.unusedVariables false
set_option linter.unusedSimpArgs false
namespace Go.Proofs.Ytcjehiecgdmidaa
open Go.RowKit Go.Shelf

theorem itL_len (x : It) : (itL x).length = 259 := by simp [itL]
theorem itL_get (x : It) (j : Nat) : (itL x)[j]? = if j = 0 then some (.bool x.star) else if j < 257 then some (.bool (x.set (UInt8.ofNat (j - 1)))) else if j = 257 then some (.bool x.plain) else if j = 258 then some (.int .u8 (x.self.toNat : Int)) else none := by
  cases j with
  | zero => rfl
  | succ k =>
    rw [if_neg (by omega)]
    show (((List.range 256).map fun k => Value.bool (x.set (UInt8.ofNat k))) ++ [.bool x.plain, .int .u8 (x.self.toNat : Int)])[k]? = _
    rw [List.getElem?_append]
    have hl : ((List.range 256).map fun k => Value.bool (x.set (UInt8.ofNat k))).length = 256 := by simp
    rw [hl]
    by_cases h : k < 256
    · rw [if_pos h, if_pos (by omega), List.getElem?_map, List.getElem?_range h]; rfl
    · rw [if_neg h, if_neg (by omega)]
      by_cases h1 : k = 256
      · subst h1; rfl
      · by_cases h2 : k = 257
        · subst h2; rfl
        · rw [if_neg (by omega), if_neg (by omega), List.getElem?_eq_none (by simp; omega)]
def byteIt (c : UInt8) : It := ⟨false, fun x => x == c, true, c⟩
theorem itL_byte (c : UInt8) : (((itL noIt).set (1 + c.toNat) (.bool true)).set 257 (.bool true)).set 258 (.int .u8 (c.toNat : Int)) = itL (byteIt c) := by
  have hc := c.toNat_lt
  apply List.ext_getElem?
  intro j
  rw [List.getElem?_set, List.getElem?_set, List.getElem?_set, itL_get, itL_get]
  simp only [List.length_set, itL_len]
  by_cases h0 : 258 = j
  · subst h0; rfl
  · rw [if_neg h0]
    by_cases h1 : 257 = j
    · subst h1; rfl
    · rw [if_neg h1]
      by_cases h2 : 1 + c.toNat = j
      · subst h2
        rw [if_pos rfl, if_pos (by omega), if_neg (by omega), if_pos (by omega)]
        show _ = some (Value.bool (UInt8.ofNat (1 + c.toNat - 1) == c))
        rw [show 1 + c.toNat - 1 = c.toNat by omega, UInt8.ofNat_toNat, beq_self_eq_true]
      · rw [if_neg h2]
        by_cases h3 : j = 0
        · rw [if_pos h3, if_pos h3]; rfl
        · rw [if_neg h3, if_neg h3]
          by_cases h4 : j < 257
          · rw [if_pos h4, if_pos h4]
            show some (Value.bool false) = some (Value.bool (UInt8.ofNat (j - 1) == c))
            have : (UInt8.ofNat (j - 1) == c) = false := by
              rw [beq_eq_false_iff_ne]
              intro e
              have := congrArg UInt8.toNat e
              rw [UInt8.toNat_ofNat', Nat.mod_eq_of_lt (by omega)] at this
              omega
            rw [this]
          · rw [if_neg h4, if_neg h4, if_neg (by omega), if_neg (by omega), if_neg (by omega), if_neg (by omega)]
/-- how matches reads an item -/
theorem items_of (W : World) (b o : Nat) (w : List It) (h : ∀ i, ∀ hi : i < w.length, ∀ j v, (itL w[i])[j]? = some v → W.cell? ⟨b, o + i * 259 + j, none⟩ = some v) : Items W b o w := fun i hi =>
  ⟨h i hi 0 _ rfl, fun c => by
    have hc := c.toNat_lt
    have := h i hi (1 + c.toNat) (.bool (w[i].set c)) (by
      rw [itL_get, if_neg (by omega), if_pos (by omega), show 1 + c.toNat - 1 = c.toNat by omega, UInt8.ofNat_toNat])
    rwa [← Nat.add_assoc] at this⟩
end Go.Proofs.Ytcjehiecgdmidaa
