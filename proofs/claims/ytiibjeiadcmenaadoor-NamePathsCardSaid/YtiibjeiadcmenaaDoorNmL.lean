/- Contract of the reference's Split. -/
import Derived.Test.YtiibjeiadcmenaaDoorNmJ
set_option linter.unusedVariables false
set_option linter.unusedSimpArgs false
namespace Go.Proofs.YtiibjeiadcmenaaDoor
open Go.RowKit Go.Shelf Go.Sort

/-- how a name's end is found: by a blank or by a full stop -/
def endC (r : List UInt8) : Nat := if r.head? = some 92 then 32 else 46
/-- one round of the reference's Split: nothing more, an error, or a name and the rest -/
def stepA (r : List UInt8) : Option (Option (List UInt8 × List UInt8)) :=
  if idxI (endC r) r < 0 then none
  else if r.head? = some 92 then (if (r.drop ((idxI 32 r).toNat + 1)).head? = some 46 then some (some (r.take (idxI 32 r).toNat, (r.drop ((idxI 32 r).toNat + 1)).drop 1)) else some none)
  else some (some (r.take (idxI 46 r).toNat, r.drop ((idxI 46 r).toNat + 1)))
theorem idx_parts (c : UInt8) (l : List UInt8) : (idxI (c.toNat : Int) l < 0 ∧ l.contains c = false) ∨ ∃ k : Nat, idxI (c.toNat : Int) l = k ∧ k < l.length ∧ l.contains c = true ∧ l.takeWhile (· != c) = l.take k ∧ (l.dropWhile (· != c)).drop 1 = l.drop (k + 1) ∧ l.drop k = c :: l.drop (k + 1) := by
  have hu : ∀ b : UInt8, ((b.toNat : Int) = (c.toNat : Int)) ↔ b = c := fun b => ⟨fun h => UInt8.toNat_inj.1 (by omega), fun h => by rw [h]⟩
  rcases idxI_cases (c.toNat : Int) l with ⟨h, hn⟩ | ⟨k, h, hk, he, hno⟩
  · left
    refine ⟨by rw [h]; decide, ?_⟩
    cases hc : l.contains c with
    | false => rfl
    | true => exact absurd rfl (hn c (by simpa using hc))
  · right
    have hck : l[k]'hk = c := (hu _).1 he
    have e : l = l.take k ++ c :: l.drop (k + 1) := by
      rw [← hck, ← List.drop_eq_getElem_cons hk, List.take_append_drop]
    have hp : ∀ x ∈ l.take k, x ≠ c := fun x hx hxc => by
      obtain ⟨j, hj, rfl⟩ := List.mem_iff_getElem.1 hx
      rw [List.length_take] at hj
      rw [List.getElem_take] at hxc
      exact hno j (by omega) ((hu _).2 hxc)
    refine ⟨k, h, hk, by rw [e]; simp, ?_, ?_, by rw [← hck]; exact List.drop_eq_getElem_cons hk⟩
    · conv => lhs; rw [e]
      rw [List.takeWhile_append_of_pos (by intro x hx; simpa using hp x hx)]; simp
    · conv => lhs; rw [e]
      rw [List.dropWhile_append_of_pos (by intro x hx; simpa using hp x hx)]; simp
theorem splitA_step (g : Nat) (r : List UInt8) : splitA (g + 1) r = match stepA r with
    | none => some [r]
    | some none => none
    | some (some (n, r')) => (splitA g r').map (n :: ·) := by
  have e0 : splitA (g + 1) r = if r.head? = some 92 then
      (if r.contains 32 then (if ((r.dropWhile (· != 32)).drop 1).head? = some 46 then (splitA g (((r.dropWhile (· != 32)).drop 1).drop 1)).map (r.takeWhile (· != 32) :: ·) else none) else some [r])
    else (if r.contains 46 then (splitA g ((r.dropWhile (· != 46)).drop 1)).map (r.takeWhile (· != 46) :: ·) else some [r]) := rfl
  rw [e0]
  unfold stepA endC
  by_cases hh : r.head? = some 92
  · simp only [if_pos hh]
    rcases idx_parts 32 r with ⟨h1, h2⟩ | ⟨k, h1, hk, h2, h3, h4, _⟩
    · have h1' : idxI ((32 : Nat) : Int) r < 0 := h1
      rw [if_pos h1', h2]; rfl
    · have h1' : idxI ((32 : Nat) : Int) r = k := h1
      have h1'' : idxI 32 r = k := h1
      rw [h1', h1'', if_neg (show ¬ ((k : Nat) : Int) < 0 by omega), h2, if_pos rfl, h3, h4]
      have e : ((k : Nat) : Int).toNat = k := rfl
      rw [e]
      by_cases hd : (r.drop (k + 1)).head? = some 46
      · rw [if_pos hd, if_pos hd]
      · rw [if_neg hd, if_neg hd]
  · simp only [if_neg hh]
    rcases idx_parts 46 r with ⟨h1, h2⟩ | ⟨k, h1, hk, h2, h3, h4, _⟩
    · have h1' : idxI ((46 : Nat) : Int) r < 0 := h1
      rw [if_pos h1', h2]; rfl
    · have h1' : idxI ((46 : Nat) : Int) r = k := h1
      have h1'' : idxI 46 r = k := h1
      rw [h1', h1'', if_neg (show ¬ ((k : Nat) : Int) < 0 by omega), h2, if_pos rfl, h3, h4]
      rfl
/-- what the reference returns at the end -/
theorem ref_end (l : List UInt8) : (splitA (l.length + 1) l).bind (fun N => if vpB N = true then some N else none) = splitF 9 l := by
  rw [← split_eq (l.length + 1) 9 l (Nat.lt_succ_self _)]
  cases h : splitA (l.length + 1) l with
  | none => rfl
  | some N =>
    have hne : 1 ≤ N.length := by
      rw [splitA_step] at h
      split at h
      · cases h; simp
      · cases h
      · obtain ⟨M, _, hM⟩ := Option.map_eq_some_iff.1 h
        rw [← hM]; simp
    show (if vpB N = true then some N else none) = if N.length ≤ 9 ∧ N.all vN = true then some N else none
    unfold vpB
    by_cases h9 : N.length ≤ 9 ∧ N.all vN = true
    · rw [if_pos h9, if_pos (by rw [h9.2, Bool.and_true]; exact decide_eq_true ⟨hne, h9.1⟩)]
    · rw [if_neg h9, if_neg]
      intro hc
      rw [Bool.and_eq_true, decide_eq_true_eq] at hc
      exact h9 ⟨hc.1.2, hc.2⟩
end Go.Proofs.YtiibjeiadcmenaaDoor
