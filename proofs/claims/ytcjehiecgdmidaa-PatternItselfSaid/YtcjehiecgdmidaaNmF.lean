/- Contracts of Reference and FormatReference, of both packages. -/
import Derived.Test.YtcjehiecgdmidaaNmE
import Derived.Test.YtcjehiecgdmidaaNmV
set_option linter.unusedVariables false
set_option linter.unusedSimpArgs false
namespace Go.Proofs.Ytcjehiecgdmidaa
open Go.RowKit Go.Shelf Go.Sort

/-- the first place of [, if the name is plain -/
def brk (a : ByteArray) : Option Nat := if 0 ≤ idxI 91 a.data.toList ∧ a.data.toList.head? ≠ some 92 then some (idxI 91 a.data.toList).toNat else none
/-- the name of a reference, the text of its range, and whether it has one -/
def partsS : List ByteArray → Option (ByteArray × ByteArray × Bool)
  | [a] => match brk a with | some k => some (a.extract 0 k, a.extract k a.size, true) | none => some (a, ⟨#[]⟩, false)
  | [a, b] => some (a, b, true)
  | _ => none
def Ref := ByteArray × Bool × Int × Int × Int
/-- what Reference returns, by the parts -/
def refP (p : ByteArray × ByteArray × Bool) : ByteArray × Bool × Int × Int × Int :=
  if vN p.1.data.toList then (if p.2.2 then (if (rangeS p.2.1.data.toList).2.2 = 0 then (p.1, true, (rangeS p.2.1.data.toList).1, (rangeS p.2.1.data.toList).2.1, 0) else (⟨#[]⟩, false, 0, 0, (rangeS p.2.1.data.toList).2.2)) else (p.1, false, 0, 0, 0)) else (⟨#[]⟩, false, 0, 0, 4)
def refS (L : List ByteArray) : ByteArray × Bool × Int × Int × Int := match partsS L with | some p => refP p | none => (⟨#[]⟩, false, 0, 0, 3)
def Ret5 (r : ByteArray × Bool × Int × Int × Int) (B : Nat) (w : World) (e : Ending) (w' : World) : Prop :=
  e = .returned (.tuple #[.string r.1, .bool r.2.1, .int .i64 r.2.2.1, .int .i64 r.2.2.2.1, .int .i64 r.2.2.2.2]) ∧ Below B w w'
theorem range_err (l : List UInt8) : (rangeS l).2.2 = 0 ∨ (rangeS l).2.2 = 2 ∨ (rangeS l).2.2 = 3 := by
  unfold rangeS; split
  · simp
  · split <;> simp
theorem idxI_cons (x : Int) (a : UInt8) (t : List UInt8) : idxI x (a :: t) = if ((a.toNat : Int) == x) = true then 0 else if idxI x t = -1 then -1 else idxI x t + 1 := by
  unfold idxI
  rw [List.findIdx?_cons]
  by_cases h : ((a.toNat : Int) == x) = true
  · rw [if_pos h, if_pos h]; rfl
  · rw [if_neg h, if_neg h]
    cases t.findIdx? (fun c => (c.toNat : Int) == x) with
    | none => rfl
    | some k =>
      show ((k + 1 : Nat) : Int) = if (k : Int) = -1 then -1 else (k : Int) + 1
      rw [if_neg (by omega)]; rfl
theorem indexByte_idxI (l : List UInt8) : Lib.indexByte l 91 = idxI 91 l := by
  induction l with
  | nil => rfl
  | cons a t ih =>
    have e : Lib.indexByte (a :: t) 91 = if (a == 91) = true then 0 else if (Lib.indexByte t 91 == -1) = true then -1 else Lib.indexByte t 91 + 1 := rfl
    rw [e, idxI_cons, ih]
    have h : ((a == 91) = true) = (((a.toNat : Int) == 91) = true) := by
      rw [beq_iff_eq, beq_iff_eq]
      exact propext (u8_eq a 91 (by decide))
    have h2 : ((idxI 91 t == -1) = true) = (idxI 91 t = -1) := by rw [beq_iff_eq]
    simp only [h, h2]
/-- the facts of the first bracket, as a walk reads them -/
theorem brk_some {a : ByteArray} {k : Nat} (h : brk a = some k) : idxI 91 a.data.toList = k ∧ k < a.size ∧ ∀ h0 : 0 < a.size, (((a[0]'h0).toNat : Int) == 92) = false := by
  unfold brk at h
  split at h
  · rename_i hc
    have hk := Option.some.inj h
    rcases idxI_cases 91 a.data.toList with ⟨h1, _⟩ | ⟨k', h1, hk', _⟩
    · rw [h1] at hc; exact absurd hc.1 (by decide)
    · rw [h1] at hk
      obtain rfl : k' = k := by simpa using hk
      refine ⟨h1, by rw [← size_list]; exact hk', fun h0 => beq_eq_false_iff_ne.2 fun e => hc.2 ?_⟩
      rw [hd_at a h0]; congr 1; exact (u8_eq _ 92 (by decide)).2 e
  · cases h
theorem brk_none {a : ByteArray} (h : brk a = none) : idxI 91 a.data.toList < 0 ∨ (0 ≤ idxI 91 a.data.toList ∧ ∃ h0 : 0 < a.size, ((a[0]'h0).toNat : Int) = 92) := by
  unfold brk at h
  split at h
  · cases h
  · rename_i hc
    by_cases h1 : 0 ≤ idxI 91 a.data.toList
    · right
      have h2 : a.data.toList.head? = some 92 := by
        rcases Decidable.em (a.data.toList.head? = some 92) with h | h
        · exact h
        · exact absurd ⟨h1, h⟩ hc
      have h0 : 0 < a.size := by
        rw [← size_list]
        cases hl : a.data.toList with
        | nil => rw [hl] at h2; cases h2
        | cons b t => simp
      refine ⟨h1, h0, ?_⟩
      rw [hd_at a h0] at h2
      exact (u8_eq _ 92 (by decide)).1 (Option.some.inj h2)
    · left; omega

end Go.Proofs.Ytcjehiecgdmidaa
