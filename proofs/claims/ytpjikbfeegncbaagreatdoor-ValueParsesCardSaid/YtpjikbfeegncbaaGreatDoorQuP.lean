/- Plain: quoted forms and texts, over lists of bytes. -/
import Derived.Test.YtpjikbfeegncbaaGreatDoorSl
import Derived.Lib.AppendStr
import Derived.Laws.RangeAny
set_option linter.unusedVariables false
namespace Go.Proofs.YtpjikbfeegncbaaGreatDoor
open Go.RowKit Go.Shelf

def prB (c : UInt8) : Bool := decide (33 ≤ c.toNat ∧ c.toNat ≤ 126)
def allPr (l : List UInt8) : Bool := l.all prB
def wordB : List UInt8 → Bool
  | [] => false
  | c :: l => !(c == 36) && allPr (c :: l)
def hexD (n : Nat) : UInt8 := ([48, 49, 50, 51, 52, 53, 54, 55, 56, 57, 97, 98, 99, 100, 101, 102] : List UInt8).getD n 0
def quoteB (c : UInt8) : List UInt8 := if c = 92 then [92, 92] else if prB c then [c] else [92, 120, hexD (c.toNat / 16), hexD (c.toNat % 16)]
def quoteL (l : List UInt8) : List UInt8 := l.flatMap quoteB
/-- the value of a digit -/
def hexV (c : UInt8) : Option Nat := if 48 ≤ c.toNat ∧ c.toNat ≤ 57 then some (c.toNat - 48) else if 97 ≤ c.toNat ∧ c.toNat ≤ 102 then some (c.toNat - 87) else none
/-- the byte at the front of a text, and how many bytes it takes -/
def step1 : List UInt8 → Option (UInt8 × Nat)
  | [] => none
  | c :: r => if c = 92 then (match r with
      | [] => none
      | d :: r' => if d = 92 then some (92, 2) else if d = 120 then (match r' with
          | a :: b :: _ => match hexV a, hexV b with
            | some x, some y => some (UInt8.ofNat (16 * x + y), 4)
            | _, _ => none
          | _ => none) else none)
    else if prB c then some (c, 1) else none
theorem step1_pos {l : List UInt8} {c : UInt8} {n : Nat} (h : step1 l = some (c, n)) : 1 ≤ n ∧ n ≤ l.length := by
  unfold step1 at h
  repeat' split at h
  all_goals (first | (cases h; done) | (simp only [Option.some.injEq, Prod.mk.injEq] at h; obtain ⟨rfl, rfl⟩ := h; simp [List.length] <;> omega))
/-- the string of a text; the first argument bounds the steps -/
def unqF : Nat → List UInt8 → Option (List UInt8)
  | _, [] => some []
  | 0, _ => none
  | f + 1, l => match step1 l with
    | none => none
    | some (c, n) => (unqF f (l.drop n)).map (c :: ·)
def unq (l : List UInt8) : Option (List UInt8) := unqF l.length l

theorem unqF_more : ∀ (f g : Nat) (l : List UInt8), l.length ≤ f → l.length ≤ g → unqF f l = unqF g l := by
  intro f
  induction f with
  | zero =>
    intro g l hf hg
    obtain rfl : l = [] := List.eq_nil_of_length_eq_zero (by omega)
    cases g <;> rfl
  | succ f ih =>
    intro g l hf hg
    cases l with
    | nil => cases g <;> rfl
    | cons c l =>
      cases g with
      | zero => simp at hg
      | succ g =>
        unfold unqF
        cases h : step1 (c :: l) with
        | none => rfl
        | some p =>
          obtain ⟨b, n⟩ := p
          have := step1_pos h
          simp only
          rw [ih g ((c :: l).drop n) (by simp at hf ⊢; omega) (by simp at hg ⊢; omega)]
theorem unq_nil : unq [] = some [] := rfl
theorem unq_step {l : List UInt8} {c : UInt8} {n : Nat} (h : step1 l = some (c, n)) : unq l = (unq (l.drop n)).map (c :: ·) := by
  obtain ⟨h1, h2⟩ := step1_pos h
  cases l with
  | nil => cases h
  | cons b l =>
    show unqF (l.length + 1) (b :: l) = _
    unfold unqF
    rw [h]
    simp only
    rw [unqF_more l.length ((b :: l).drop n).length _ (by simp; omega) (Nat.le_refl _)]; rfl
theorem unq_stop {l : List UInt8} (h : step1 l = none) (hne : l ≠ []) : unq l = none := by
  cases l with
  | nil => exact absurd rfl hne
  | cons b l =>
    show unqF (l.length + 1) (b :: l) = _
    unfold unqF
    rw [h]
theorem unq_len : ∀ (f : Nat) (l : List UInt8) (s : List UInt8), unqF f l = some s → s.length ≤ l.length := by
  intro f
  induction f with
  | zero => intro l s h; cases l with
    | nil => cases h; simp
    | cons c l => cases h
  | succ f ih =>
    intro l s h
    cases l with
    | nil => cases h; simp
    | cons c l =>
      unfold unqF at h
      cases hs : step1 (c :: l) with
      | none => rw [hs] at h; cases h
      | some p =>
        obtain ⟨b, n⟩ := p
        rw [hs] at h
        simp only [Option.map_eq_some_iff] at h
        obtain ⟨t, ht, rfl⟩ := h
        have h1 := step1_pos hs
        have := ih _ t ht
        simp only [List.length_drop, List.length_cons] at this h1 ⊢
        omega
end Go.Proofs.YtpjikbfeegncbaaGreatDoor
