/- Arguments opened: a slice of structs whose fields are one cell each. No program is named. -/
import Derived.Test.YtcjehiecgdmidaaCore
import Derived.Deep.Slices
import Derived.Deep.Fields
import Derived.ProofKit
import Derived.OpenShut
import Derived.ShutString
import Derived.ChangeOld
namespace Go
open Go.RowKit Go.ChangeShapes Go.WideShapes Go.Deep

theorem list_of {α : Type} {n : Nat} {P : Nat → α → Prop} (h : ∀ i, i < n → ∃ x, P i x) : ∃ l : List α, l.length = n ∧ ∀ i (hi : i < l.length), P i (l[i]'hi) := by
  induction n with
  | zero => exact ⟨[], rfl, fun i hi => absurd hi (by simp)⟩
  | succ n ih =>
    obtain ⟨l, hl, hP⟩ := ih (fun i hi => h i (by omega))
    obtain ⟨x, hx⟩ := h n (by omega)
    refine ⟨l ++ [x], by simp [hl], fun i hi => ?_⟩
    rcases Nat.lt_or_ge i l.length with hlt | hge
    · rw [List.getElem_append_left hlt]; exact hP i hlt
    · have : i = l.length := by simp at hi; omega
      subst this
      rw [List.getElem_append_right (Nat.le_refl _)]
      simpa [hl] using hx

section
variable {H : Type} {enc : TypeId × Value → H} {P : Program} {W : World} {base : Nat} {spare : Nat → Bool} {held : Bool}

/-- the cells of a struct of one-cell fields, each with its reading -/
theorem flat_struct {t : TypeId} {fs : Array Field} {fuel : Nat} {cs : List Value} {x : DataW H × List MemPlace} (ht : P.underlying t = some (.struct fs)) (h1 : oneCellFields P fs = true) (hC : P.cellsOf t = fs.size)
    (h : DataW.trod enc P W base spare held fuel t cs = some x) (j : Nat) (f : Field) (hf : fs[j]? = some f) :
    ∃ (v : Value) (y : DataW H × List MemPlace) (n : Nat), cs[j]? = some v ∧ DataW.trod enc P W base spare held n f.type [v] = some y := by
  obtain ⟨ys, n, _, _, hcl, hyl, hg⟩ := DataW.trod_struct ht h
  obtain ⟨ho, hk⟩ := hone_of h1 j f hf
  have hj : j < fs.size := (Array.getElem?_eq_some_iff.1 hf).1
  have hjc : j < cs.length := by omega
  have g := hg j f hf
  rw [ho, hk, List.drop_eq_getElem_cons hjc] at g
  refine ⟨cs[j], ys[j]'(by omega), n, List.getElem?_eq_getElem hjc, ?_⟩
  rw [← List.getElem?_eq_getElem, ← g]; rfl

/-- a slice of such structs: every field of every element -/
theorem flat_slice {t e : TypeId} {fs : Array Field} {fuel : Nat} {a0 : Option Addr} {len cap : Nat} {x : DataW H × List MemPlace} (ht : P.underlying t = some (.slice e)) (he : P.underlying e = some (.struct fs))
    (h1 : oneCellFields P fs = true) (hC : P.cellsOf e = fs.size) (h : DataW.trod enc P W base spare held fuel t [.slice a0 len cap] = some x) (h0 : 0 < fs.size) :
    len ≤ maxLen ∧ (0 < len → ∃ b off, a0 = some ⟨b, off, none⟩ ∧ ∀ i, i < len → ∀ (j : Nat) (f : Field), fs[j]? = some f → ∃ (v : Value) (y : DataW H × List MemPlace) (n : Nat),
      W.cell? ⟨b, off + i * fs.size + j, none⟩ = some v ∧ DataW.trod enc P W base spare held n f.type [v] = some y) := by
  rcases open_slice ht h with ⟨hcs, _⟩ | ⟨a, l, c, m, n, D, Pl, hcs, _, hl, hm, hmm, _, hel⟩
  · simp at hcs
    obtain ⟨rfl, rfl, rfl⟩ := hcs
    exact ⟨Nat.zero_le _, fun h => absurd h (by omega)⟩
  · simp at hcs
    obtain ⟨rfl, rfl, rfl⟩ := hcs
    refine ⟨by omega, fun hpos => ?_⟩
    have hlm : len ≤ m := by rw [hmm]; split <;> omega
    have key : ∀ i, i < len → ∀ (j : Nat) (f : Field), fs[j]? = some f → ∃ (v : Value) (y : DataW H × List MemPlace) (n : Nat),
        W.cell? (a.add (i * fs.size + j)) = some v ∧ DataW.trod enc P W base spare held n f.type [v] = some y := by
      intro i hi j f hf
      obtain ⟨cs', hc, htr⟩ := hel i (by omega)
      rw [hC] at hc
      obtain ⟨_, hcl, hat⟩ := World.cells?_some hc
      obtain ⟨v, y, n', hv, hy⟩ := flat_struct he h1 hC htr j f hf
      have hj : j < fs.size := (Array.getElem?_eq_some_iff.1 hf).1
      exact ⟨v, y, n', by rw [← Go.Deep.add_add, hat j hj, hv], hy⟩
    obtain ⟨b, off, spot⟩ := a
    obtain ⟨v, _, _, hv, _⟩ := key 0 hpos 0 fs[0] (Array.getElem?_eq_getElem h0)
    have hs : spot = none := by
      have : ((⟨b, off, spot⟩ : Addr).add (0 * fs.size + 0)) = ⟨b, off, spot⟩ := by simp [Addr.add]
      rw [this] at hv
      exact World.cell?_spot hv
    subst hs
    refine ⟨b, off, rfl, fun i hi j f hf => ?_⟩
    obtain ⟨v, y, n', hv, hy⟩ := key i hi j f hf
    have ha : (⟨b, off, none⟩ : Addr).add (i * fs.size + j) = ⟨b, off + i * fs.size + j, none⟩ := by
      unfold Addr.add
      split
      · simp_all
      · simp [Nat.add_assoc]
    rw [ha] at hv
    exact ⟨v, y, n', hv, hy⟩
end

theorem i64_bounds {n : Int} (h : (Lit.int .i64 n).wf = true) : -9223372036854775808 ≤ n ∧ n ≤ 9223372036854775807 := by
  simpa [Lit.wf, IntKind.min, IntKind.max, IntKind.signed, IntKind.bits] using h
theorem u8_bounds {n : Int} (h : (Lit.int .u8 n).wf = true) : 0 ≤ n ∧ n ≤ 255 := by
  simpa [Lit.wf, IntKind.min, IntKind.max, IntKind.signed, IntKind.bits] using h
end Go
