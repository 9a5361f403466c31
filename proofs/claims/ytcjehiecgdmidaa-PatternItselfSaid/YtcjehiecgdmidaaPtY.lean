/- Plain laws of PatternJoined: the parts of two patterns with a full stop between; ** matches every path. -/
import Derived.Test.YtcjehiecgdmidaaPtX
import Derived.Test.YtcjehiecgdmidaaPtT
set_option linter.unusedVariables false
set_option linter.unusedSimpArgs false
namespace Go.Proofs.Ytcjehiecgdmidaa
open Go.RowKit Go.Shelf

theorem readF_more : ∀ (k m : Nat) (l : List UInt8) (ps : List Pt), readF k l = some ps → k ≤ m → readF m l = some ps
  | 0, m, l, ps, h, _ => by cases h
  | k + 1, 0, l, ps, h, hm => absurd hm (by omega)
  | k + 1, m + 1, l, ps, h, hm => by
    unfold readF at h ⊢
    cases hp : partV (cutN l).1 with
    | none => rw [hp] at h; cases h
    | some x =>
      rw [hp] at h
      simp only [Option.bind_some] at h ⊢
      split at h
      · rename_i hc
        rw [if_pos hc]
        cases hr : readF k (cutN l).2.1 with
        | none => rw [hr] at h; cases h
        | some qs =>
          rw [hr] at h
          rw [readF_more k m _ _ hr (by omega)]; exact h
      · rename_i hc
        rw [if_neg hc]; exact h
theorem readF_dot' (k : Nat) (a r : List UInt8) (h : ∀ e ∈ a, e ≠ 92) (ha : ∀ e ∈ a, e ≠ 46) : readF (k + 1) (a ++ 46 :: r) = (partV a).bind fun x => (readF k r).map (x :: ·) := by
  have hh : (a ++ 46 :: r).head? ≠ some 92 := by
    cases a with
    | nil => intro e; cases e
    | cons c t => intro e; exact h c (List.mem_cons_self ..) (Option.some.inj e)
  have e : cutN (a ++ 46 :: r) = (a, r, true) := by
    have e1 : cutN (a ++ 46 :: r) = Lib.cut (a ++ 46 :: r) [46] := by unfold cutN; rw [if_neg hh]
    rw [e1]; exact cut_at [46] 46 [] rfl a r ha
  conv => lhs; unfold readF
  rw [e]; rfl
theorem readF_join (q : List UInt8) (qs : List Pt) (m : Nat) (hq : readF m q = some qs) : ∀ (k : Nat) (p : List UInt8) (ps : List Pt), readF k p = some ps → (∀ e ∈ p, e ≠ 92) → readF (ps.length + m) (p ++ 46 :: q) = some (ps ++ qs)
  | 0, p, ps, h, _ => by cases h
  | k + 1, p, ps, h, hp => by
    by_cases h46 : (46 : UInt8) ∈ p
    · obtain ⟨a1, a2, rfl, ha1⟩ := mem_split46 p h46
      rw [readF_dot k a1 a2 hp ha1] at h
      cases hx : partV a1 with
      | none => rw [hx] at h; cases h
      | some x =>
        rw [hx] at h
        simp only [Option.bind_some] at h
        cases hr : readF k a2 with
        | none => rw [hr] at h; cases h
        | some ps2 =>
          rw [hr] at h
          cases h
          have ih := readF_join q qs m hq k a2 ps2 hr (fun e he => hp e (List.mem_append_right _ (List.mem_cons_of_mem _ he)))
          rw [List.append_assoc, List.cons_append, List.length_cons, show ps2.length + 1 + m = (ps2.length + m) + 1 by omega, readF_dot' _ a1 _ (fun e he => hp e (List.mem_append_left _ he)) ha1, hx]
          simp only [Option.bind_some]
          rw [ih]; rfl
    · have hna : ∀ e ∈ p, e ≠ 46 := fun e he hh => h46 (hh ▸ he)
      rw [readF_end k p hp hna] at h
      cases hx : partV p with
      | none => rw [hx] at h; cases h
      | some x =>
        rw [hx] at h
        cases h
        rw [show ([x] : List Pt).length + m = m + 1 by rw [List.length_singleton]; omega, readF_dot' _ p _ hp hna, hx]
        simp only [Option.bind_some]
        rw [hq]; rfl
theorem readV_join {p q : List UInt8} {ps qs rs : List Pt} (hp : readV p = some ps) (hq : readV q = some qs) (hr : readV (p ++ 46 :: q) = some rs) (h92 : ∀ e ∈ p, e ≠ 92) : rs = ps ++ qs := by
  have h1 := readF_join q qs 16 (readV_some hq).2.2 16 p ps (readV_some hp).2.2 h92
  have h2 := readF_more 16 (ps.length + 16) _ _ (readV_some hr).2.2 (by omega)
  rw [h1] at h2
  exact (Option.some.inj h2).symm
/-- one of the ways to part a path, among the first k -/
def wantV (ps qs : List Pt) (P : List (List UInt8)) (k : Nat) : Bool := (List.range k).any fun i => mP ps (P.take i) && mP qs (P.drop i)
theorem wantV_succ (ps qs : List Pt) (P : List (List UInt8)) (k : Nat) : wantV ps qs P (k + 1) = (wantV ps qs P k || (mP ps (P.take k) && mP qs (P.drop k))) := by
  unfold wantV
  rw [List.range_succ, List.any_append, List.any_cons, List.any_nil, Bool.or_false]
theorem wantV_all (ps qs : List Pt) (P : List (List UInt8)) : wantV ps qs P (P.length + 1) = mP (ps ++ qs) P := by
  rw [Bool.eq_iff_iff, mP_append]
  unfold wantV
  rw [List.any_eq_true]
  constructor
  · rintro ⟨i, hi, h⟩
    rw [List.mem_range] at hi
    rw [Bool.and_eq_true] at h
    exact ⟨i, by omega, h.1, h.2⟩
  · rintro ⟨i, hi, h1, h2⟩
    exact ⟨i, List.mem_range.2 (by omega), by rw [h1, h2]; rfl⟩
theorem any_all (P : List (List UInt8)) : mP [.any] P = true := by rw [mP_one]; rfl
theorem star2_any (P : List (List UInt8)) : matchV [42, 42] P = true := by
  have e : readV [42, 42] = some [.any] := by rfl
  unfold matchV; rw [e]; exact any_all P
theorem star22_any (P : List (List UInt8)) : matchV [42, 42, 46, 42, 42] P = true := by
  have e : readV [42, 42, 46, 42, 42] = some [.any, .any] := by rfl
  unfold matchV; rw [e]
  exact (mP_any [.any] P rfl).2 ⟨0, Nat.zero_le _, any_all _⟩
end Go.Proofs.Ytcjehiecgdmidaa
