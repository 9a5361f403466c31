/- Plain law of PatternWider. -/
import Derived.Test.YtcjehiecgdmidaaPtW
set_option linter.unusedVariables false
set_option linter.unusedSimpArgs false
namespace Go.Proofs.Ytcjehiecgdmidaa
open Go.RowKit Go.Shelf

def All2 {α : Type} (R : α → α → Prop) : List α → List α → Prop
  | [], [] => True
  | x :: xs, y :: ys => R x y ∧ All2 R xs ys
  | _, _ => False
theorem All2.refl {α : Type} {R : α → α → Prop} (hR : ∀ x, R x x) : ∀ l, All2 R l l
  | [] => trivial
  | x :: xs => ⟨hR x, All2.refl hR xs⟩
theorem All2.mid {α : Type} {R : α → α → Prop} (hR : ∀ x, R x x) {x y : α} (h : R x y) (b : List α) : ∀ a : List α, All2 R (a ++ x :: b) (a ++ y :: b)
  | [] => ⟨h, All2.refl hR b⟩
  | z :: a => ⟨hR z, All2.mid hR h b a⟩
/-- an item that takes what another takes, and perhaps more -/
def WideI (x y : It) : Prop := (x.star = true → y.star = true) ∧ (x.star = false → y.star = true ∨ ∀ c, x.set c = true → y.set c = true)
theorem WideI.refl (x : It) : WideI x x := ⟨id, fun _ => .inr fun _ h => h⟩
theorem mW_wide : ∀ (v w : List It) (s : List UInt8), All2 WideI v w → mW v s = true → mW w s = true
  | [], [], s, _, h => h
  | [], y :: w, s, hA, _ => hA.elim
  | x :: v, [], s, hA, _ => hA.elim
  | x :: v, y :: w, s, ⟨hx, hA⟩, h => by
    cases hs : x.star with
    | true =>
      obtain ⟨j, hj, h2⟩ := (mW_star v s hs).1 h
      exact (mW_star w s (hx.1 hs)).2 ⟨j, hj, mW_wide v w _ hA h2⟩
    | false =>
      cases s with
      | nil => rw [mW_none v hs] at h; cases h
      | cons c t =>
        rw [mW_cons v c t hs, Bool.and_eq_true] at h
        have ih := mW_wide v w t hA h.2
        cases hys : y.star with
        | true => exact (mW_star w _ hys).2 ⟨1, by simp, by simpa using ih⟩
        | false =>
          rw [mW_cons w c t hys, Bool.and_eq_true]
          refine ⟨?_, ih⟩
          rcases hx.2 hs with h1 | h1
          · rw [hys] at h1; cases h1
          · exact h1 c h.1
/-- a part that takes what another takes, and perhaps more -/
def WideP (x y : Pt) : Prop := (x.isAny = true → y.isAny = true) ∧ (x.isAny = false → y.isAny = true ∨ ∀ n, x.ok n = true → y.ok n = true)
theorem WideP.refl (x : Pt) : WideP x x := ⟨id, fun _ => .inr fun _ h => h⟩
theorem mP_wide : ∀ (v w : List Pt) (s : List (List UInt8)), All2 WideP v w → mP v s = true → mP w s = true
  | [], [], s, _, h => h
  | [], y :: w, s, hA, _ => hA.elim
  | x :: v, [], s, hA, _ => hA.elim
  | x :: v, y :: w, s, ⟨hx, hA⟩, h => by
    cases hs : x.isAny with
    | true =>
      obtain ⟨j, hj, h2⟩ := (mP_any v s hs).1 h
      exact (mP_any w s (hx.1 hs)).2 ⟨j, hj, mP_wide v w _ hA h2⟩
    | false =>
      cases s with
      | nil => rw [mP_none v hs] at h; cases h
      | cons c t =>
        rw [mP_cons v c t hs, Bool.and_eq_true] at h
        have ih := mP_wide v w t hA h.2
        cases hys : y.isAny with
        | true => exact (mP_any w _ hys).2 ⟨1, by simp, by simpa using ih⟩
        | false =>
          rw [mP_cons w c t hys, Bool.and_eq_true]
          refine ⟨?_, ih⟩
          rcases hx.2 hs with h1 | h1
          · rw [hys] at h1; cases h1
          · exact h1 c h.1
/-- the item of a byte that begins no set -/
def itB (c : UInt8) : It := if c = 42 then ⟨true, fun _ => false, false, 0⟩ else if c = 63 then ⟨false, fun _ => true, false, 0⟩ else ⟨false, fun x => x == c, true, c⟩
theorem nextV_itB {c : UInt8} {r t : List UInt8} {x : It} (h : nextV (c :: r) = some (x, t)) (hc : c ≠ 91) : x = itB c ∧ t = r := by
  rw [nextV] at h
  by_cases h0 : c.toNat < 33 ∨ 126 < c.toNat ∨ c = 46 ∨ c = 92 ∨ c = 93
  · rw [if_pos h0] at h; cases h
  · rw [if_neg h0, if_neg hc] at h
    unfold itB
    by_cases h1 : c = 42
    · rw [if_pos h1] at h ⊢
      simp only [Option.some.injEq, Prod.mk.injEq] at h
      exact ⟨h.1.symm, h.2.symm⟩
    · rw [if_neg h1] at h ⊢
      by_cases h2 : c = 63
      · rw [if_pos h2] at h ⊢
        simp only [Option.some.injEq, Prod.mk.injEq] at h
        exact ⟨h.1.symm, h.2.symm⟩
      · rw [if_neg h2] at h ⊢
        simp only [Option.some.injEq, Prod.mk.injEq] at h
        exact ⟨h.1.symm, h.2.symm⟩
theorem wildF_map : ∀ (n : Nat) (s : List UInt8) (w : List It), wildF n s = some w → (∀ c ∈ s, c ≠ 91) → w = s.map itB
  | 0, s, w, h, _ => by
    unfold wildF at h
    split at h
    · rename_i hs; subst hs; cases h; rfl
    · cases h
  | n + 1, s, w, h, hs => by
    unfold wildF at h
    by_cases hb : s = []
    · rw [if_pos hb] at h; subst hb; cases h; rfl
    · rw [if_neg hb] at h
      cases hn : nextV s with
      | none => rw [hn] at h; cases h
      | some p =>
        obtain ⟨x, t⟩ := p
        rw [hn] at h
        simp only [Option.bind_some] at h
        cases hw : wildF n t with
        | none => rw [hw] at h; cases h
        | some w2 =>
          rw [hw] at h
          simp only [Option.map_some, Option.some.injEq] at h
          obtain ⟨c, r, rfl⟩ : ∃ c r, s = c :: r := by cases s with | nil => exact absurd rfl hb | cons c r => exact ⟨c, r, rfl⟩
          obtain ⟨rfl, rfl⟩ := nextV_itB hn (hs c (List.mem_cons_self ..))
          rw [← h, wildF_map n t w2 hw (fun d hd => hs d (List.mem_cons_of_mem _ hd))]; rfl
/-- which byte may stand for which -/
def widerB (c d : UInt8) : Prop := (c ≠ 42 ∧ c ≠ 46 ∧ c ≠ 63 ∧ d = 63) ∨ (c = 63 ∧ d = 42)
theorem itB_wide {c d : UInt8} (h : widerB c d) : WideI (itB c) (itB d) := by
  rcases h with ⟨h1, h2, h3, rfl⟩ | ⟨rfl, rfl⟩
  · refine ⟨fun h => ?_, fun _ => .inr fun _ _ => rfl⟩
    unfold itB at h
    rw [if_neg h1, if_neg h3] at h; cases h
  · exact ⟨fun h => (by cases h), fun _ => .inl rfl⟩
theorem partV_wide {a b : List UInt8} {c d : UInt8} {x y : Pt} (hw : widerB c d) (ha : ∀ e ∈ a ++ c :: b, e ≠ 91 ∧ e ≠ 92) (hx : partV (a ++ c :: b) = some x) (hy : partV (a ++ d :: b) = some y) : WideP x y := by
  have hd : d ≠ 91 ∧ d ≠ 92 := by rcases hw with ⟨_, _, _, rfl⟩ | ⟨_, rfl⟩ <;> exact ⟨by decide, by decide⟩
  have ha2 : ∀ e ∈ a ++ d :: b, e ≠ 91 ∧ e ≠ 92 := fun e he => by
    rcases List.mem_append.1 he with he | he
    · exact ha e (List.mem_append_left _ he)
    · rcases List.mem_cons.1 he with rfl | he
      · exact hd
      · exact ha e (List.mem_append_right _ (List.mem_cons_of_mem _ he))
  have hc42 : c ≠ 42 := by rcases hw with ⟨h, _⟩ | ⟨rfl, _⟩; exact h; decide
  rcases partV_some hx with ⟨hs, _⟩ | ⟨hs, _, _⟩ | ⟨w, hw1, rfl⟩
  · have : c ∈ ([42, 42] : List UInt8) := by rw [← hs]; simp
    simp at this; exact absurd this hc42
  · exact absurd rfl (ha 92 (List.mem_of_mem_head? hs)).2
  · rcases partV_some hy with ⟨_, rfl⟩ | ⟨hs, _, _⟩ | ⟨w', hw2, rfl⟩
    · exact ⟨fun h => rfl, fun _ => .inl rfl⟩
    · exact absurd rfl (ha2 92 (List.mem_of_mem_head? hs)).2
    · refine ⟨fun h => (by cases h), fun _ => .inr fun n hn => ?_⟩
      have e1 := wildF_map _ _ _ (wildV_some hw1).2.2 (fun e he => (ha e he).1)
      have e2 := wildF_map _ _ _ (wildV_some hw2).2.2 (fun e he => (ha2 e he).1)
      have hn' : mW w n = true := hn
      show mW w' n = true
      refine mW_wide w w' n ?_ hn'
      rw [e1, e2, List.map_append, List.map_append, List.map_cons, List.map_cons]
      exact All2.mid WideI.refl (itB_wide hw) _ _
theorem cutN_dot {l : List UInt8} (h : ∀ e ∈ l, e ≠ 92) : cutN l = Lib.cut l [46] := by
  unfold cutN
  rw [if_neg]
  intro e
  exact h 92 (List.mem_of_mem_head? e) rfl
theorem mem_split46 : ∀ l : List UInt8, (46 : UInt8) ∈ l → ∃ a r, l = a ++ 46 :: r ∧ ∀ x ∈ a, x ≠ 46
  | [], h => by cases h
  | c :: t, h => by
    by_cases hc : c = 46
    · subst hc; exact ⟨[], t, rfl, fun x hx => by cases hx⟩
    · have h2 : (46 : UInt8) ∈ t := by
        rcases List.mem_cons.1 h with h | h
        · exact absurd h.symm hc
        · exact h
      obtain ⟨a, r, rfl, ha⟩ := mem_split46 t h2
      exact ⟨c :: a, r, rfl, fun x hx => by
        rcases List.mem_cons.1 hx with rfl | hx
        · exact hc
        · exact ha x hx⟩
theorem readF_dot (k : Nat) (a r : List UInt8) (h : ∀ e ∈ a ++ 46 :: r, e ≠ 92) (ha : ∀ e ∈ a, e ≠ 46) : readF (k + 1) (a ++ 46 :: r) = (partV a).bind fun x => (readF k r).map (x :: ·) := by
  have e : cutN (a ++ 46 :: r) = (a, r, true) := by rw [cutN_dot h]; exact cut_at [46] 46 [] rfl a r ha
  conv => lhs; unfold readF
  rw [e]; rfl
theorem readF_end (k : Nat) (a : List UInt8) (h : ∀ e ∈ a, e ≠ 92) (ha : ∀ e ∈ a, e ≠ 46) : readF (k + 1) a = (partV a).map fun x => [x] := by
  have e : cutN a = (a, [], false) := by rw [cutN_dot h]; exact cut_no [46] 46 [] rfl a ha
  conv => lhs; unfold readF
  rw [e]
  cases partV a <;> rfl
theorem readF_wide {c d : UInt8} (hw : widerB c d) : ∀ (k : Nat) (a b : List UInt8) (ps qs : List Pt), (∀ e ∈ a ++ c :: b, e ≠ 91 ∧ e ≠ 92) → readF k (a ++ c :: b) = some ps → readF k (a ++ d :: b) = some qs → All2 WideP ps qs
  | 0, a, b, ps, qs, _, h, _ => by cases h
  | k + 1, a, b, ps, qs, hp, h1, h2 => by
    have hd : (d ≠ 91 ∧ d ≠ 92) ∧ d ≠ 46 := by rcases hw with ⟨_, _, _, rfl⟩ | ⟨_, rfl⟩ <;> exact ⟨⟨by decide, by decide⟩, by decide⟩
    have hc46 : c ≠ 46 := by rcases hw with ⟨_, h, _⟩ | ⟨rfl, _⟩; exact h; decide
    have hp2 : ∀ e ∈ a ++ d :: b, e ≠ 91 ∧ e ≠ 92 := fun e he => by
      rcases List.mem_append.1 he with he | he
      · exact hp e (List.mem_append_left _ he)
      · rcases List.mem_cons.1 he with rfl | he
        · exact hd.1
        · exact hp e (List.mem_append_right _ (List.mem_cons_of_mem _ he))
    by_cases h46 : (46 : UInt8) ∈ a
    · obtain ⟨a1, a2, rfl, ha1⟩ := mem_split46 a h46
      have e1 : a1 ++ 46 :: a2 ++ c :: b = a1 ++ 46 :: (a2 ++ c :: b) := by simp
      have e2 : a1 ++ 46 :: a2 ++ d :: b = a1 ++ 46 :: (a2 ++ d :: b) := by simp
      rw [e1] at h1 hp
      rw [e2] at h2 hp2
      rw [readF_dot k _ _ (fun e he => (hp e he).2) ha1] at h1
      rw [readF_dot k _ _ (fun e he => (hp2 e he).2) ha1] at h2
      cases hpa : partV a1 with
      | none => rw [hpa] at h1; cases h1
      | some x =>
        rw [hpa] at h1 h2
        simp only [Option.bind_some] at h1 h2
        cases hr1 : readF k (a2 ++ c :: b) with
        | none => rw [hr1] at h1; cases h1
        | some ps2 =>
          cases hr2 : readF k (a2 ++ d :: b) with
          | none => rw [hr2] at h2; cases h2
          | some qs2 =>
            rw [hr1] at h1
            rw [hr2] at h2
            cases h1; cases h2
            exact ⟨WideP.refl x, readF_wide hw k a2 b ps2 qs2 (fun e he => hp e (by simp at he ⊢; rcases he with he | he | he <;> simp [he])) hr1 hr2⟩
    · have hna : ∀ e ∈ a, e ≠ 46 := fun e he hh => h46 (hh ▸ he)
      by_cases h46b : (46 : UInt8) ∈ b
      · obtain ⟨b1, b2, rfl, hb1⟩ := mem_split46 b h46b
        have e1 : a ++ c :: (b1 ++ 46 :: b2) = (a ++ c :: b1) ++ 46 :: b2 := by simp
        have e2 : a ++ d :: (b1 ++ 46 :: b2) = (a ++ d :: b1) ++ 46 :: b2 := by simp
        rw [e1] at h1 hp
        rw [e2] at h2 hp2
        have n1 : ∀ e ∈ a ++ c :: b1, e ≠ 46 := fun e he => by
          rcases List.mem_append.1 he with he | he
          · exact hna e he
          · rcases List.mem_cons.1 he with rfl | he
            · exact hc46
            · exact hb1 e he
        have n2 : ∀ e ∈ a ++ d :: b1, e ≠ 46 := fun e he => by
          rcases List.mem_append.1 he with he | he
          · exact hna e he
          · rcases List.mem_cons.1 he with rfl | he
            · exact hd.2
            · exact hb1 e he
        rw [readF_dot k _ _ (fun e he => (hp e he).2) n1] at h1
        rw [readF_dot k _ _ (fun e he => (hp2 e he).2) n2] at h2
        cases hx : partV (a ++ c :: b1) with
        | none => rw [hx] at h1; cases h1
        | some x =>
          cases hy : partV (a ++ d :: b1) with
          | none => rw [hy] at h2; cases h2
          | some y =>
            rw [hx] at h1
            rw [hy] at h2
            simp only [Option.bind_some] at h1 h2
            cases hr : readF k b2 with
            | none => rw [hr] at h1; cases h1
            | some rs =>
              rw [hr] at h1 h2
              cases h1; cases h2
              exact ⟨partV_wide hw (fun e he => hp e (List.mem_append_left _ he)) hx hy, All2.refl WideP.refl rs⟩
      · have hnb : ∀ e ∈ b, e ≠ 46 := fun e he hh => h46b (hh ▸ he)
        have n1 : ∀ e ∈ a ++ c :: b, e ≠ 46 := fun e he => by
          rcases List.mem_append.1 he with he | he
          · exact hna e he
          · rcases List.mem_cons.1 he with rfl | he
            · exact hc46
            · exact hnb e he
        have n2 : ∀ e ∈ a ++ d :: b, e ≠ 46 := fun e he => by
          rcases List.mem_append.1 he with he | he
          · exact hna e he
          · rcases List.mem_cons.1 he with rfl | he
            · exact hd.2
            · exact hnb e he
        rw [readF_end k _ (fun e he => (hp e he).2) n1] at h1
        rw [readF_end k _ (fun e he => (hp2 e he).2) n2] at h2
        cases hx : partV (a ++ c :: b) with
        | none => rw [hx] at h1; cases h1
        | some x =>
          cases hy : partV (a ++ d :: b) with
          | none => rw [hy] at h2; cases h2
          | some y =>
            rw [hx] at h1
            rw [hy] at h2
            cases h1; cases h2
            exact ⟨partV_wide hw hp hx hy, trivial⟩
/-- a pattern with a wider byte matches what the pattern matches -/
theorem wider_match {c d : UInt8} (hw : widerB c d) (a b : List UInt8) {ps qs : List Pt} (hp : ∀ e ∈ a ++ c :: b, e ≠ 91 ∧ e ≠ 92) (h1 : readV (a ++ c :: b) = some ps) (h2 : readV (a ++ d :: b) = some qs) (P : List (List UInt8)) (hm : mP ps P = true) : mP qs P = true :=
  mP_wide ps qs P (readF_wide hw 16 a b ps qs hp (readV_some h1).2.2 (readV_some h2).2.2) hm
end Go.Proofs.Ytcjehiecgdmidaa
