/- Plain law of PatternItself: the text of a path is a pattern of its names. -/
import Derived.Test.YtcjehiecgdmidaaPtY
set_option linter.unusedVariables false
set_option linter.unusedSimpArgs false
namespace Go.Proofs.Ytcjehiecgdmidaa
open Go.RowKit Go.Shelf

/-- a byte that is an item that matches itself -/
def selfOk (c : UInt8) : Prop := 33 ≤ c.toNat ∧ c.toNat ≤ 126 ∧ c ≠ 46 ∧ c ≠ 92 ∧ c ≠ 93 ∧ c ≠ 91 ∧ c ≠ 42 ∧ c ≠ 63
theorem wildF_self : ∀ s : List UInt8, (∀ c ∈ s, selfOk c) → wildF s.length s = some (s.map byteIt)
  | [], _ => rfl
  | c :: t, h => by
    obtain ⟨h1, h2, h3, h4, h5, h6, h7, h8⟩ := h c (List.mem_cons_self ..)
    have hn : nextV (c :: t) = some (byteIt c, t) := by
      rw [nextV, if_neg (by rintro (h | h | h | h | h); omega; omega; exact h3 h; exact h4 h; exact h5 h), if_neg h6, if_neg h7, if_neg h8]; rfl
    rw [wildF_step _ (by simp), hn]
    simp only [Option.bind_some]
    rw [wildF_self t (fun d hd => h d (List.mem_cons_of_mem _ hd))]; rfl
theorem fixed_self (s : List UInt8) : (Pt.wild (s.map byteIt)).fixed = some s := by
  show (if (s.map byteIt).all It.isPlain then some ((s.map byteIt).map It.self) else none) = some s
  rw [if_pos (by rw [List.all_eq_true]; intro x hx; obtain ⟨c, _, rfl⟩ := List.mem_map.1 hx; rfl), List.map_map]
  congr 1
  exact List.map_id s
theorem partV_name_of {n : List UInt8} (h : vN n = true) (hs : ∀ c ∈ n, c ≠ 42 ∧ c ≠ 63) : ∃ x, partV n = some x ∧ x.fixed = some n := by
  by_cases hh : n.head? = some 92
  · have he : escN n = true := escN_iff.2 ⟨hh, h⟩
    refine ⟨.lit n, ?_, rfl⟩
    unfold partV
    rw [if_neg (fun e => by rw [e] at hh; cases hh), if_pos hh, if_pos he]
  · rw [vN_plain hh, Bool.and_eq_true, Bool.and_eq_true, Bool.and_eq_true] at h
    obtain ⟨hl, hp, _, hok⟩ := h
    have hl' := of_decide_eq_true hl
    refine ⟨.wild (n.map byteIt), ?_, fixed_self n⟩
    unfold partV
    rw [if_neg (fun e => (hs 42 (by rw [e]; simp)).1 rfl), if_neg hh]
    unfold wildV
    rw [if_neg (by rintro (h | h); rw [h] at hl'; simp at hl'; omega)]
    rw [wildF_self n (fun c hc => by
      have h1 := List.all_eq_true.1 hp c hc
      have h2 := List.all_eq_true.1 hok c hc
      unfold prB at h1
      unfold okC at h2
      rw [decide_eq_true_eq] at h1
      simp only [Bool.not_eq_true', Bool.or_eq_false_iff, beq_eq_false_iff_ne] at h2
      exact ⟨h1.1, h1.2, h2.1.1.2, h2.1.1.1, h2.2, h2.1.2, (hs c hc).1, (hs c hc).2⟩)]
    rfl
theorem readF_split : ∀ (k : Nat) (l : List UInt8) (L : List (List UInt8)), splitF k l = some L → (∀ c ∈ l, c ≠ 42 ∧ c ≠ 63) → ∃ ps, readF k l = some ps ∧ ps.map Pt.fixed = L.map some
  | 0, l, L, h, _ => by cases h
  | k + 1, l, L, h, hs => by
    unfold splitF at h
    unfold readF
    cases hv : vN (cutN l).1 with
    | false => rw [hv, if_neg Bool.false_ne_true] at h; cases h
    | true =>
      rw [hv, if_pos rfl] at h
      have hd := cut_dec l (if l.head? = some 92 then [32, 46] else [46])
      have hs1 : ∀ c ∈ (cutN l).1, c ≠ 42 ∧ c ≠ 63 := by
        rcases hd with ⟨hc, _⟩ | ⟨a, r, hl2, hc, _⟩
        · rw [show (cutN l).1 = l from congrArg Prod.fst hc]; exact hs
        · rw [show (cutN l).1 = a from congrArg Prod.fst hc]
          intro c hc2; exact hs c (by rw [hl2]; exact List.mem_append_left _ hc2)
      obtain ⟨x, hx, hfx⟩ := partV_name_of hv hs1
      rw [hx]
      simp only [Option.bind_some]
      rcases hd with ⟨hc, _⟩ | ⟨a, r, hl2, hc, _⟩
      · have hc' : cutN l = (l, [], false) := hc
        rw [hc'] at h ⊢
        rw [if_neg Bool.false_ne_true] at h ⊢
        cases h
        rw [hc'] at hfx
        exact ⟨[x], rfl, by rw [List.map_singleton, List.map_singleton, hfx]⟩
      · have hc' : cutN l = (a, r, true) := hc
        rw [hc'] at h hfx ⊢
        rw [if_pos rfl] at h ⊢
        cases hr : splitF k r with
        | none => rw [hr] at h; cases h
        | some N =>
          rw [hr] at h
          cases h
          obtain ⟨qs, h1, h2⟩ := readF_split k r N hr (fun c hc2 => hs c (by rw [hl2]; exact List.mem_append_right _ (List.mem_append_right _ hc2)))
          exact ⟨x :: qs, by rw [h1]; rfl, by rw [List.map_cons, List.map_cons, hfx, h2]⟩
theorem mP_fixed : ∀ (ps : List Pt) (N P : List (List UInt8)), (∀ x ∈ ps, x.fit) → ps.map Pt.fixed = N.map some → prefixV ps = N ∧ (mP ps P = true ↔ N = P)
  | [], N, P, _, h => by
    have : N = [] := by cases N with | nil => rfl | cons a t => cases h
    subst this
    refine ⟨rfl, ?_⟩
    show P.isEmpty = true ↔ _
    rw [List.isEmpty_iff]
    exact ⟨fun h => h.symm, fun h => h.symm⟩
  | x :: xs, N, P, hf, h => by
    obtain ⟨n, N', rfl⟩ : ∃ n N', N = n :: N' := by cases N with | nil => cases h | cons a t => exact ⟨a, t, rfl⟩
    rw [List.map_cons, List.map_cons] at h
    injection h with h1 h2
    have hfx := hf x (List.mem_cons_self ..)
    have hfs : ∀ y ∈ xs, y.fit := fun y hy => hf y (List.mem_cons_of_mem _ hy)
    refine ⟨?_, ?_⟩
    · have ih := (mP_fixed xs N' [] hfs h2).1
      unfold prefixV
      rw [h1]
      show n :: prefixV xs = _
      rw [ih]
    · cases P with
      | nil =>
        rw [mP_none _ (fixed_ok hfx h1 []).1]
        exact ⟨fun h => (by cases h), fun h => (by cases h)⟩
      | cons m t =>
        have ih := (mP_fixed xs N' t hfs h2).2
        rw [mP_cons _ _ _ (fixed_ok hfx h1 m).1, Bool.and_eq_true, (fixed_ok hfx h1 m).2, ih]
        constructor
        · rintro ⟨rfl, rfl⟩; rfl
        · intro h; injection h with h3 h4; exact ⟨h3.symm, h4⟩
/-- the text of a path as a pattern -/
theorem itself_law (N : List (List UInt8)) (hp : pathL N ≠ []) (hl : (pathL N).length ≤ 200) (hs : ∀ c ∈ pathL N, c ≠ 42 ∧ c ≠ 63) :
    (readV (pathL N)).isSome = true ∧ (∀ P, matchV (pathL N) P = decide (N = P)) ∧ prefV (pathL N) = N := by
  have hv : vpB N = true := by
    unfold pathL at hp
    cases h : vpB N with
    | true => rfl
    | false => rw [h, if_neg Bool.false_ne_true] at hp; exact absurd rfl hp
  have e : pathL N = pj N := by unfold pathL; rw [if_pos hv]
  rw [e] at hp hl hs ⊢
  unfold vpB at hv
  rw [Bool.and_eq_true, decide_eq_true_eq] at hv
  have hsp := splitF_pj 9 N (fun h => by rw [h] at hv; simp at hv) hv.1.2 hv.2
  obtain ⟨ps, h1, h2⟩ := readF_split 9 (pj N) N hsp hs
  have hr : readV (pj N) = some ps := by
    unfold readV
    rw [if_neg (by rintro (h | h); exact hp h; omega)]
    exact readF_more 9 16 _ _ h1 (by decide)
  have hfit := readV_fit hr
  refine ⟨by rw [hr]; rfl, fun P => ?_, ?_⟩
  · unfold matchV
    rw [hr, Bool.eq_iff_iff, decide_eq_true_eq]
    exact (mP_fixed ps N P hfit h2).2
  · unfold prefV
    rw [hr]
    exact (mP_fixed ps N [] hfit h2).1
end Go.Proofs.Ytcjehiecgdmidaa
