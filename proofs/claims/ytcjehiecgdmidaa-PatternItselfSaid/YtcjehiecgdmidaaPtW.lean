/- Plain laws of patterns for the laws 20: bytes, fits, fixed parts. -/
import Derived.Test.YtcjehiecgdmidaaPtN
import Derived.Lib.IndexAny
set_option linter.unusedVariables false
set_option linter.unusedSimpArgs false
namespace Go.Proofs.Ytcjehiecgdmidaa
open Go.RowKit Go.Shelf

theorem containsAny_eq (cs : List UInt8) : ∀ l : List UInt8, Lib.containsAny l cs = l.any (fun c => cs.contains c)
  | [] => rfl
  | b :: l => by
    have ih := containsAny_eq cs l
    rw [List.any_cons, ← ih]
    unfold Lib.containsAny
    have hge := Lib.indexAny_ge cs l
    rw [Lib.indexAny]
    cases cs.contains b with
    | true => rfl
    | false =>
      rw [if_neg Bool.false_ne_true, Bool.false_or]
      by_cases h : Lib.indexAny l cs = -1
      · rw [if_pos (beq_iff_eq.2 h), h]
      · rw [if_neg (fun e => h (beq_iff_eq.1 e)), decide_eq_decide]; omega
theorem elB_lt {c : UInt8} (h : elB c = true) : c.toNat < 128 := by
  unfold elB at h
  rw [Bool.and_eq_true, decide_eq_true_eq] at h
  omega
theorem setF_bytes : ∀ (n : Nat) (b : List UInt8) (f g : UInt8 → Bool), setF n b f = some g → ∀ c ∈ b, c.toNat < 128
  | 0, b, f, g, h => by
    unfold setF at h
    split at h
    · rename_i hb; subst hb; intro c hc; cases hc
    · cases h
  | n + 1, b, f, g, h => by
    unfold setF at h
    by_cases hb : b = []
    · subst hb; intro c hc; cases hc
    · rw [if_neg hb] at h
      cases hg : goodB b with
      | false => rw [hg, if_neg Bool.false_ne_true] at h; cases h
      | true =>
        rw [hg, if_pos rfl] at h
        have ih := setF_bytes n _ _ _ h
        obtain ⟨lo, hi, m, hlo, hhi, hm, ⟨hpos, hg0⟩, hways⟩ := bodyD b hb
        have hgl := hg
        unfold goodB at hgl
        rw [hlo, hhi] at hgl
        simp only [Bool.and_eq_true] at hgl
        obtain ⟨⟨⟨e1, e2⟩, _⟩, _⟩ := hgl
        intro c hc
        rw [← List.take_append_drop (stepB b) b] at hc
        rcases List.mem_append.1 hc with hc | hc
        · obtain ⟨i, hi', hci⟩ := List.mem_iff_getElem.1 hc
          rw [List.length_take] at hi'
          rw [List.getElem_take] at hci
          rw [hm] at hi'
          rcases hways with ⟨h3, rfl, hh, hr⟩ | ⟨h3, h45, rfl, hh, hr⟩ | ⟨h3, h45, h2, rfl, hr⟩
          · have : i = 0 := by omega
            subst this; rw [← hci, hg0]; exact elB_lt e1
          · have : i = 0 := by omega
            subst this; rw [← hci, hg0]; exact elB_lt e1
          · have : i = 0 ∨ i = 1 ∨ i = 2 := by omega
            rcases this with rfl | rfl | rfl
            · rw [← hci, hg0]; exact elB_lt e1
            · rw [← hci, h45]; decide
            · rw [← hci, h2]; exact elB_lt e2
        · exact ih c hc
theorem cutB_some {c : UInt8} {l a r : List UInt8} (h : cutB c l = some (a, r)) : l = a ++ ([c] ++ r) := by
  unfold cutB at h
  by_cases hm : c ∈ l
  · rw [if_pos hm] at h
    simp only [Option.some.injEq, Prod.mk.injEq] at h
    have := cut_mem l hm
    rw [h.1] at this
    rw [← h.2, h.1]; exact this
  · rw [if_neg hm] at h; cases h
theorem setV_some {s t : List UInt8} {x : It} (h : setV s = some (x, t)) : ∃ (pre body : List UInt8) (f : UInt8 → Bool), s = pre ++ (body ++ ([93] ++ t)) ∧ (pre = [] ∨ pre = [33]) ∧ body ≠ [] ∧ setF body.length body (fun _ => false) = some f ∧ x = setIt (if pre = [33] then fun c => !f c else f) := by
  unfold setV at h
  simp only at h
  by_cases hi : s.head? = some 33
  · rw [decide_eq_true hi, if_pos rfl] at h
    obtain ⟨t', rfl⟩ : ∃ t', s = 33 :: t' := by
      cases s with
      | nil => cases hi
      | cons a t' => exact ⟨t', by rw [Option.some.inj hi]⟩
    cases hc : cutB 93 (33 :: t' : List UInt8).tail with
    | none => rw [hc] at h; cases h
    | some p =>
      obtain ⟨body, r⟩ := p
      rw [hc] at h
      simp only [Option.bind_some] at h
      by_cases hb : body = []
      · rw [if_pos hb] at h; cases h
      · rw [if_neg hb] at h
        cases hs : setF body.length body fun _ => false with
        | none => rw [hs] at h; cases h
        | some f =>
          rw [hs] at h
          simp only [Option.map_some, Option.some.injEq, Prod.mk.injEq] at h
          refine ⟨[33], body, f, ?_, .inr rfl, hb, hs, ?_⟩
          · have := cutB_some hc
            rw [← h.2]
            show 33 :: t' = 33 :: _
            congr 1
          · rw [← h.1]; rfl
  · rw [decide_eq_false hi, if_neg Bool.false_ne_true] at h
    cases hc : cutB 93 s with
    | none => rw [hc] at h; cases h
    | some p =>
      obtain ⟨body, r⟩ := p
      rw [hc] at h
      simp only [Option.bind_some] at h
      by_cases hb : body = []
      · rw [if_pos hb] at h; cases h
      · rw [if_neg hb] at h
        cases hs : setF body.length body fun _ => false with
        | none => rw [hs] at h; cases h
        | some f =>
          rw [hs] at h
          simp only [Option.map_some, Option.some.injEq, Prod.mk.injEq] at h
          refine ⟨[], body, f, ?_, .inl rfl, hb, hs, ?_⟩
          · have := cutB_some hc
            rw [← h.2]; exact this
          · rw [← h.1]; rfl
theorem setV_bytes {s t : List UInt8} {x : It} (h : setV s = some (x, t)) (ht : ∀ c ∈ t, c.toNat < 128) : ∀ c ∈ s, c.toNat < 128 := by
  obtain ⟨pre, body, f, rfl, hp, _, hs, _⟩ := setV_some h
  intro c hc
  simp only [List.mem_append, List.mem_singleton] at hc
  rcases hc with hc | hc | hc | hc
  · rcases hp with rfl | rfl
    · cases hc
    · rw [List.mem_singleton.1 hc]; decide
  · exact setF_bytes _ _ _ _ hs c hc
  · rw [hc]; decide
  · exact ht c hc
theorem nextV_cases {s t : List UInt8} {x : It} (h : nextV s = some (x, t)) : ∃ c r, s = c :: r ∧ c.toNat < 128 ∧ ((c = 91 ∧ setV r = some (x, t)) ∨ (c ≠ 91 ∧ t = r ∧ (c = 42 ∨ c = 63 ∨ x = byteIt c))) := by
  cases s with
  | nil => cases h
  | cons c r =>
    refine ⟨c, r, rfl, ?_, ?_⟩
    · rw [nextV] at h
      split at h
      · cases h
      · omega
    · rw [nextV] at h
      split at h
      · cases h
      · split at h
        · rename_i hc; exact .inl ⟨hc, h⟩
        · rename_i hc
          refine .inr ⟨hc, ?_⟩
          split at h
          · rename_i h42
            simp only [Option.some.injEq, Prod.mk.injEq] at h; exact ⟨h.2.symm, .inl h42⟩
          · split at h
            · rename_i h63
              simp only [Option.some.injEq, Prod.mk.injEq] at h; exact ⟨h.2.symm, .inr (.inl h63)⟩
            · simp only [Option.some.injEq, Prod.mk.injEq] at h; exact ⟨h.2.symm, .inr (.inr h.1.symm)⟩
theorem wildF_bytes : ∀ (n : Nat) (s : List UInt8) (w : List It), wildF n s = some w → ∀ c ∈ s, c.toNat < 128
  | 0, s, w, h => by
    unfold wildF at h
    split at h
    · rename_i hb; subst hb; intro c hc; cases hc
    · cases h
  | n + 1, s, w, h => by
    unfold wildF at h
    by_cases hb : s = []
    · subst hb; intro c hc; cases hc
    · rw [if_neg hb] at h
      cases hn : nextV s with
      | none => rw [hn] at h; cases h
      | some p =>
        obtain ⟨x, t⟩ := p
        rw [hn] at h
        simp only [Option.bind_some] at h
        cases hw : wildF n t with
        | none => rw [hw] at h; cases h
        | some w2 =>
          have ih := wildF_bytes n t w2 hw
          obtain ⟨c, r, rfl, hc, hh⟩ := nextV_cases hn
          intro d hd
          rcases List.mem_cons.1 hd with rfl | hd
          · exact hc
          · rcases hh with ⟨_, hs⟩ | ⟨_, rfl, _⟩
            · exact setV_bytes hs ih d hd
            · exact ih d hd
theorem wildF_plain : ∀ (n : Nat) (s : List UInt8) (w : List It), wildF n s = some w → (∀ c ∈ s, c ≠ 42 ∧ c ≠ 63 ∧ c ≠ 91) → w.all It.isPlain = true
  | 0, s, w, h, _ => by
    unfold wildF at h
    split at h
    · cases h; rfl
    · cases h
  | n + 1, s, w, h, hs => by
    unfold wildF at h
    by_cases hb : s = []
    · rw [if_pos hb] at h; cases h; rfl
    · rw [if_neg hb] at h
      cases hn : nextV s with
      | none => rw [hn] at h; cases h
      | some p =>
        obtain ⟨x, t⟩ := p
        rw [hn] at h
        simp only [Option.bind_some] at h
        cases hw : wildF n t with
        | none => rw [hw] at h; cases h
        | some w2 =>
          rw [hw] at h
          simp only [Option.map_some, Option.some.injEq] at h
          obtain ⟨c, r, rfl, hc, hh⟩ := nextV_cases hn
          obtain ⟨n1, n2, n3⟩ := hs c (List.mem_cons_self ..)
          rcases hh with ⟨h91, _⟩ | ⟨_, rfl, h42 | h63 | hx⟩
          · exact absurd h91 n3
          · exact absurd h42 n1
          · exact absurd h63 n2
          · have ih := wildF_plain n t w2 hw (fun d hd => hs d (List.mem_cons_of_mem _ hd))
            rw [← h, List.all_cons, ih, hx]; rfl
theorem partV_some {s : List UInt8} {x : Pt} (h : partV s = some x) : (s = [42, 42] ∧ x = .any) ∨ (s.head? = some 92 ∧ escN s = true ∧ x = .lit s) ∨ (∃ w, wildV s = some w ∧ x = .wild w) := by
  unfold partV at h
  split at h
  · rename_i hs; cases h; exact .inl ⟨hs, rfl⟩
  · split at h
    · rename_i hh
      split at h
      · rename_i he; cases h; exact .inr (.inl ⟨hh, he, rfl⟩)
      · cases h
    · cases hw : wildV s with
      | none => rw [hw] at h; cases h
      | some w => rw [hw] at h; cases h; exact .inr (.inr ⟨w, rfl, rfl⟩)
theorem wildV_some {s : List UInt8} {w : List It} (h : wildV s = some w) : s ≠ [] ∧ s.length ≤ 64 ∧ wildF s.length s = some w := by
  unfold wildV at h
  split at h
  · cases h
  · rename_i hs
    exact ⟨fun e => hs (.inl e), by omega, h⟩
theorem partV_bytes {s : List UInt8} {x : Pt} (h : partV s = some x) : ∀ c ∈ s, c.toNat < 128 := by
  rcases partV_some h with ⟨rfl, _⟩ | ⟨_, he, _⟩ | ⟨w, hw, _⟩
  · decide
  · obtain ⟨h1, h2⟩ := escN_iff.1 he
    rw [vN_esc h1, Bool.and_eq_true] at h2
    intro c hc
    have := List.all_eq_true.1 h2.2 c hc
    unfold prB at this
    rw [decide_eq_true_eq] at this; omega
  · exact wildF_bytes _ _ _ (wildV_some hw).2.2
theorem partV_fit {s : List UInt8} {x : Pt} (h : partV s = some x) : x.fit := by
  rcases partV_some h with ⟨_, rfl⟩ | ⟨_, _, rfl⟩ | ⟨w, hw, rfl⟩
  · exact trivial
  · exact trivial
  · exact wildV_fit hw
theorem partV_fixed {s : List UInt8} {x : Pt} (h : partV s = some x) (hs : ∀ c ∈ s, c ≠ 42 ∧ c ≠ 63 ∧ c ≠ 91) : x.fixed ≠ none := by
  rcases partV_some h with ⟨rfl, _⟩ | ⟨_, _, rfl⟩ | ⟨w, hw, rfl⟩
  · exact absurd rfl (hs 42 (by simp)).1
  · intro e; cases e
  · have hp := wildF_plain _ _ _ (wildV_some hw).2.2 hs
    intro e
    have : (if w.all It.isPlain then some (w.map It.self) else none) = none := e
    rw [if_pos hp] at this; cases this
/-- a reading, part by part -/
theorem readF_all {T : List UInt8 → Prop} {U : Pt → Prop} (hT : ∀ a b : List UInt8, T (a ++ b) → T a ∧ T b) (hU : ∀ s x, partV s = some x → T s → U x) : ∀ (k : Nat) (l : List UInt8) (ps : List Pt), readF k l = some ps → T l → ∀ x ∈ ps, U x
  | 0, l, ps, h, _ => by cases h
  | k + 1, l, ps, h, hl => by
    unfold readF at h
    have hd := cut_dec l (if l.head? = some 92 then [32, 46] else [46])
    cases hp : partV (cutN l).1 with
    | none => rw [hp] at h; cases h
    | some x =>
      rw [hp] at h
      simp only [Option.bind_some] at h
      rcases hd with ⟨hc, _⟩ | ⟨a, r, hl2, hc, _⟩
      · have hc' : cutN l = (l, [], false) := hc
        rw [hc'] at h hp
        rw [if_neg Bool.false_ne_true] at h
        cases h
        intro y hy
        rw [List.mem_singleton.1 hy]
        exact hU _ _ hp hl
      · have hc' : cutN l = (a, r, true) := hc
        rw [hc'] at h hp
        rw [if_pos rfl] at h
        cases hr : readF k r with
        | none => rw [hr] at h; cases h
        | some qs =>
          rw [hr] at h
          cases h
          rw [hl2] at hl
          obtain ⟨t1, t2⟩ := hT _ _ hl
          obtain ⟨_, t3⟩ := hT _ _ t2
          intro y hy
          rcases List.mem_cons.1 hy with rfl | hy
          · exact hU _ _ hp t1
          · exact readF_all hT hU k r qs hr t3 y hy
theorem readV_some {l : List UInt8} {ps : List Pt} (h : readV l = some ps) : l ≠ [] ∧ l.length ≤ 200 ∧ readF 16 l = some ps := by
  unfold readV at h
  split at h
  · cases h
  · rename_i hs
    exact ⟨fun e => hs (.inl e), by omega, h⟩
theorem readV_fit {l : List UInt8} {ps : List Pt} (h : readV l = some ps) : ∀ x ∈ ps, x.fit :=
  readF_all (T := fun _ => True) (U := Pt.fit) (fun _ _ _ => ⟨trivial, trivial⟩) (fun s x hs _ => partV_fit hs) 16 l ps (readV_some h).2.2 trivial
theorem readV_fixed {l : List UInt8} {ps : List Pt} (h : readV l = some ps) (hl : ∀ c ∈ l, c ≠ 42 ∧ c ≠ 63 ∧ c ≠ 91) : ∀ x ∈ ps, x.fixed ≠ none :=
  readF_all (T := fun s => ∀ c ∈ s, c ≠ 42 ∧ c ≠ 63 ∧ c ≠ 91) (U := fun x => x.fixed ≠ none) (fun a b hab => ⟨fun c hc => hab c (List.mem_append_left _ hc), fun c hc => hab c (List.mem_append_right _ hc)⟩) (fun s x hs ht => partV_fixed hs ht) 16 l ps (readV_some h).2.2 hl
theorem readF_bytes : ∀ (k : Nat) (l : List UInt8) (ps : List Pt), readF k l = some ps → ∀ c ∈ l, c.toNat < 128
  | 0, l, ps, h => by cases h
  | k + 1, l, ps, h => by
    unfold readF at h
    have hd := cut_dec l (if l.head? = some 92 then [32, 46] else [46])
    cases hp : partV (cutN l).1 with
    | none => rw [hp] at h; cases h
    | some x =>
      rw [hp] at h
      simp only [Option.bind_some] at h
      have hb := partV_bytes hp
      rcases hd with ⟨hc, _⟩ | ⟨a, r, hl2, hc, _⟩
      · have hc' : cutN l = (l, [], false) := hc
        rw [hc'] at hb
        exact hb
      · have hc' : cutN l = (a, r, true) := hc
        rw [hc'] at h hb
        rw [if_pos rfl] at h
        cases hr : readF k r with
        | none => rw [hr] at h; cases h
        | some qs =>
          have ih := readF_bytes k r qs hr
          intro c hc2
          rw [hl2] at hc2
          rcases List.mem_append.1 hc2 with hc2 | hc2
          · exact hb c hc2
          · rcases List.mem_append.1 hc2 with hc2 | hc2
            · split at hc2
              · simp only [List.mem_cons, List.not_mem_nil, or_false] at hc2
                rcases hc2 with rfl | rfl <;> decide
              · simp only [List.mem_cons, List.not_mem_nil, or_false] at hc2
                rw [hc2]; decide
            · exact ih c hc2
theorem readV_bytes {l : List UInt8} {ps : List Pt} (h : readV l = some ps) : ∀ c ∈ l, c.toNat < 128 := readF_bytes 16 l ps (readV_some h).2.2
end Go.Proofs.Ytcjehiecgdmidaa
