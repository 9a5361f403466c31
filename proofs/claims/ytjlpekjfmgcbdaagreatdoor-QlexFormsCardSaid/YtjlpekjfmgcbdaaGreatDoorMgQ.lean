/- MgQ: the texts QtA QtB QtC QtD QtE in one. -/
import Derived.Test.YtjlpekjfmgcbdaaGreatDoorMgP
import Derived.Lib.QuietBelow
/- Plain: the form of a lexeme; a name's text is read again. -/
set_option linter.unusedVariables false
set_option linter.unusedSimpArgs false
namespace Go.Proofs.YtjlpekjfmgcbdaaGreatDoor
open Go.RowKit Go.Shelf
/-- the form of a lexeme -/
def formQ (k : Int) (t : List UInt8) : List UInt8 :=
  if k = 3 then Lib.decDigits t.length ++ 39 :: 98 :: t else if k = 4 ∧ t = [48] then [48, 46, 48] else if k = 5 then quoQ t else t
/-- what may follow a form -/
def TailQ (R : List UInt8) : Prop := R = [] ∨ ∃ r, R = 32 :: r ∧ r.head? ≠ some 46
/-- what a form begins with -/
def HeadQ (l : List UInt8) : Prop := ∃ c r, l = c :: r ∧ blQ c = false ∧ c ≠ 35 ∧ c ≠ 46
/-- a form is read as its lexeme, whatever follows it -/
def GoodQ (k : Int) (t : List UInt8) : Prop :=
  HeadQ (formQ k t) ∧ ∀ R, TailQ R → ∃ n, readQ (formQ k t ++ R) = ⟨k, t, n, 0⟩ ∧ (n = (formQ k t).length ∨ n = (formQ k t).length + 1 ∧ R ≠ [])
theorem TailQ.none {R : List UInt8} (h : TailQ R) {p : UInt8 → Bool} (hp : p 32 = false) : spn p R = 0 := by
  rcases h with rfl | ⟨r, rfl, _⟩
  · rfl
  · exact spn_no hp
theorem spn_app {p : UInt8 → Bool} : ∀ (T X : List UInt8), (∀ c ∈ T, p c = true) → spn p X = 0 → spn p (T ++ X) = T.length
  | [], X, _, h => h
  | c :: T, X, h, hx => by
    show spn p (c :: (T ++ X)) = T.length + 1
    rw [spn_yes (h c List.mem_cons_self), spn_app T X (fun d hd => h d (List.mem_cons_of_mem _ hd)) hx]
/-- a part of a name, as it is written -/
inductive SegQ : List UInt8 → Bool → Prop where
  | plain {c : UInt8} {t : List UInt8} {b : Bool} (h : fiQ c = true) (ht : ∀ d ∈ c :: t, inQ d = true) : SegQ (c :: t) b
  | mid {t : List UInt8} (ht : ∀ d ∈ t, prQ d = true) (h : t ≠ []) : SegQ (92 :: (t ++ [32])) true
  | last {t : List UInt8} (ht : ∀ d ∈ t, prQ d = true) (h : t ≠ []) : SegQ (92 :: t) false
theorem segQ_seg {l T : List UInt8} {n : Nat} (h : segQ l = some (T, n)) (b : Bool) (hb : b = true ↔ (l.drop n).head? = some 46) : SegQ T b ∧ T.length ≤ n + 1 := by
  cases l with
  | nil => cases h
  | cons c r =>
    rw [segQ] at h
    by_cases hf : fiQ c = true
    · rw [if_pos hf] at h
      cases h
      have h1 : spn inQ (c :: r) = spn inQ r + 1 := spn_yes (by unfold inQ; rw [hf]; rfl)
      have h2 := spn_take8 (p := inQ) (c :: r)
      rw [h1, List.take_succ_cons] at h2
      refine ⟨?_, by rw [List.length_take]; omega⟩
      rw [h1, List.take_succ_cons]
      exact .plain hf h2
    · rw [if_neg hf] at h
      by_cases h92 : c = 92
      · subst h92
        rw [if_pos rfl] at h
        by_cases h0 : spn prQ r = 0
        · rw [if_pos h0] at h; cases h
        · rw [if_neg h0] at h
          have h2 := spn_take8 (p := prQ) r
          have h3 := spn_le prQ r
          have hne : r.take (spn prQ r) ≠ [] := fun e => by
            have := congrArg List.length e
            rw [List.length_take, List.length_nil] at this; omega
          split at h
          · rename_i he
            cases h
            have : b = false := by
              cases b with
              | false => rfl
              | true =>
                have := hb.1 rfl
                rw [List.drop_eq_nil_of_le (by show r.length + 1 ≤ r.length + 1; omega)] at this; cases this
            subst this
            have hl : r.length ≤ spn prQ r := by
              have := congrArg List.length he
              rw [List.length_drop, List.length_nil] at this; omega
            rw [List.take_of_length_le hl] at h2 hne
            exact ⟨.last h2 hne, by show r.length + 1 ≤ r.length + 1 + 1; omega⟩
          · rename_i d r2 he
            split at h
            · cases h
              have hd2 : (92 :: r).drop (spn prQ r + 2) = r2 := by
                show r.drop (spn prQ r + 1) = r2
                rw [← List.drop_drop, he]; rfl
              rw [hd2] at hb
              by_cases h46 : r2.head? = some 46
              · rw [if_pos h46]
                have : b = true := hb.2 h46
                subst this
                refine ⟨.mid h2 hne, ?_⟩
                rw [List.length_append, List.length_cons, List.length_take]
                show _ + 1 + 1 ≤ spn prQ r + 2 + 1; omega
              · rw [if_neg h46, List.append_nil]
                have : b = false := by
                  cases b with
                  | false => rfl
                  | true => exact absurd (hb.1 rfl) h46
                subst this
                refine ⟨.last h2 hne, ?_⟩
                rw [List.length_cons, List.length_take]
                show _ + 1 ≤ spn prQ r + 2 + 1; omega
            · cases h
      · rw [if_neg h92] at h; cases h
theorem segQ_mid {T : List UInt8} (h : SegQ T true) (X : List UInt8) : segQ (T ++ 46 :: X) = some (T, T.length) := by
  generalize hb : true = b at h
  cases h with
  | plain hf ht =>
    rename_i c t
    have hs := spn_app (p := inQ) (c :: t) (46 :: X) ht (spn_no (by decide))
    show segQ (c :: (t ++ 46 :: X)) = _
    rw [segQ, if_pos hf]
    show some (((c :: t) ++ 46 :: X).take (spn inQ ((c :: t) ++ 46 :: X)), spn inQ ((c :: t) ++ 46 :: X)) = _
    rw [hs, List.take_left]
  | mid ht hne =>
    rename_i t
    have hs := spn_app (p := prQ) t (32 :: 46 :: X) ht (spn_no (by decide))
    have h0 : t.length ≠ 0 := fun e => hne (List.eq_nil_of_length_eq_zero e)
    have e : (92 :: (t ++ [32])) ++ 46 :: X = 92 :: (t ++ 32 :: 46 :: X) := by simp
    rw [e, segQ, if_neg (by decide), if_pos rfl, hs, if_neg h0, List.drop_left, List.take_left]
    show (if blQ 32 = true then some ((92 :: t) ++ (if (46 :: X).head? = some 46 then [32] else []), t.length + 2) else none) = _
    rw [if_pos (by decide), List.head?_cons, if_pos rfl]
    simp
  | last ht hne => cases hb
theorem segQ_last {T : List UInt8} (h : SegQ T false) {R : List UInt8} (hR : TailQ R) : ∃ n, segQ (T ++ R) = some (T, n) ∧ (n = T.length ∨ n = T.length + 1 ∧ R ≠ []) ∧ ((T ++ R).drop n).head? ≠ some 46 := by
  generalize hb : false = b at h
  cases h with
  | plain hf ht =>
    rename_i c t
    have hs := spn_app (p := inQ) (c :: t) R ht (hR.none (by decide))
    refine ⟨(c :: t).length, ?_, .inl rfl, ?_⟩
    · show segQ (c :: (t ++ R)) = _
      rw [segQ, if_pos hf]
      show some (((c :: t) ++ R).take (spn inQ ((c :: t) ++ R)), spn inQ ((c :: t) ++ R)) = _
      rw [hs, List.take_left]
    · rw [List.drop_left]
      rcases hR with rfl | ⟨r, rfl, _⟩
      · exact fun e => by cases e
      · exact fun e => by cases e
  | mid ht hne => cases hb
  | last ht hne =>
    rename_i t
    have hs := spn_app (p := prQ) t R ht (hR.none (by decide))
    have h0 : t.length ≠ 0 := fun e => hne (List.eq_nil_of_length_eq_zero e)
    rcases hR with rfl | ⟨r, rfl, hr⟩
    · refine ⟨(92 :: t).length, ?_, .inl rfl, ?_⟩
      · show segQ (92 :: (t ++ [])) = _
        rw [segQ, if_neg (by decide), if_pos rfl, hs, if_neg h0, List.append_nil, List.drop_length]
        rfl
      · rw [List.append_nil, List.drop_length]; exact fun e => by cases e
    · refine ⟨(92 :: t).length + 1, ?_, .inr ⟨rfl, fun e => by cases e⟩, ?_⟩
      · show segQ (92 :: (t ++ 32 :: r)) = _
        rw [segQ, if_neg (by decide), if_pos rfl, hs, if_neg h0, List.drop_left, List.take_left]
        show (if blQ 32 = true then some ((92 :: t) ++ (if r.head? = some 46 then [32] else []), t.length + 2) else none) = _
        rw [if_pos (by decide), if_neg hr, List.append_nil]
        rfl
      · have : ((92 :: t) ++ 32 :: r).drop ((92 :: t).length + 1) = r := by
          rw [← List.drop_drop, List.drop_left]; rfl
        rw [this]; exact hr
theorem SegQ.head {T : List UInt8} {b : Bool} (h : SegQ T b) : ∃ c r, T = c :: r ∧ (fiQ c = true ∨ c = 92) := by
  cases h with
  | plain hf ht => exact ⟨_, _, rfl, .inl hf⟩
  | mid ht hne => exact ⟨_, _, rfl, .inr rfl⟩
  | last ht hne => exact ⟨_, _, rfl, .inr rfl⟩
/-- a name's text is read again -/
theorem path_again : ∀ (k : Nat) (l : List UInt8) (F : List UInt8) (n : Nat), l.length ≤ k → pathR l = some (F, n) →
    F.length ≤ 2 * n ∧ (∃ c r, F = c :: r ∧ (fiQ c = true ∨ c = 92)) ∧ ∀ R, TailQ R → ∃ m, pathR (F ++ R) = some (F, m) ∧ (m = F.length ∨ m = F.length + 1 ∧ R ≠ [])
  | 0, l, F, n, hk, h => by
    obtain rfl := List.eq_nil_of_length_eq_zero (Nat.le_zero.1 hk)
    cases h
  | k + 1, l, F, n, hk, h => by
    rw [pathR_step] at h
    obtain ⟨⟨T, j⟩, hs, h⟩ := Option.bind_eq_some_iff.1 h
    obtain ⟨hj1, hj2⟩ := segQ_len hs
    simp only at hj1 hj2 h
    by_cases h46 : (l.drop j).head? = some 46
    · rw [if_pos h46] at h
      obtain ⟨⟨F2, n2⟩, hp, h⟩ := Option.map_eq_some_iff.1 h
      cases h
      obtain ⟨hT, hTl⟩ := segQ_seg hs true ⟨fun _ => h46, fun _ => rfl⟩
      obtain ⟨hlen, _, hR⟩ := path_again k (l.drop (j + 1)) F2 n2 (by rw [List.length_drop]; omega) hp
      refine ⟨by show (T ++ 46 :: F2).length ≤ 2 * (j + 1 + n2); rw [List.length_append, List.length_cons]; omega, ?_, fun R hr => ?_⟩
      · obtain ⟨c, r, rfl, hc⟩ := hT.head
        exact ⟨c, r ++ 46 :: F2, rfl, hc⟩
      · obtain ⟨m, hm, hm2⟩ := hR R hr
        refine ⟨T.length + 1 + m, ?_, ?_⟩
        · show pathR ((T ++ 46 :: F2) ++ R) = _
          have e : (T ++ 46 :: F2) ++ R = T ++ 46 :: (F2 ++ R) := by simp
          rw [e, pathR_step, segQ_mid hT]
          simp only [Option.bind_some]
          have hd : (T ++ 46 :: (F2 ++ R)).drop (T.length + 1) = F2 ++ R := by rw [← List.drop_drop, List.drop_left]; rfl
          rw [List.drop_left, List.head?_cons, if_pos rfl, hd, hm]; rfl
        · show _ = (T ++ 46 :: F2).length ∨ _ = (T ++ 46 :: F2).length + 1 ∧ _
          rw [List.length_append, List.length_cons]
          rcases hm2 with hm2 | ⟨hm2, hne⟩
          · exact .inl (by omega)
          · exact .inr ⟨by omega, hne⟩
    · rw [if_neg h46] at h
      cases h
      obtain ⟨hT, hTl⟩ := segQ_seg hs false ⟨(fun e => absurd e (by decide)), (fun e => absurd e h46)⟩
      refine ⟨by omega, hT.head, fun R hr => ?_⟩
      obtain ⟨m, hm, hm2, hm3⟩ := segQ_last hT hr
      refine ⟨m, ?_, hm2⟩
      rw [pathR_step, hm]
      simp only [Option.bind_some]
      rw [if_neg hm3]
theorem formQ_name (t : List UInt8) : formQ 0 t = t := by unfold formQ; rw [if_neg (by decide), if_neg (by rintro ⟨h, _⟩; revert h; decide), if_neg (by decide)]
theorem pathQ_of (l : List UInt8) : pathQ l = pathW (pathR l) := rfl
theorem fi_head : ∀ c : UInt8, (fiQ c = true ∨ c = 92) → blQ c = false ∧ c ≠ 35 ∧ c ≠ 46 := fun c => all_bytes (p := fun c => (fiQ c = true ∨ c = 92) → blQ c = false ∧ c ≠ 35 ∧ c ≠ 46) (by decide +kernel) c
/-- names -/
theorem good_name {l : List UInt8} (h : (pathQ l).err = 0) : (pathQ l).kind = 0 ∧ GoodQ 0 (pathQ l).text ∧ (formQ 0 (pathQ l).text).length + 1 ≤ 40 * (pathQ l).size := by
  rw [pathQ_of] at h ⊢
  cases hp : pathR l with
  | none => rw [hp] at h; exact absurd h (by decide)
  | some p =>
    obtain ⟨F, n⟩ := p
    obtain ⟨h1, ⟨c, r, hF, hc⟩, h3⟩ := path_again l.length l F n (Nat.le_refl _) hp
    have hn1 : 1 ≤ n := by
      have : 0 < F.length := by rw [hF]; simp
      omega
    obtain ⟨g1, g2, g3⟩ := fi_head c hc
    refine ⟨rfl, ⟨?_, fun R hR => ?_⟩, ?_⟩
    · show HeadQ (formQ 0 F)
      rw [formQ_name]; exact ⟨c, r, hF, g1, g2, g3⟩
    · show ∃ n, readQ (formQ 0 F ++ R) = ⟨0, F, n, 0⟩ ∧ _
      rw [formQ_name]
      obtain ⟨m, hm, hm2⟩ := h3 R hR
      refine ⟨m, ?_, hm2⟩
      have e : F ++ R = c :: (r ++ R) := by rw [hF]; rfl
      rw [e, readQ_cons, if_pos hc, ← e, pathQ_of, hm]; rfl
    · show (formQ 0 F).length + 1 ≤ 40 * n
      rw [formQ_name]; omega
end Go.Proofs.YtjlpekjfmgcbdaaGreatDoor

/- Plain: numbers, constants, reals, strings and symbols are read again from their forms. -/
set_option linter.unusedVariables false
set_option linter.unusedSimpArgs false
namespace Go.Proofs.YtjlpekjfmgcbdaaGreatDoor
open Go.RowKit Go.Shelf
theorem dropWhile_again {p : UInt8 → Bool} : ∀ l : List UInt8, (l.dropWhile p).dropWhile p = l.dropWhile p
  | [] => rfl
  | c :: t => by
    rw [List.dropWhile_cons]
    cases h : p c with
    | true => rw [if_pos rfl]; exact dropWhile_again t
    | false => rw [if_neg (by decide), List.dropWhile_cons, h, if_neg (by decide)]
theorem stripQ_again (l : List UInt8) : stripQ (stripQ l) = stripQ l := by
  unfold stripQ
  by_cases h : l.dropWhile (· == 48) = []
  · rw [if_pos h]; decide
  · rw [if_neg h, dropWhile_again, if_neg h]
theorem stripQ_mem {l : List UInt8} (h : l ≠ []) : ∀ c ∈ stripQ l, c = 48 ∨ c ∈ l := by
  intro c hc
  unfold stripQ at hc
  by_cases h : l.dropWhile (· == 48) = []
  · rw [if_pos h] at hc; exact .inl (by simpa using hc)
  · rw [if_neg h] at hc; exact .inr ((List.dropWhile_suffix _).subset hc)
theorem stripQ_ne (l : List UInt8) : stripQ l ≠ [] := by
  unfold stripQ
  by_cases h : l.dropWhile (· == 48) = []
  · rw [if_pos h]; decide
  · rw [if_neg h]; exact h
theorem dg_head : ∀ c : UInt8, dgQ c = true → blQ c = false ∧ c ≠ 35 ∧ c ≠ 46 ∧ fiQ c = false ∧ c ≠ 92 := fun c => all_bytes (p := fun c => dgQ c = true → blQ c = false ∧ c ≠ 35 ∧ c ≠ 46 ∧ fiQ c = false ∧ c ≠ 92) (by decide +kernel) c
theorem readQ_dg {c : UInt8} {r : List UInt8} (h : dgQ c = true) : readQ (c :: r) = numQ (c :: r) := by
  obtain ⟨_, _, _, h1, h2⟩ := dg_head c h
  rw [readQ_cons, if_neg (by rintro (h3 | h3); rw [h1] at h3; cases h3; exact h2 h3), if_pos h]
/-- what may follow digits that nothing continues -/
def EndQ (X : List UInt8) : Prop := X = [] ∨ ∃ d x, X = d :: x ∧ dgQ d = false ∧ d ≠ 39 ∧ d ≠ 46 ∧ lowQ d ≠ 101
theorem EndQ.of {U R : List UInt8} (hU : U = [] ∨ U ∈ unitsQ) (hR : TailQ R) : EndQ (U ++ R) := by
  rcases hU with rfl | hU
  · rcases hR with rfl | ⟨r, rfl, _⟩
    · exact .inl rfl
    · exact .inr ⟨32, r, rfl, by decide, by decide, by decide, by decide⟩
  · right
    simp only [unitsQ, List.mem_cons, List.not_mem_nil, or_false] at hU
    rcases hU with rfl | rfl | rfl | rfl | rfl | rfl <;> exact ⟨_, _, rfl, by decide, by decide, by decide, by decide⟩
theorem EndQ.spn {X : List UInt8} (h : EndQ X) : spn dgQ X = 0 := by
  rcases h with rfl | ⟨d, x, rfl, h, _⟩
  · rfl
  · exact spn_no h
theorem EndQ.get {S X : List UInt8} (h : EndQ X) : (S ++ X).getD S.length 0 ≠ 39 := by
  rw [List.getD_eq_getElem?_getD, List.getElem?_append_right (Nat.le_refl _), Nat.sub_self]
  rcases h with rfl | ⟨d, x, rfl, _, h, _⟩
  · decide
  · exact h
theorem EndQ.exp {S X : List UInt8} (h : EndQ X) : expQ (S ++ X) (dotQ (S ++ X) S.length) = S.length := by
  rcases h with rfl | ⟨d, x, rfl, _, _, h1, h2⟩
  · rw [List.append_nil, dotQ_end (by omega), expQ_nil (Nat.le_refl _)]
  · have hlt : S.length < (S ++ d :: x).length := by rw [List.length_append, List.length_cons]; omega
    have hd : (S ++ d :: x)[S.length]'hlt = d := by rw [List.getElem_append_right (Nat.le_refl _)]; simp
    rw [dotQ_no hlt (by rw [hd]; exact h1), expQ_no hlt (by rw [hd]; exact h2)]
theorem tail_tl {R : List UInt8} (hR : TailQ R) : spn tlQ R = 0 := hR.none (by decide)
/-- numbers and times -/
theorem good_num {S U R : List UInt8} (hS : ∀ c ∈ S, dgQ c = true) (hne : S ≠ []) (hst : stripQ S = S) (h15 : S.length ≤ 15) (hU : U = [] ∨ U ∈ unitsQ) (hR : TailQ R) :
    readQ ((S ++ U) ++ R) = ⟨if U = [] then 1 else 2, S ++ U, (S ++ U).length, 0⟩ := by
  have hE := EndQ.of hU hR
  have hn := spn_app S (U ++ R) hS hE.spn
  have h0 : S.length ≠ 0 := fun e => hne (List.eq_nil_of_length_eq_zero e)
  have hUt : ∀ c ∈ U, tlQ c = true := by
    rcases hU with rfl | hU
    · intro c hc; cases hc
    · exact unit_tl U hU
  have hsp := spn_app U R hUt (tail_tl hR)
  have hdr : (S ++ (U ++ R)).drop S.length = U ++ R := List.drop_left
  have htk : (S ++ (U ++ R)).take S.length = S := List.take_left
  obtain ⟨c, r, rfl⟩ : ∃ c r, S = c :: r := by
    cases S with
    | nil => exact absurd rfl hne
    | cons c r => exact ⟨c, r, rfl⟩
  have e : (c :: r ++ U) ++ R = c :: r ++ (U ++ R) := List.append_assoc _ _ _
  rw [e]
  have e2 : readQ (c :: r ++ (U ++ R)) = numQ (c :: r ++ (U ++ R)) := readQ_dg (hS c List.mem_cons_self)
  rw [e2, numQ_rest hn h0 hE.get hE.exp (by omega), hdr, htk, hsp, List.take_left, stripR_eq _ hne, hst]
  have hz : U.length = 0 ↔ U = [] := List.length_eq_zero_iff
  by_cases hu : U = []
  · rw [if_pos (.inl (hz.2 hu)), if_neg (by omega), if_pos (hz.2 hu), if_pos hu]
    rw [List.length_append]; rfl
  · rw [if_pos (.inr (hU.resolve_left hu)), if_neg (by omega), if_neg (fun e => hu (hz.1 e)), if_neg hu]
    rw [List.length_append]; rfl
theorem formQ_plain {k : Int} (h : k = 0 ∨ k = 1 ∨ k = 2 ∨ k = 6) (t : List UInt8) : formQ k t = t := by
  rcases h with rfl | rfl | rfl | rfl <;> (unfold formQ; rw [if_neg (by decide), if_neg (by rintro ⟨h, _⟩; revert h; decide), if_neg (by decide)])
theorem HeadQ.dg {l : List UInt8} (h1 : l ≠ []) (h2 : ∀ c ∈ l, dgQ c = true) (x : List UInt8) : HeadQ (l ++ x) := by
  cases l with
  | nil => exact absurd rfl h1
  | cons c r =>
    obtain ⟨a, b, d, _⟩ := dg_head c (h2 c List.mem_cons_self)
    exact ⟨c, r ++ x, rfl, a, b, d⟩
theorem good_number {S U : List UInt8} (hS : ∀ c ∈ S, dgQ c = true) (hne : S ≠ []) (hst : stripQ S = S) (h15 : S.length ≤ 15) (hU : U = [] ∨ U ∈ unitsQ) : GoodQ (if U = [] then 1 else 2) (S ++ U) := by
  have hk : (if U = [] then 1 else 2 : Int) = 0 ∨ (if U = [] then 1 else 2 : Int) = 1 ∨ (if U = [] then 1 else 2 : Int) = 2 ∨ (if U = [] then 1 else 2 : Int) = 6 := by
    by_cases h : U = []
    · rw [if_pos h]; exact .inr (.inl rfl)
    · rw [if_neg h]; exact .inr (.inr (.inl rfl))
  refine ⟨?_, fun R hR => ?_⟩
  · rw [formQ_plain hk]; exact HeadQ.dg hne hS U
  · rw [formQ_plain hk]; exact ⟨_, good_num hS hne hst h15 hU hR, .inl rfl⟩
/-- constants -/
def chQ (c : UInt8) : Bool := c == 48 || c == 49 || c == 120 || c == 122
theorem chQ_of {c : UInt8} (h : c = 48 ∨ c = 49 ∨ c = 120 ∨ c = 122) : chQ c = true := by rcases h with rfl | rfl | rfl | rfl <;> rfl
theorem chQ_cases : ∀ c : UInt8, chQ c = true → c = 48 ∨ c = 49 ∨ c = 120 ∨ c = 122 := fun c => all_bytes (p := fun c => chQ c = true → c = 48 ∨ c = 49 ∨ c = 120 ∨ c = 122) (by decide +kernel) c
theorem unkQ_ch (c : UInt8) (h : unkQ c ≠ 0) : chQ (unkQ c) = true := by
  unfold unkQ at h ⊢
  by_cases hx : lowQ c = 120 ∨ lowQ c = 122
  · rw [if_pos hx]
    rcases hx with hx | hx <;> rw [hx] <;> rfl
  · rw [if_neg hx] at h; exact absurd rfl h
theorem binQ_ch : ∀ (n v : Nat), ∀ c ∈ binQ n v, chQ c = true
  | 0, _, c, h => by cases h
  | n + 1, v, c, h => by
    rw [binQ_succ] at h
    rcases List.mem_append.1 h with h | h
    · exact binQ_ch n _ c h
    · have : c = bitQ v := by simpa using h
      rw [this]; unfold bitQ
      split <;> rfl
theorem spellQ_ch (k : Nat) : ∀ l : List UInt8, ∀ c ∈ spellQ k l, chQ c = true
  | [], c, h => by cases h
  | x :: t, c, h => by
    by_cases hx : unkQ x ≠ 0
    · rw [spellQ_yes k t hx] at h
      rcases List.mem_append.1 h with h | h
      · rw [List.eq_of_mem_replicate h]; exact unkQ_ch x hx
      · exact spellQ_ch k t c h
    · rw [spellQ_no k t (by simpa using hx)] at h
      rcases List.mem_append.1 h with h | h
      · exact binQ_ch _ _ c h
      · exact spellQ_ch k t c h
theorem decBits_ch : ∀ (ds : List UInt8) (v : Nat), ∀ c ∈ decBitsF ds v, chQ c = true
  | [], v, c, h => binQ_ch 140 v c h
  | x :: t, v, c, h => by
    unfold decBitsF at h
    split at h
    · rcases List.mem_cons.1 h with rfl | h
      · rfl
      · exact binQ_ch _ _ c h
    · exact decBits_ch t _ c h
theorem fitQ_ok {w : Nat} {u : UInt8} {out : List UInt8} (hu : u ≠ 0 → chQ u = true) (ho : ∀ c ∈ out, chQ c = true) (h : (fitQ w u out).2 = 0) : (fitQ w u out).1.length = w ∧ ∀ c ∈ (fitQ w u out).1, chQ c = true := by
  unfold fitQ at h ⊢
  by_cases h1 : out.length < w
  · rw [if_pos h1]
    refine ⟨by rw [List.length_append, List.length_replicate]; omega, fun c hc => ?_⟩
    rcases List.mem_append.1 hc with hc | hc
    · rw [List.eq_of_mem_replicate hc]
      by_cases h2 : u ≠ 0
      · rw [if_pos h2]; exact hu h2
      · rw [if_neg h2]; rfl
    · exact ho c hc
  · rw [if_neg h1] at h ⊢
    by_cases h2 : (out.take (out.length - w)).all (· == 48) = true
    · rw [if_pos h2]
      exact ⟨by rw [List.length_drop]; omega, fun c hc => ho c (List.mem_of_mem_drop hc)⟩
    · rw [if_neg h2] at h; exact absurd h (by decide)
theorem bitsW_ok {d : List UInt8} {b : UInt8} {ds : List UInt8} (h : (bitsW d b ds).2 = 0) : 1 ≤ (bitsW d b ds).1.length ∧ (bitsW d b ds).1.length ≤ 128 ∧ ∀ c ∈ (bitsW d b ds).1, chQ c = true := by
  unfold bitsW at h ⊢
  by_cases c1 : b = 100 ∧ ¬ (ds.length = 1 ∧ unkQ (ds.headD 0) ≠ 0) ∧ spn dgQ ds < ds.length
  · rw [if_pos c1] at h; exact absurd h (by decide)
  · rw [if_neg c1] at h ⊢
    by_cases c2 : widthQ d < 1 ∨ 128 < widthQ d
    · rw [if_pos c2] at h; exact absurd h (by decide)
    · rw [if_neg c2] at h ⊢
      by_cases c3 : b = 100 ∧ ds.length = 1 ∧ unkQ (ds.headD 0) ≠ 0
      · rw [if_pos c3]
        exact ⟨by show 1 ≤ (List.replicate _ _).length; rw [List.length_replicate]; omega, by show (List.replicate _ _).length ≤ 128; rw [List.length_replicate]; omega, fun c hc => by rw [List.eq_of_mem_replicate hc]; exact unkQ_ch _ c3.2.2⟩
      · rw [if_neg c3] at h ⊢
        have ho : ∀ c ∈ outQ b ds, chQ c = true := by
          unfold outQ
          by_cases c4 : b = 100
          · rw [if_pos c4]; exact decBits_ch ds 0
          · rw [if_neg c4]; exact spellQ_ch _ ds
        obtain ⟨h1, h2⟩ := fitQ_ok (unkQ_ch _) ho h
        exact ⟨by omega, by omega, h2⟩
theorem bitsQ_ok {l : List UInt8} (h : (bitsQ l).2 = 0) : 1 ≤ (bitsQ l).1.length ∧ (bitsQ l).1.length ≤ 128 ∧ ∀ c ∈ (bitsQ l).1, chQ c = true := by
  by_cases h0 : spn dgQ l = 0
  · rw [bitsQ_none h0] at h; exact absurd h (by decide)
  · by_cases hc : constQ l (spn dgQ l) = l.length
    · rw [bitsQ_of h0 hc] at h ⊢; exact bitsW_ok h
    · rw [bitsQ_form hc] at h; exact absurd h (by decide)
theorem ch_ofQ : ∀ c : UInt8, chQ c = true → ofQ 98 c = true ∧ (unkQ c ≠ 0 → unkQ c = c) ∧ (unkQ c = 0 → binQ 1 (hexQ c).toNat = [c]) :=
  fun c => all_bytes (p := fun c => chQ c = true → ofQ 98 c = true ∧ (unkQ c ≠ 0 → unkQ c = c) ∧ (unkQ c = 0 → binQ 1 (hexQ c).toNat = [c])) (by decide +kernel) c
theorem spellQ_one : ∀ t : List UInt8, (∀ c ∈ t, chQ c = true) → spellQ 1 t = t
  | [], _ => rfl
  | c :: t, h => by
    obtain ⟨_, h1, h2⟩ := ch_ofQ c (h c List.mem_cons_self)
    have ih := spellQ_one t (fun d hd => h d (List.mem_cons_of_mem _ hd))
    by_cases hu : unkQ c ≠ 0
    · rw [spellQ_yes 1 t hu, ih, h1 hu]; rfl
    · have hu : unkQ c = 0 := by simpa using hu
      rw [spellQ_no 1 t hu, ih, h2 hu]; rfl
theorem isD_dg : ∀ c : UInt8, isD c = true → dgQ c = true := fun c => all_bytes (p := fun c => isD c = true → dgQ c = true) (by decide +kernel) c
theorem dec_dg (n : Nat) : ∀ c ∈ Lib.decDigits n, dgQ c = true := fun c hc => isD_dg c ((dec_all n).1 c hc)
theorem dec_ne (n : Nat) : Lib.decDigits n ≠ [] := fun e => by
  have := (dec_all n).2.2.1
  rw [e] at this; exact absurd this (by decide)
theorem widthQ_dec (n : Nat) (h : n ≤ 128) : widthQ (Lib.decDigits n) = n := by
  have h2 := widthQ_val (Lib.decDigits n) 0
  have h3 : (Lib.decDigits n).foldl (fun v c => 10 * v + (c.toNat - 48)) 0 = n := (dec_all n).2.1
  rw [h3] at h2
  rw [widthQ_eq]
  have h4 : (Lib.decDigits n).foldl stepW 0 = min n 1000 := h2
  rw [h4]; omega
theorem bitsQ_again {t : List UInt8} (h1 : 1 ≤ t.length) (h2 : t.length ≤ 128) (hc : ∀ c ∈ t, chQ c = true) :
    bitsQ (Lib.decDigits t.length ++ 39 :: 98 :: t) = (t, 0) ∧ ∀ R, TailQ R → constQ (Lib.decDigits t.length ++ 39 :: 98 :: (t ++ R)) (Lib.decDigits t.length).length = (Lib.decDigits t.length ++ 39 :: 98 :: t).length := by
  have hD := dec_dg t.length
  have hw := widthQ_dec t.length h2
  have hd0 := (dec_all t.length).2.2.1
  have hne : t ≠ [] := fun e => by rw [e] at h1; exact absurd h1 (by decide)
  generalize Lib.decDigits t.length = D at *
  have hC : ∀ R, TailQ R → constQ (D ++ 39 :: 98 :: (t ++ R)) D.length = (D ++ 39 :: 98 :: t).length := by
    intro R hR
    have hs := spn_app (p := ofQ (lowQ 98)) t R (fun c h => (ch_ofQ c (hc c h)).1) (hR.none (by decide))
    unfold constQ
    rw [List.drop_left]
    show (if t ++ R = [] ∨ baseQ (lowQ 98) = none ∨ ltQ 98 = false then 0 else if spn (ofQ (lowQ 98)) (t ++ R) = 0 then 0 else D.length + 2 + spn (ofQ (lowQ 98)) (t ++ R)) = _
    rw [if_neg (by rintro (h | h | h); exact hne (List.append_eq_nil_iff.1 h).1; revert h; decide; revert h; decide), hs, if_neg (by omega)]
    rw [List.length_append, List.length_cons, List.length_cons]; omega
  refine ⟨?_, hC⟩
  have hn : spn dgQ (D ++ 39 :: 98 :: t) = D.length := spn_app D _ hD (spn_no (by decide))
  have hc0 := hC [] (.inl rfl)
  rw [List.append_nil] at hc0
  rw [bitsQ_of (by rw [hn]; omega) (by rw [hn]; exact hc0), hn, List.take_left]
  have e1 : (D ++ 39 :: 98 :: t).getD (D.length + 1) 0 = 98 := by
    rw [List.getD_eq_getElem?_getD, List.getElem?_append_right (by omega), Nat.add_sub_cancel_left]; rfl
  have e2 : (D ++ 39 :: 98 :: t).drop (D.length + 2) = t := by rw [← List.drop_drop, List.drop_left]; rfl
  rw [e1, e2]
  unfold bitsW
  have h98 : lowQ 98 = 98 := by decide
  rw [h98, if_neg (by rintro ⟨h, _⟩; revert h; decide), hw, if_neg (by omega), if_neg (by rintro ⟨h, _⟩; revert h; decide)]
  have ho : outQ 98 t = t := by
    unfold outQ
    rw [if_neg (by decide)]
    exact spellQ_one t hc
  rw [ho]
  unfold fitQ
  rw [if_neg (by omega), Nat.sub_self, List.take_zero, List.drop_zero]; rfl
theorem aloneQ_tail {F R : List UInt8} (hR : TailQ R) : aloneQ (F ++ R) F.length = true := by
  unfold aloneQ
  rw [List.drop_left]
  rcases hR with rfl | ⟨r, rfl, _⟩ <;> rfl
theorem formQ_bits (t : List UInt8) : formQ 3 t = Lib.decDigits t.length ++ 39 :: 98 :: t := by unfold formQ; rw [if_pos rfl]
theorem good_bits {t : List UInt8} (h1 : 1 ≤ t.length) (h2 : t.length ≤ 128) (hc : ∀ c ∈ t, chQ c = true) : GoodQ 3 t := by
  obtain ⟨hb, hC⟩ := bitsQ_again h1 h2 hc
  have hD := dec_dg t.length
  have hd0 := dec_ne t.length
  rw [GoodQ, formQ_bits]
  refine ⟨HeadQ.dg hd0 hD _, fun R hR => ?_⟩
  have hC := hC R hR
  generalize Lib.decDigits t.length = D at *
  refine ⟨_, ?_, .inl rfl⟩
  have e : (D ++ 39 :: 98 :: t) ++ R = D ++ 39 :: 98 :: (t ++ R) := by simp
  have e2 : readQ (D ++ 39 :: 98 :: (t ++ R)) = numQ (D ++ 39 :: 98 :: (t ++ R)) := by
    cases D with
    | nil => exact absurd rfl hd0
    | cons c r => exact readQ_dg (hD c List.mem_cons_self)
  have hn : spn dgQ (D ++ 39 :: 98 :: (t ++ R)) = D.length := spn_app D _ hD (spn_no (by decide))
  have ha : aloneQ (D ++ 39 :: 98 :: (t ++ R)) (D ++ 39 :: 98 :: t).length = true := by rw [← e]; exact aloneQ_tail hR
  have ht : (D ++ 39 :: 98 :: (t ++ R)).take (D ++ 39 :: 98 :: t).length = D ++ 39 :: 98 :: t := by rw [← e, List.take_left]
  rw [e, e2]
  unfold numQ numW
  rw [hn, hC, if_pos (by rw [List.length_append, List.length_cons]; omega), if_pos ha, ht, hb]
/-- symbols -/
theorem good_sym {u : List UInt8} (h : u ∈ symsQ) : GoodQ 6 u := by
  rw [GoodQ, formQ_plain (.inr (.inr (.inr rfl)))]
  simp only [symsQ, List.mem_cons, List.not_mem_nil, or_false] at h
  rcases h with rfl | rfl | rfl | rfl | rfl | rfl | rfl | rfl | rfl | rfl | rfl | rfl | rfl | rfl | rfl | rfl | rfl | rfl | rfl | rfl | rfl | rfl | rfl | rfl | rfl | rfl <;>
    (refine ⟨⟨_, _, rfl, by decide, by decide, by decide⟩, fun R hR => ⟨_, ?_, .inl rfl⟩⟩
     rcases hR with rfl | ⟨r, rfl, _⟩ <;> rfl)
/-- strings -/
theorem unqW_len : ∀ (n : Nat) (m o : List UInt8), m.length ≤ n → unqW m = some o → o.length ≤ m.length
  | n, [], o, _, h => by rw [unqW_nil] at h; cases h; exact Nat.le_refl _
  | 0, c :: t, o, hn, _ => absurd hn (by rw [List.length_cons]; omega)
  | n + 1, c :: t, o, hn, h => by
    cases hs : stepU (c :: t) with
    | none => rw [unqW_stop hs (by simp)] at h; cases h
    | some p =>
      obtain ⟨d, k⟩ := p
      obtain ⟨h1, h2⟩ := stepU_pos hs
      rw [unqW_step hs] at h
      obtain ⟨o2, ho, h⟩ := Option.map_eq_some_iff.1 h
      cases h
      simp only at h1 h2
      have := unqW_len n ((c :: t).drop k) o2 (by rw [List.length_drop, List.length_cons]; rw [List.length_cons] at hn; omega) ho
      rw [List.length_drop] at this
      rw [List.length_cons]; omega
theorem unqQ_ok {l : List UInt8} (h : (unqQ l).2 = 0) : (unqQ l).1.length ≤ 64 ∧ (unqQ l).1.length + 2 ≤ l.length := by
  by_cases hb : l.length < 2 ∨ l.head? ≠ some 34 ∨ l.getLast? ≠ some 34
  · rw [unqQ_bad hb] at h; exact absurd h (by decide)
  · rw [unqQ_mid hb] at h ⊢
    unfold unqR at h ⊢
    cases hu : unqW ((l.drop 1).take (l.length - 2)) with
    | none => rw [hu] at h; exact absurd h (by decide)
    | some o =>
      have hl := unqW_len _ _ o (Nat.le_refl _) hu
      rw [List.length_take, List.length_drop] at hl
      have h2 : ¬ l.length < 2 := fun h3 => hb (.inl h3)
      rw [hu] at h
      simp only at h ⊢
      by_cases h6 : 64 < o.length
      · rw [if_pos h6] at h; exact absurd h (by decide)
      · rw [if_neg h6]; exact ⟨by show o.length ≤ 64; omega, by show o.length + 2 ≤ _; omega⟩
theorem closeW_quoR : ∀ (l R : List UInt8), closeW (l.flatMap escQ ++ 34 :: R) = (l.flatMap escQ).length
  | [], R => closeW_end R
  | c :: t, R => by rw [escs_cons, List.append_assoc, closeW_escs, closeW_quoR t R, List.length_append]
theorem formQ_str (t : List UInt8) : formQ 5 t = quoQ t := by unfold formQ; rw [if_neg (by decide), if_neg (by rintro ⟨h, _⟩; revert h; decide), if_pos rfl]
theorem good_str {t : List UInt8} (h : t.length ≤ 64) : GoodQ 5 t := by
  rw [GoodQ, formQ_str]
  have hq := quoQ_eq t
  refine ⟨⟨34, _, hq, by decide, by decide, by decide⟩, fun R hR => ⟨_, ?_, .inl rfl⟩⟩
  have hlen := quoQ_len t
  have e : quoQ t ++ R = 34 :: (t.flatMap escQ ++ 34 :: R) := by rw [hq]; simp
  have e2 : readQ (quoQ t ++ R) = quotedQ (quoQ t ++ R) := by
    rw [e, readQ_cons, if_neg (by decide), if_neg (by decide), if_pos rfl]
  have hc : closeW ((quoQ t ++ R).drop 1) = (t.flatMap escQ).length := by rw [e]; exact closeW_quoR t R
  rw [e2, quotedQ_eq, hc]
  unfold quotedW
  have hE : 1 + (t.flatMap escQ).length + 1 = (quoQ t).length := by omega
  rw [hE, if_neg (by rw [List.length_append]; omega), List.take_left, unqQ_quo, if_neg (by omega)]
/-- reals -/
theorem formQ_zero : formQ 4 [48] = [48, 46, 48] := by decide
theorem formQ_real {t : List UInt8} (h : t ≠ [48]) : formQ 4 t = t := by unfold formQ; rw [if_neg (by decide), if_neg (fun e => h e.2), if_neg (by decide)]
end Go.Proofs.YtjlpekjfmgcbdaaGreatDoor

/- Plain: reals are read again; valid lexemes; what Join of lexemes is read as. -/
set_option linter.unusedVariables false
set_option linter.unusedSimpArgs false
namespace Go.Proofs.YtjlpekjfmgcbdaaGreatDoor
open Go.RowKit Go.Shelf
theorem scanV_sign {l : List UInt8} {p : Bool × List UInt8 × List UInt8 × Bool × List UInt8} (h : scanV l = some p) : p.1 = (signV l).1 := by
  unfold scanV at h
  split at h
  · cases h
  · obtain ⟨f, hf, h⟩ := Option.bind_eq_some_iff.1 h
    obtain ⟨x, hx, h⟩ := Option.bind_eq_some_iff.1 h
    split at h
    · cases h; rfl
    · cases h
theorem dg_isD : ∀ c : UInt8, dgQ c = true → isD c = true := fun c => all_bytes (p := fun c => dgQ c = true → isD c = true) (by decide +kernel) c
/-- the text of a real -/
theorem realQ_shape {l : List UInt8} (hd : ∀ c, l.head? = some c → dgQ c = true) (h : (realQ l).2 = 0) :
    (realQ l).1 = [48] ∨ ∃ (t0 : UInt8) (t E D : List UInt8), (realQ l).1 = t0 :: ((if 0 < t.length then 46 :: t else []) ++ 101 :: E) ∧ dgQ t0 = true ∧ (∀ c ∈ t, dgQ c = true) ∧ t.length ≤ 16 ∧
      (E = 45 :: D ∨ E = D) ∧ D ≠ [] ∧ (∀ c ∈ D, dgQ c = true) ∧ E.length ≤ 4 ∧ realQ (realQ l).1 = ((realQ l).1, 0) := by
  have hag := (canV_iff _).1 (parse_again l h)
  have hag2 : realQ (realQ l).1 = ((realQ l).1, 0) := by
    exact congrArg (fun p : ByteArray × Int => (p.1.data.toList, p.2)) hag
  cases hs : scanV l with
  | none =>
    have e : parseV 100000 l = (⟨#[]⟩, 3) := by unfold parseV; rw [hs]
    have h' : (parseV 100000 l).2 = 0 := h
    rw [e] at h'; exact absurd h' (by decide)
  | some p =>
    have hsg : p.1 = false := by rw [scanV_sign hs, sign_digit (fun c hc => dg_isD c (hd c hc))]
    have e : parseV 100000 l = textV p.1 (stripV (p.2.1 ++ p.2.2.1)) ((p.2.1.length : Int) - 1 - leadV (p.2.1 ++ p.2.2.1) + sgnV p.2.2.2.1 (esat 100000 p.2.2.2.2)) := by
      unfold parseV; rw [hs]; rfl
    have hT : ∀ c ∈ stripV (p.2.1 ++ p.2.2.1), dgQ c = true := fun c hc => isD_dg c (scanV_dig hs c (strip_mem hc))
    rw [hsg] at e
    generalize stripV (p.2.1 ++ p.2.2.1) = T at *
    generalize ((p.2.1.length : Int) - 1 - leadV (p.2.1 ++ p.2.2.1) + sgnV p.2.2.2.1 (esat 100000 p.2.2.2.2)) = first at *
    have h' : (parseV 100000 l).2 = 0 := h
    rw [e] at h'
    have e1 : (realQ l).1 = (textV false T first).1.data.toList := by show (parseV 100000 l).1.data.toList = _; rw [e]
    by_cases hT0 : T = []
    · left
      rw [e1]; unfold textV; rw [if_pos hT0]
    · right
      by_cases hr : 17 < T.length ∨ first < -400 ∨ 400 < first
      · have e2 : textV false T first = (⟨#[]⟩, 9) := by unfold textV; rw [if_neg hT0, if_pos hr]
        rw [e2] at h'; exact absurd h' (by decide)
      · have e2 : textV false T first = (bsV ((if false then [45] else []) ++ (T.take 1 ++ (if 1 < T.length then 46 :: T.drop 1 else []))) ++ ⟨#[101]⟩ ++ decB first, 0) := by unfold textV; rw [if_neg hT0, if_neg hr]
        obtain ⟨t0, t, rfl⟩ : ∃ t0 t, T = t0 :: t := by
          cases T with
          | nil => exact absurd rfl hT0
          | cons a t => exact ⟨a, t, rfl⟩
        have hlist : (textV false (t0 :: t) first).1.data.toList = t0 :: ((if 0 < t.length then 46 :: t else []) ++ 101 :: Lib.itoa first) := by
          rw [e2]
          show (bsV _ ++ ⟨#[101]⟩ ++ decB first).data.toList = _
          rw [bsV_app, bsV_app, bsV_list]
          have ed : (decB first).data.toList = Lib.itoa first := by unfold decB; simp
          rw [ed]
          have ec : (if 1 < (t0 :: t).length then 46 :: (t0 :: t).drop 1 else ([] : List UInt8)) = if 0 < t.length then 46 :: t else [] := by
            simp only [List.length_cons, List.drop_succ_cons, List.drop_zero]
            by_cases h : 0 < t.length
            · rw [if_pos h, if_pos (by omega)]
            · rw [if_neg h, if_neg (by omega)]
          rw [ec]
          simp
        have hlen : (t0 :: t).length = t.length + 1 := rfl
        have hE := itoa_len first (by omega) (by omega)
        have hE2 : ∃ D, (Lib.itoa first = 45 :: D ∨ Lib.itoa first = D) ∧ D ≠ [] ∧ ∀ c ∈ D, dgQ c = true := by
          unfold Lib.itoa
          by_cases h : first < 0
          · rw [if_pos h]; exact ⟨_, .inl rfl, dec_ne _, dec_dg _⟩
          · rw [if_neg h]; exact ⟨_, .inr rfl, dec_ne _, dec_dg _⟩
        obtain ⟨D, hD1, hD2, hD3⟩ := hE2
        exact ⟨t0, t, Lib.itoa first, D, by rw [e1, hlist], hT t0 List.mem_cons_self, fun c hc => hT c (List.mem_cons_of_mem _ hc), by omega, hD1, hD2, hD3, hE, hag2⟩
theorem drop_two (a b : UInt8) (l : List UInt8) : (a :: b :: l).drop 2 = l := rfl
theorem read_zero {R : List UInt8} (hR : TailQ R) : readQ ([48, 46, 48] ++ R) = ⟨4, [48], 3, 0⟩ := by
  have e : readQ ([48, 46, 48] ++ R) = numQ ([48, 46, 48] ++ R) := readQ_dg (by decide)
  have hn : spn dgQ ([48, 46, 48] ++ R) = 1 := rfl
  have h0 := hR.none (p := dgQ) (by decide)
  have hl : ([48, 46, 48] ++ R).length = R.length + 3 := by rw [List.length_append]; show 3 + R.length = _; omega
  have hdot : dotQ ([48, 46, 48] ++ R) 1 = 3 := by
    have h1 : spn dgQ (([48, 46, 48] ++ R).drop 2) = 1 := by
      show spn dgQ (48 :: R) = 1
      rw [spn_yes (by decide), h0]
    rw [dotQ_dot (n := 1) (show 1 + 1 < ([48, 46, 48] ++ R).length by omega) rfl]
    show (if dgQ 48 = true then 1 + 1 + spn dgQ (([48, 46, 48] ++ R).drop (1 + 1)) else 1) = 3
    rw [if_pos (by decide), h1]
  have hexp : expQ ([48, 46, 48] ++ R) (dotQ ([48, 46, 48] ++ R) 1) = 3 := by
    rw [hdot]
    rcases hR with rfl | ⟨r, rfl, _⟩
    · exact expQ_nil (Nat.le_refl _)
    · exact expQ_no (n := 3) (by rw [hl, List.length_cons]; omega) (by show lowQ 32 ≠ 101; decide)
  have ht : ([48, 46, 48] ++ R).take 3 = [48, 46, 48] := rfl
  have ha : aloneQ ([48, 46, 48] ++ R) 3 = true := aloneQ_tail (F := [48, 46, 48]) hR
  have hr : realQ [48, 46, 48] = ([48], 0) := by decide +kernel
  rw [e, numQ_real hn (by show (46 : UInt8) ≠ 39; decide) hexp (by omega), if_pos ha, ht, hr]
theorem read_real {t0 : UInt8} {t E D R : List UInt8} (h0 : dgQ t0 = true) (ht : ∀ c ∈ t, dgQ c = true) (hE : E = 45 :: D ∨ E = D) (hD : D ≠ []) (hDd : ∀ c ∈ D, dgQ c = true) (hR : TailQ R) (F : List UInt8)
    (hF : F = t0 :: ((if 0 < t.length then 46 :: t else []) ++ 101 :: E)) (hr : realQ F = (F, 0)) : readQ (F ++ R) = ⟨4, F, F.length, 0⟩ := by
  obtain ⟨M, hM⟩ : ∃ M, (if 0 < t.length then 46 :: t else [] : List UInt8) = M := ⟨_, rfl⟩
  rw [hM] at hF
  have em : F ++ R = t0 :: (M ++ 101 :: (E ++ R)) := by rw [hF]; simp
  have hRd := hR.none (p := dgQ) (by decide)
  have hEl : 0 < E.length := by
    have : 0 < D.length := List.length_pos_iff.2 hD
    rcases hE with rfl | rfl
    · rw [List.length_cons]; omega
    · exact this
  have hFl : F.length = M.length + 2 + E.length := by rw [hF, List.length_cons, List.length_append, List.length_cons]; omega
  have hml : (t0 :: (M ++ 101 :: (E ++ R))).length = M.length + 2 + E.length + R.length := by
    rw [List.length_cons, List.length_append, List.length_cons, List.length_append]; omega
  have hn : spn dgQ (t0 :: (M ++ 101 :: (E ++ R))) = 1 := by
    rw [spn_yes h0, ← hM]
    split
    · rw [List.cons_append, spn_no (by decide)]
    · rw [List.nil_append, spn_no (by decide)]
  have h39 : (t0 :: (M ++ 101 :: (E ++ R))).getD 1 0 ≠ 39 := by
    rw [← hM]
    split
    · show (46 : UInt8) ≠ 39; decide
    · show (101 : UInt8) ≠ 39; decide
  have hdot : dotQ (t0 :: (M ++ 101 :: (E ++ R))) 1 = 1 + M.length := by
    by_cases hp : 0 < t.length
    · rw [if_pos hp] at hM
      subst hM
      obtain ⟨a, r, rfl⟩ : ∃ a r, t = a :: r := by
        cases t with
        | nil => exact absurd hp (by decide)
        | cons a r => exact ⟨a, r, rfl⟩
      have hs : spn dgQ ((a :: r) ++ 101 :: (E ++ R)) = (a :: r).length := spn_app _ _ ht (spn_no (by decide))
      rw [dotQ_dot (n := 1) (by rw [hml]; omega) rfl]
      show (if dgQ a = true then 1 + 1 + spn dgQ ((a :: r) ++ 101 :: (E ++ R)) else 1) = _
      rw [if_pos (ht a List.mem_cons_self), hs]
      rw [List.length_cons (a := 46)]; omega
    · rw [if_neg hp] at hM
      subst hM
      rw [dotQ_no (n := 1) (by rw [hml]; omega) (by show (101 : UInt8) ≠ 46; decide)]; rfl
  have hat : ∀ X : List UInt8, (t0 :: (M ++ X)).drop (1 + M.length) = X := fun X => by
    rw [Nat.add_comm, List.drop_succ_cons, List.drop_left]
  have hge : (t0 :: (M ++ 101 :: (E ++ R)))[1 + M.length]'(by rw [hml]; omega) = 101 := by
    have := hat (101 :: (E ++ R))
    rw [List.drop_eq_getElem_cons (by rw [hml]; omega)] at this
    exact (List.cons.inj this).1
  have hd1 : (t0 :: (M ++ 101 :: (E ++ R))).drop (1 + M.length + 1) = E ++ R := by rw [← List.drop_drop, hat]; rfl
  have hexp : expQ (t0 :: (M ++ 101 :: (E ++ R))) (1 + M.length) = F.length := by
    have hDl : 0 < D.length := List.length_pos_iff.2 hD
    have hDs : spn dgQ (D ++ R) = D.length := spn_app _ _ hDd hRd
    rcases hE with rfl | rfl
    · have hd2 : (t0 :: (M ++ 101 :: (45 :: D ++ R))).drop (1 + M.length + 2) = D ++ R := by rw [← List.drop_drop, hat]; rfl
      rw [expQ_yes (by rw [hml]; omega) (by rw [hge]; decide) (1 + M.length + 2) (by rw [hd1]; exact (if_pos (.inr rfl)).symm), hd2, hDs, if_pos hDl, hFl, List.length_cons]; omega
    · obtain ⟨a, r, rfl⟩ : ∃ a r, E = a :: r := by
        cases E with
        | nil => exact absurd rfl hD
        | cons a r => exact ⟨a, r, rfl⟩
      have ha := hDd a List.mem_cons_self
      have hna : ¬ (((a :: r) ++ R).head? = some 43 ∨ ((a :: r) ++ R).head? = some 45) := by
        rintro (h | h) <;> (have h2 : a = _ := Option.some.inj h; subst h2; revert ha; decide)
      rw [expQ_yes (by rw [hml]; omega) (by rw [hge]; decide) (1 + M.length + 1) (by rw [hd1]; exact (if_neg hna).symm), hd1, hDs, if_pos hDl, hFl]; omega
  have htk : (t0 :: (M ++ 101 :: (E ++ R))).take F.length = F := by rw [← em, List.take_left]
  have hal : aloneQ (t0 :: (M ++ 101 :: (E ++ R))) F.length = true := by rw [← em]; exact aloneQ_tail hR
  rw [em, readQ_dg h0, numQ_real (e := F.length) hn h39 (by rw [hdot]; exact hexp) (by omega), if_pos hal, htk, hr]
theorem good_real {l : List UInt8} (hd : ∀ c, l.head? = some c → dgQ c = true) (h : (realQ l).2 = 0) : GoodQ 4 (realQ l).1 ∧ (formQ 4 (realQ l).1).length ≤ 24 := by
  rcases realQ_shape hd h with h0 | ⟨t0, t, E, D, hF, h0, ht, ht16, hE, hD, hDd, hE4, hr⟩
  · rw [h0, GoodQ, formQ_zero]
    exact ⟨⟨⟨48, _, rfl, by decide, by decide, by decide⟩, fun R hR => ⟨3, read_zero hR, .inl rfl⟩⟩, by decide⟩
  · generalize (realQ l).1 = F at *
    have hne : F ≠ [48] := by
      rw [hF]; intro e
      have := (List.cons.inj e).2
      exact absurd (List.append_eq_nil_iff.1 this).2 (by simp)
    rw [GoodQ, formQ_real hne]
    obtain ⟨g1, g2, g3, _⟩ := dg_head t0 h0
    refine ⟨⟨⟨t0, _, hF, g1, g2, g3⟩, fun R hR => ⟨_, read_real h0 ht hE hD hDd hR F hF hr, .inl rfl⟩⟩, ?_⟩
    rw [hF, List.length_cons, List.length_append, List.length_cons]
    split
    · rw [List.length_cons]; omega
    · rw [List.length_nil]; omega
theorem constQ_pos {l : List UInt8} {n : Nat} (h : 0 < constQ l n) : n + 3 ≤ constQ l n := by
  have key : constQ l n = 0 ∨ n + 3 ≤ constQ l n := by
    unfold constQ
    split
    · split
      · exact .inl rfl
      · split
        · exact .inl rfl
        · right; omega
    · exact .inl rfl
  omega
/-- each word that is read is read again from its form -/
theorem good_read {l : List UInt8} (h : (readQ l).err = 0) : GoodQ (readQ l).kind (readQ l).text ∧ (formQ (readQ l).kind (readQ l).text).length + 1 ≤ 40 * (readQ l).size ∧ 0 ≤ (readQ l).kind ∧ (readQ l).kind ≤ 6 := by
  cases l with
  | nil => exact absurd (wrongQ_err h) (by decide)
  | cons c r =>
    rw [readQ_cons] at h ⊢
    by_cases c1 : fiQ c = true ∨ c = 92
    · rw [if_pos c1] at h ⊢
      obtain ⟨hk, h1, h2⟩ := good_name h
      rw [hk]; exact ⟨h1, h2, by decide, by decide⟩
    · rw [if_neg c1] at h ⊢
      by_cases c2 : dgQ c = true
      · rw [if_pos c2] at h ⊢
        have hn1 : 1 ≤ spn dgQ (c :: r) := by rw [spn_yes c2]; omega
        have hnl := spn_le dgQ (c :: r)
        have htk := spn_take8 (p := dgQ) (c :: r)
        have hC := constQ_pos (l := c :: r) (n := spn dgQ (c :: r))
        have hum := firstU_mem (us := unitsQ) (t := (c :: r).drop (spn dgQ (c :: r)))
        have hhd : ∀ k, 0 < k → ∀ d, ((c :: r).take k).head? = some d → dgQ d = true := by
          intro k hk d hd
          cases k with
          | zero => exact absurd hk (by decide)
          | succ k => rw [List.take_succ_cons] at hd; cases hd; exact c2
        unfold numQ numW at h ⊢
        generalize c :: r = l at *
        generalize spn dgQ l = n at *
        generalize constQ l n = C at *
        generalize expQ l (dotQ l n) = e2 at *
        generalize hk : unitQ (l.drop n) = k at *
        by_cases h1 : 0 < C
        · rw [if_pos h1] at h ⊢
          by_cases h2 : aloneQ l C = true
          · rw [if_pos h2] at h ⊢
            obtain ⟨b1, b2, b3⟩ := bitsQ_ok h
            refine ⟨good_bits b1 b2 b3, ?_, (show (0 : Int) ≤ 3 by decide), (show (3 : Int) ≤ 6 by decide)⟩
            show (formQ 3 (bitsQ (l.take C)).1).length + 1 ≤ 40 * C
            have hd3 := (dec_all (bitsQ (l.take C)).1.length).2.2.2 3 (by decide) (by omega)
            rw [formQ_bits, List.length_append, List.length_cons, List.length_cons]
            have := hC h1
            omega
          · rw [if_neg h2] at h; exact absurd (wrongQ_err h) (by decide)
        · rw [if_neg h1] at h ⊢
          by_cases h3 : n < e2
          · rw [if_pos h3] at h ⊢
            by_cases h2 : aloneQ l e2 = true
            · rw [if_pos h2] at h ⊢
              obtain ⟨g1, g2⟩ := good_real (hhd e2 (by omega)) h
              refine ⟨g1, ?_, (show (0 : Int) ≤ 4 by decide), (show (4 : Int) ≤ 6 by decide)⟩
              show (formQ 4 (realQ (l.take e2)).1).length + 1 ≤ 40 * e2
              omega
            · rw [if_neg h2] at h; exact absurd (wrongQ_err h) (by decide)
          · rw [if_neg h3] at h ⊢
            by_cases h4 : aloneQ l (n + k) = false
            · rw [if_pos h4] at h; exact absurd (wrongQ_err h) (by decide)
            · rw [if_neg h4] at h ⊢
              by_cases h5 : 15 < (stripQ (l.take n)).length
              · rw [if_pos h5] at h; exact absurd (wrongQ_err h) (by decide)
              · rw [if_neg h5]
                have hlne : l.take n ≠ [] := fun e => by
                  have := congrArg List.length e
                  rw [List.length_take, List.length_nil] at this; omega
                have hS : ∀ d ∈ stripQ (l.take n), dgQ d = true := fun d hd => by
                  rcases stripQ_mem hlne d hd with rfl | hd
                  · rfl
                  · exact htk d hd
                have hk' : firstU unitsQ (l.drop n) = k := hk
                have hU : (l.drop n).take k = [] ∨ (l.drop n).take k ∈ unitsQ := by
                  by_cases h0 : 0 < k
                  · rw [hk'] at hum; exact .inr (hum h0)
                  · rw [show k = 0 by omega, List.take_zero]; exact .inl rfl
                have hkl := unitQ_le (l.drop n)
                rw [hk, List.length_drop] at hkl
                have hkU : (l.drop n).take k = [] ↔ k = 0 := by
                  refine ⟨fun e => ?_, fun e => by rw [e, List.take_zero]⟩
                  have := congrArg List.length e
                  rw [List.length_take, List.length_drop, List.length_nil] at this; omega
                have hkd : (if k = 0 then 1 else 2 : Int) = if (l.drop n).take k = [] then 1 else 2 := by
                  by_cases h0 : k = 0
                  · rw [if_pos h0, if_pos (hkU.2 h0)]
                  · rw [if_neg h0, if_neg (fun e => h0 (hkU.1 e))]
                have hg := good_number hS (stripQ_ne _) (stripQ_again _) (by omega) hU
                rw [← hkd] at hg
                have hkk : (if k = 0 then 1 else 2 : Int) = 1 ∨ (if k = 0 then 1 else 2 : Int) = 2 := by
                  by_cases h0 : k = 0
                  · exact .inl (if_pos h0)
                  · exact .inr (if_neg h0)
                refine ⟨hg, ?_, ?_, ?_⟩
                · show (formQ (if k = 0 then 1 else 2) (stripQ (l.take n) ++ (l.drop n).take k)).length + 1 ≤ 40 * (n + k)
                  rw [formQ_plain (.inr (by rcases hkk with h | h; exact .inl h; exact .inr (.inl h))), List.length_append, List.length_take]
                  omega
                · show (0 : Int) ≤ (if k = 0 then 1 else 2); omega
                · show (if k = 0 then 1 else 2 : Int) ≤ 6; omega
      · rw [if_neg c2] at h ⊢
        by_cases c3 : c = 34
        · rw [if_pos c3] at h ⊢
          rw [quotedQ_eq] at h ⊢
          unfold quotedW at h ⊢
          generalize 1 + closeW ((c :: r).drop 1) = E at *
          by_cases h1 : (c :: r).length ≤ E
          · rw [if_pos h1] at h; exact absurd (wrongQ_err h) (by decide)
          · rw [if_neg h1] at h ⊢
            obtain ⟨h2, h3⟩ := unqQ_ok h
            refine ⟨good_str h2, ?_, (show (0 : Int) ≤ 5 by decide), (show (5 : Int) ≤ 6 by decide)⟩
            show (formQ 5 (unqQ ((c :: r).take (E + 1))).1).length + 1 ≤ 40 * (E + 1)
            rw [List.length_take] at h3
            have h4 := escs_len (unqQ ((c :: r).take (E + 1))).1
            have h5 := quoQ_len (unqQ ((c :: r).take (E + 1))).1
            rw [formQ_str]
            omega
        · rw [if_neg c3] at h ⊢
          cases hs : firstS symsQ (c :: r) with
          | none => rw [hs] at h; exact absurd (wrongQ_err h) (by decide)
          | some u =>
            obtain ⟨h1, h2⟩ := firstS_some hs
            refine ⟨good_sym h1, ?_, (show (0 : Int) ≤ 6 by decide), (show (6 : Int) ≤ 6 by decide)⟩
            show (formQ 6 u).length + 1 ≤ 40 * u.length
            have := syms_len u h1
            rw [formQ_plain (.inr (.inr (.inr rfl)))]
            omega
end Go.Proofs.YtjlpekjfmgcbdaaGreatDoor

/- Plain: the lexemes of a text are valid, and the text that Join makes of them has the same lexemes. -/
set_option linter.unusedVariables false
set_option linter.unusedSimpArgs false
namespace Go.Proofs.YtjlpekjfmgcbdaaGreatDoor
open Go.RowKit Go.Shelf
def formX (y : Lx) : List UInt8 := formQ y.kind y.text
def lenF (ys : List Lx) : Nat := (ys.map fun y => (formX y).length + 1).sum
theorem lex_ok (l : List UInt8) : ∀ (k a : Nat) (out0 out : List Lx) (p : Nat), out0.length ≤ 512 → lexF (wordsF l k a) out0 = (out, p, 0) →
    p = 0 ∧ out.length ≤ 512 ∧ ∃ ys, out = out0 ++ ys ∧ (∀ y ∈ ys, GoodQ y.kind y.text ∧ 0 ≤ y.kind ∧ y.kind ≤ 6) ∧ lenF ys ≤ 40 * (l.length - a) ∧ ∀ y r, ys = y :: r → y.at0 = a
  | 0, a, out0, out, p, h5, h => by
    cases h
    exact ⟨rfl, h5, [], by simp, (fun y hy => by cases hy), Nat.zero_le _, (fun y r e => by cases e)⟩
  | k + 1, a, out0, out, p, h5, h => by
    unfold wordsF at h
    by_cases hlt : a < l.length
    · rw [if_pos hlt] at h
      by_cases he : (readQ (l.drop a)).err = 0
      · rw [if_pos he] at h
        by_cases hf : out0.length = 512
        · rw [lexF_full he hf] at h
          have := (Prod.mk.inj (Prod.mk.inj h).2).2
          exact absurd this (by decide)
        · rw [lexF_more he hf] at h
          obtain ⟨g1, g2, g3, g4⟩ := good_read he
          obtain ⟨s1, s2⟩ := readQ_size (l := l.drop a) (by rw [List.length_drop]; omega) he
          rw [List.length_drop] at s2
          have hn := nextQ_ge l (a + (readQ (l.drop a)).size)
          have hn2 := nextQ_le (l := l) (a := a + (readQ (l.drop a)).size) (by omega)
          obtain ⟨i1, i2, ys, i3, i4, i5, _⟩ := lex_ok l k _ _ out p (by rw [List.length_append]; show out0.length + 1 ≤ 512; omega) h
          refine ⟨i1, i2, ⟨(readQ (l.drop a)).kind, (readQ (l.drop a)).text, a⟩ :: ys, by rw [i3]; simp, ?_, ?_, ?_⟩
          · intro y hy
            rcases List.mem_cons.1 hy with rfl | hy
            · exact ⟨g1, g3, g4⟩
            · exact i4 y hy
          · unfold lenF at i5 ⊢
            rw [List.map_cons, List.sum_cons]
            show (formQ (readQ (l.drop a)).kind (readQ (l.drop a)).text).length + 1 + _ ≤ _
            omega
          · intro y r e; cases e; rfl
      · rw [lexF_bad he] at h
        have := (Prod.mk.inj (Prod.mk.inj h).2).2
        exact absurd this he
    · rw [if_neg hlt] at h
      cases h
      exact ⟨rfl, h5, [], by simp, (fun y hy => by cases hy), Nat.zero_le _, (fun y r e => by cases e)⟩
/-- the lexemes of a text -/
theorem lexQ_ok {l : List UInt8} {out : List Lx} {p : Nat} (h : lexQ l = (out, p, 0)) :
    p = 0 ∧ out.length ≤ 512 ∧ (∀ y ∈ out, GoodQ y.kind y.text ∧ 0 ≤ y.kind ∧ y.kind ≤ 6) ∧ lenF out ≤ 40 * l.length ∧ ∀ y r, out = y :: r → y.at0 = nextQ l 0 := by
  unfold lexQ at h
  by_cases hb : 16384 < l.length
  · rw [if_pos hb] at h
    have := (Prod.mk.inj (Prod.mk.inj h).2).2
    exact absurd this (by decide)
  · rw [if_neg hb] at h
    obtain ⟨i1, i2, ys, i3, i4, i5, i6⟩ := lex_ok l l.length (nextQ l 0) [] out p (Nat.zero_le _) h
    rw [List.nil_append] at i3
    subst i3
    exact ⟨i1, i2, i4, by omega, i6⟩
def joinQ : List (List UInt8) → List UInt8
  | [] => []
  | [a] => a
  | a :: b :: r => a ++ 32 :: joinQ (b :: r)
theorem joinQ_len : ∀ ps : List (Int × List UInt8), (joinQ (ps.map fun p => formQ p.1 p.2)).length ≤ (ps.map fun p => (formQ p.1 p.2).length + 1).sum
  | [] => Nat.zero_le _
  | [p] => by
    show (formQ p.1 p.2).length ≤ (formQ p.1 p.2).length + 1 + 0
    omega
  | p :: q :: r => by
    have := joinQ_len (q :: r)
    rw [List.map_cons, List.map_cons, joinQ, List.length_append, List.length_cons, List.map_cons, List.sum_cons]
    rw [List.map_cons] at this
    omega
theorem joinQ_head {p : Int × List UInt8} {r : List (Int × List UInt8)} (h : GoodQ p.1 p.2) : HeadQ (joinQ ((p :: r).map fun p => formQ p.1 p.2)) := by
  obtain ⟨c, t, hF, g1, g2, g3⟩ := h.1
  cases r with
  | nil => exact ⟨c, t, hF, g1, g2, g3⟩
  | cons q r =>
    refine ⟨c, t ++ 32 :: joinQ ((q :: r).map fun p => formQ p.1 p.2), ?_, g1, g2, g3⟩
    show formQ p.1 p.2 ++ 32 :: _ = _
    rw [hF]; rfl
theorem nextQ_head {P J : List UInt8} (h : HeadQ J) : nextQ (P ++ J) P.length = P.length := by
  obtain ⟨c, t, rfl, g1, g2, _⟩ := h
  have hlt : P.length < (P ++ c :: t).length := by rw [List.length_append, List.length_cons]; omega
  have hg : (P ++ c :: t)[P.length]'hlt = c := by rw [List.getElem_append_right (Nat.le_refl _)]; simp
  exact nextQ_stop hlt (by rw [hg]; exact g1) (by rw [hg]; exact g2)
theorem lex_join : ∀ (ps : List (Int × List UInt8)) (P : List UInt8) (out0 : List Lx), (∀ p ∈ ps, GoodQ p.1 p.2) → out0.length + ps.length ≤ 512 →
    ∃ ys : List Lx, lexF (wordsFrom (P ++ joinQ (ps.map fun p => formQ p.1 p.2)) P.length) out0 = (out0 ++ ys, 0, 0) ∧ ys.map (fun y => (y.kind, y.text)) = ps
  | [], P, out0, _, _ => ⟨[], by rw [wordsFrom_end (by simp [joinQ])]; simp [lexF], rfl⟩
  | [p], P, out0, hg, h5 => by
    obtain ⟨hh, hr⟩ := hg p List.mem_cons_self
    obtain ⟨n, hn, hn2⟩ := hr [] (.inl rfl)
    rw [List.append_nil] at hn
    have hn3 : n = (formQ p.1 p.2).length := by
      rcases hn2 with h | ⟨_, h⟩
      · exact h
      · exact absurd rfl h
    have hpos : 0 < (formQ p.1 p.2).length := by
      obtain ⟨c, t, e, _⟩ := hh
      rw [e]; simp
    have hd : (P ++ formQ p.1 p.2).drop P.length = formQ p.1 p.2 := List.drop_left
    refine ⟨[⟨p.1, p.2, P.length⟩], ?_, rfl⟩
    show lexF (wordsFrom (P ++ formQ p.1 p.2) P.length) out0 = _
    rw [wordsFrom_step (by rw [List.length_append]; omega), hd, hn]
    have h0 : out0.length ≠ 512 := by rw [List.length_singleton] at h5; omega
    rw [lexF_more rfl h0]
    show lexF (if (0 : Int) = 0 then wordsFrom (P ++ formQ p.1 p.2) (nextQ (P ++ formQ p.1 p.2) (P.length + n)) else []) _ = _
    rw [if_pos rfl, nextQ_end (by rw [List.length_append]; omega), wordsFrom_end (by rw [List.length_append]; omega)]
    rfl
  | p :: q :: r, P, out0, hg, h5 => by
    obtain ⟨hh, hr⟩ := hg p List.mem_cons_self
    have hq := joinQ_head (r := r) (hg q (List.mem_cons_of_mem _ List.mem_cons_self))
    obtain ⟨J, hJ⟩ : ∃ J, joinQ ((q :: r).map fun p => formQ p.1 p.2) = J := ⟨_, rfl⟩
    rw [hJ] at hq
    have hT : TailQ (32 :: J) := by
      obtain ⟨c, t, e, _, _, g⟩ := hq
      exact .inr ⟨J, rfl, by rw [e]; intro h; exact g (Option.some.inj h)⟩
    obtain ⟨n, hn, hn2⟩ := hr _ hT
    obtain ⟨ys, hy, hy2⟩ := lex_join (q :: r) (P ++ (formQ p.1 p.2 ++ [32])) (out0 ++ [⟨p.1, p.2, P.length⟩]) (fun x hx => hg x (List.mem_cons_of_mem _ hx)) (by rw [List.length_append]; simp only [List.length_cons, List.length_nil] at h5 ⊢; omega)
    rw [hJ] at hy
    have hl : (P ++ joinQ ((p :: q :: r).map fun p => formQ p.1 p.2)) = (P ++ (formQ p.1 p.2 ++ [32])) ++ J := by
      rw [← hJ]
      show P ++ (formQ p.1 p.2 ++ 32 :: _) = _
      simp
    have hpl : (P ++ (formQ p.1 p.2 ++ [32])).length = P.length + (formQ p.1 p.2).length + 1 := by simp; omega
    have hnx : nextQ ((P ++ (formQ p.1 p.2 ++ [32])) ++ J) (P.length + n) = (P ++ (formQ p.1 p.2 ++ [32])).length := by
      have e1 := nextQ_head (P := P ++ (formQ p.1 p.2 ++ [32])) hq
      rcases hn2 with h | ⟨h, _⟩
      · have hlt : P.length + n < ((P ++ (formQ p.1 p.2 ++ [32])) ++ J).length := by rw [List.length_append, hpl]; omega
        have hge : ((P ++ (formQ p.1 p.2 ++ [32])) ++ J)[P.length + n]'hlt = 32 := by
          rw [List.getElem_append_left (by rw [hpl]; omega), List.getElem_append_right (by omega), List.getElem_append_right (by omega)]
          simp [h]
        rw [nextQ_blank hlt (by rw [hge]; rfl), show P.length + n + 1 = (P ++ (formQ p.1 p.2 ++ [32])).length by rw [hpl, h]]
        exact e1
      · rw [show P.length + n = (P ++ (formQ p.1 p.2 ++ [32])).length by rw [hpl, h]; omega]
        exact e1
    have hd : ((P ++ (formQ p.1 p.2 ++ [32])) ++ J).drop P.length = formQ p.1 p.2 ++ 32 :: J := by
      rw [List.append_assoc, List.drop_left, List.append_assoc]; rfl
    refine ⟨⟨p.1, p.2, P.length⟩ :: ys, ?_, ?_⟩
    · rw [hl, wordsFrom_step (by rw [List.length_append, hpl]; omega), hd, hn]
      have h0 : out0.length ≠ 512 := by simp only [List.length_cons] at h5; omega
      rw [lexF_more rfl h0]
      show lexF (if (0 : Int) = 0 then wordsFrom _ (nextQ _ (P.length + n)) else []) _ = _
      rw [if_pos rfl, hnx, hy]
      simp
    · rw [List.map_cons, hy2]
/-- what Join of valid lexemes is read as -/
theorem lexQ_join (ps : List (Int × List UInt8)) (hg : ∀ p ∈ ps, GoodQ p.1 p.2) (h5 : ps.length ≤ 512) (hl : (joinQ (ps.map fun p => formQ p.1 p.2)).length ≤ 16384) :
    ∃ ys : List Lx, lexQ (joinQ (ps.map fun p => formQ p.1 p.2)) = (ys, 0, 0) ∧ ys.map (fun y => (y.kind, y.text)) = ps := by
  obtain ⟨ys, hy, hy2⟩ := lex_join ps [] [] hg (by rw [List.length_nil]; omega)
  refine ⟨ys, ?_, hy2⟩
  unfold lexQ wordsQ
  rw [if_neg (by omega)]
  have hn : nextQ (joinQ (ps.map fun p => formQ p.1 p.2)) 0 = 0 := by
    cases ps with
    | nil => rfl
    | cons p r => exact nextQ_head (P := []) (joinQ_head (hg p List.mem_cons_self))
  rw [hn]
  exact hy
/-- valid lexemes -/
def validQ (k : Int) (t : List UInt8) : Bool :=
  decide ((lexQ (formQ k t)).2.2 = 0) && match (lexQ (formQ k t)).1 with | [x] => x.kind == k && x.text == t | _ => false
theorem valid_good {k : Int} {t : List UInt8} (h : GoodQ k t) (hl : (formQ k t).length ≤ 16384) : validQ k t = true := by
  obtain ⟨ys, hy, hy2⟩ := lexQ_join [(k, t)] (fun p hp => by rw [List.mem_singleton.1 hp]; exact h) (show 1 ≤ 512 by decide) hl
  have e : lexQ (formQ k t) = (ys, 0, 0) := hy
  unfold validQ
  rw [e]
  match ys, hy2 with
  | [x], hy2 =>
    simp only [List.map_cons, List.map_nil, List.cons.injEq, and_true, Prod.mk.injEq] at hy2
    simp [hy2.1, hy2.2]
/-- what the reference asks besides holds -/
theorem valid_more {k : Int} {t : List UInt8} (h : validQ k t = true) : ∃ x, lexQ (formQ k t) = ([x], 0, 0) ∧ x.kind = k ∧ x.text = t ∧ x.at0 = 0 ∧ 0 ≤ k ∧ k ≤ 6 ∧ GoodQ k t := by
  unfold validQ at h
  obtain ⟨⟨out, p, er⟩, hp⟩ : ∃ q, lexQ (formQ k t) = q := ⟨_, rfl⟩
  rw [hp] at h
  simp only [Bool.and_eq_true, decide_eq_true_eq] at h
  obtain ⟨h1, h2⟩ := h
  subst h1
  obtain ⟨i1, _, i3, _, i5⟩ := lexQ_ok hp
  match out, h2 with
  | [x], h2 =>
    simp only [Bool.and_eq_true, beq_iff_eq] at h2
    obtain ⟨g1, g2, g3⟩ := i3 x List.mem_cons_self
    have ha := i5 x [] rfl
    rw [h2.1, h2.2] at g1
    rw [h2.1] at g2 g3
    have hn := nextQ_head (P := []) g1.1
    rw [List.nil_append, List.length_nil] at hn
    exact ⟨x, by rw [hp, i1], h2.1, h2.2, by rw [ha, hn], g2, g3, g1⟩
theorem formQ_len (k : Int) (t : List UInt8) (h : t.length ≤ 1000000) : (formQ k t).length ≤ 4 * t.length + 12 := by
  unfold formQ
  by_cases h3 : k = 3
  · rw [if_pos h3]
    have := (dec_all t.length).2.2.2 7 (by decide) (by omega)
    rw [List.length_append, List.length_cons, List.length_cons]; omega
  · rw [if_neg h3]
    by_cases h4 : k = 4 ∧ t = [48]
    · rw [if_pos h4]; show 3 ≤ _; omega
    · rw [if_neg h4]
      by_cases h5 : k = 5
      · rw [if_pos h5, quoQ_len]
        have := escs_len t
        omega
      · rw [if_neg h5]; omega
theorem alikeB_map : ∀ {xs ys : List Lx}, xs.map (fun y => (y.kind, y.text)) = ys.map (fun y => (y.kind, y.text)) → alikeB xs ys = true
  | [], [], _ => rfl
  | [], _ :: _, h => by cases h
  | _ :: _, [], h => by cases h
  | x :: xs, y :: ys, h => by
    simp only [List.map_cons, List.cons.injEq, Prod.mk.injEq] at h
    simp only [alikeB, Bool.and_eq_true, beq_iff_eq]
    exact ⟨h.1, alikeB_map h.2⟩
end Go.Proofs.YtjlpekjfmgcbdaaGreatDoor

/- Contracts of qlex's decimalText and form, and of the reference's form. -/
set_option linter.unusedVariables false
set_option linter.unusedSimpArgs false
namespace Go.Proofs.YtjlpekjfmgcbdaaGreatDoor
open Go.RowKit Go.Shelf Go.Sort
theorem decQ_small {n : Nat} (h : n < 10) : Lib.decDigits n = [UInt8.ofNat (48 + n % 10)] := by rw [Lib.decDigits_one h, Nat.mod_eq_of_lt h]
theorem decQ_big {n : Nat} (h : ¬ n < 10) : Lib.decDigits n = Lib.decDigits (n / 10) ++ [UInt8.ofNat (48 + n % 10)] := by rw [Lib.decDigits, dif_neg h]
theorem decQ_len {n : Nat} (h : n ≤ 1000000) : (Lib.decDigits n).length ≤ 7 := (dec_all n).2.2.2 7 (by decide) (by omega)
set_option maxHeartbeats 1000000 in
set_option maxRecDepth 20000 in
theorem decimalText_any (n : Nat) : ∀ (w : World) (hn : n ≤ 1000000),
    Calls Tryz.prog 76 #[.int .i64 (n : Int)] w fun e w' => e = .returned (.string (bsQ (Lib.decDigits n))) ∧ Below w.heap.size w w' := by
  induction n using Nat.strongRecOn with
  | _ n ih =>
  intro w hn
  obtain ⟨c, hc⟩ : ∃ c : UInt8, UInt8.ofNat (48 + n % 10) = c := ⟨_, rfl⟩
  have hct : (c.toNat : Int) = 48 + (n : Int) % 10 := by
    rw [← hc, UInt8.toNat_ofNat', Nat.mod_eq_of_lt (by omega)]
    omega
  have hw : IntKind.u8.wrap (48 + (n : Int) % 10) = (c.toNat : Int) := by rw [hct, IntKind.wrap_u8]; omega
  have hcv := fun W : World => conv1b W c
  by_cases h : n < 10
  · rw [decQ_small h, hc]
    clear hc hct ih
    go_enter Tryz.func76, Tryz.ntmps76
    go_wp2
    go_ret
    exact ⟨rfl, (Below.refl _ _).alloc (Nat.le_refl _) _⟩
  · have D := hide (fun W : World => ih (n / 10) (by omega) W (by omega))
    have hq : ((n / 10 : Nat) : Int) = (n : Int) / 10 := by omega
    rw [hq] at D
    have z1 := decQ_len (n := n / 10) (by omega)
    have c1 := fun W => catQ (P := Tryz.prog) (Lib.decDigits (n / 10)) [c] (by show _ + 1 ≤ _; omega) W
    rw [decQ_big h, hc]
    have c2 : ∀ W, (Op.stringOp .add (bsQ (Lib.decDigits (n / 10))) ⟨#[c]⟩).run Tryz.prog W = .ok (.string (bsQ (Lib.decDigits (n / 10) ++ [c]))) W := c1
    generalize Lib.decDigits (n / 10) ++ [c] = T at *
    generalize bsQ (Lib.decDigits (n / 10)) = S at *
    clear hc hct ih z1 hq c1
    go_enter Tryz.func76, Tryz.ntmps76
    go_wp2_with fail
    refine (D.out _).mono ?_
    rintro e w1 ⟨rfl, hb⟩
    have HB := hide (((Below.refl w.heap.size w).alloc (Nat.le_refl _) (.cells #[.int .u8 (c.toNat : Int)] 5)).trans (hb.mono (by rw [World.size_alloc]; exact Nat.le_succ _)))
    clear hb
    go_wp2
    go_ret
    exact ⟨rfl, HB.out⟩
/-- a lexeme as a value -/
def lxV (k : Int) (t : List UInt8) (p : Int) : Value := .agg #[.int .i64 k, .string (bsQ t), .int .i64 p]
theorem textQ_beq (t : List UInt8) : ((bsQ t).toList == [48]) = decide (t = [48]) := by
  rw [Lib.toList_data, bsQ_list]
  by_cases h : t = [48]
  · rw [decide_eq_true h, h]; rfl
  · rw [decide_eq_false h]; exact beq_eq_false_iff_ne.2 h
set_option maxHeartbeats 4000000 in
set_option maxRecDepth 20000 in
theorem formQ_any (k p : Int) (t : List UInt8) (w : World) (hl : t.length ≤ 100000) :
    Calls Tryz.prog 51 #[lxV k t p] w fun e w' => e = .returned (.string (bsQ (formQ k t))) ∧ Below w.heap.size w w' := by
  unfold lxV
  have hz := bsQ_size t
  by_cases h3 : k = 3
  · subst h3
    have DT := hide (fun W : World => decimalText_any t.length W (by omega))
    have hd := decQ_len (n := t.length) (by omega)
    have a1 : ∀ W, (Op.stringOp .add (bsQ (Lib.decDigits t.length)) ⟨#[39, 98]⟩).run Tryz.prog W = .ok (.string (bsQ (Lib.decDigits t.length ++ [39, 98]))) W := fun W => catQ _ [39, 98] (by show _ + 2 ≤ _; omega) W
    have a2 : ∀ W, (Op.stringOp .add (bsQ (Lib.decDigits t.length ++ [39, 98])) (bsQ t)).run Tryz.prog W = .ok (.string (bsQ (Lib.decDigits t.length ++ [39, 98] ++ t))) W := fun W => catQ _ t (by rw [List.length_append]; show _ + 2 + _ ≤ _; omega) W
    have HV := hide (show formQ 3 t = Lib.decDigits t.length ++ [39, 98] ++ t by rw [formQ_bits]; simp)
    generalize Lib.decDigits t.length = D at *
    rw [← hz] at DT
    generalize D ++ [39, 98] ++ t = T at *
    generalize bsQ (D ++ [39, 98]) = S2 at *
    generalize bsQ D = S1 at *
    generalize bsQ t = s at *
    have hz1 : (s.size : Int) ≤ 100000 := by omega
    clear hd hz hl
    go_enter Tryz.func51, Tryz.ntmps51
    go_wp2_with fail
    obtain ⟨W1, hW1⟩ : ∃ W1, w.alloc (.cells #[.int .i64 3, .string s, .int .i64 p] 33) = W1 := ⟨_, rfl⟩
    rw [hW1]
    have hr : Row W1 w.heap.size 33 #[.int .i64 3, .string s, .int .i64 p] := by rw [← hW1]; exact Row.new _ _ _
    have HB := hide (show Below w.heap.size w W1 by rw [← hW1]; exact (Below.refl _ _).alloc (Nat.le_refl _) _)
    have CD := hide (fun (d : Nat) (os : Array Obj) => Calls.regrown_of (d := d) (os := os) (w := W1) (DT.out _))
    have r1 := fun d os => cell_regrown (hr.cell 1) d os
    clear hW1 hr
    refine wp_region_quiet_below (by kernel_rfl) (by kernel_rfl) ?_
    repeat (go_big_quiet_step (exact CD.out _ _))
    refine wpQuiet_nil ?_
    intro _ hw'
    obtain ⟨⟨dq, osq⟩, hw''⟩ := hw'
    subst hw''
    go_wp2
    go_ret
    exact ⟨by rw [HV.out]; first | done | rfl, HB.out.trans ((below_regrown _ dq osq).mono HB.out.size)⟩
  have e3 : (k == 3) = false := beq_eq_false_iff_ne.2 h3
  by_cases h4 : k = 4
  · subst h4
    have hb := textQ_beq t
    by_cases h48 : t = [48]
    · rw [decide_eq_true h48] at hb
      have HV := hide (show formQ 4 t = [48, 46, 48] by rw [h48]; rfl)
      clear h48 h3 e3
      generalize bsQ t = s at *
      go_enter Tryz.func51, Tryz.ntmps51
      go_wp2
      go_ret
      exact ⟨by rw [HV.out]; first | done | rfl, (Below.refl _ _).alloc (Nat.le_refl _) _⟩
    · rw [decide_eq_false h48] at hb
      have HV := hide (show formQ 4 t = t from formQ_real h48)
      clear h48 h3 e3
      generalize hs : bsQ t = s at *
      have HS := hide hs
      clear hs
      go_enter Tryz.func51, Tryz.ntmps51
      go_wp2
      go_ret
      exact ⟨by rw [HV.out, HS.out]; first | done | rfl, (Below.refl _ _).alloc (Nat.le_refl _) _⟩
  have e4 : (k == 4) = false := beq_eq_false_iff_ne.2 h4
  by_cases h5 : k = 5
  · subst h5
    have QT := hide (fun W : World => quoteQl_any t W hl)
    have HV := hide (formQ_str t)
    generalize bsQ t = s at *
    clear h3 h4
    go_enter Tryz.func51, Tryz.ntmps51
    go_wp2_with fail
    refine (QT.out _).mono ?_
    rintro e w1 ⟨rfl, hb⟩
    have HB := hide (((Below.refl w.heap.size w).alloc (Nat.le_refl _) (.cells #[.int .i64 5, .string s, .int .i64 p] 33)).trans (hb.mono (by rw [World.size_alloc]; exact Nat.le_succ _)))
    clear hb
    go_wp2
    go_ret
    exact ⟨by rw [HV.out]; first | done | rfl, HB.out⟩
  have e5 : (k == 5) = false := beq_eq_false_iff_ne.2 h5
  have HV := hide (show formQ k t = t by unfold formQ; rw [if_neg h3, if_neg (fun h => h4 h.1), if_neg h5])
  generalize hs : bsQ t = s at *
  have HS := hide hs
  clear h3 h4 h5 hs
  go_enter Tryz.func51, Tryz.ntmps51
  go_wp2
  go_ret
  exact ⟨by rw [HV.out, HS.out]; first | done | rfl, (Below.refl _ _).alloc (Nat.le_refl _) _⟩
end Go.Proofs.YtjlpekjfmgcbdaaGreatDoor
