/- MgM: the texts QrR QrS QrT QrU QrV QrW QrX in one. -/
import Derived.Test.YtjlpekjfmgcbdaaGreatDoorMgJ
import Derived.Test.YtjlpekjfmgcbdaaGreatDoorMgF
import Derived.Test.YtjlpekjfmgcbdaaGreatDoorMgG
import Derived.BigQuiet
/- Plain: the reference's parts and names. -/
set_option linter.unusedVariables false
set_option linter.unusedSimpArgs false
namespace Go.Proofs.YtjlpekjfmgcbdaaGreatDoor
open Go.RowKit Go.Shelf
/-- a part of a name at the front, without a blank behind it, and its size -/
def prtR : List UInt8 → Option (List UInt8 × Nat)
  | [] => none
  | c :: r => if c = 92 then
      (if spn prQ r = 0 then none else match r.drop (spn prQ r) with
        | [] => some (c :: r, r.length + 1)
        | d :: _ => if blQ d then some (c :: r.take (spn prQ r), spn prQ r + 2) else none)
    else if fiQ c then some ((c :: r).take (spn inQ (c :: r)), spn inQ (c :: r)) else none
theorem spn_at {p : UInt8 → Bool} : ∀ {l : List UInt8} {i : Nat}, i < spn p l → p (l.getD i 0) = true
  | [], i, h => absurd h (by show ¬ i < 0; omega)
  | c :: t, i, h => by
    cases hp : p c with
    | false => rw [spn_no hp] at h; exact absurd h (by omega)
    | true =>
      rw [spn_yes hp] at h
      cases i with
      | zero => exact hp
      | succ i => exact spn_at (l := t) (i := i) (by omega)
theorem inQ_bl : ∀ c : UInt8, inQ c = true → blQ c = false := fun c => all_bytes (p := fun c => inQ c = true → blQ c = false) (by decide +kernel) c
theorem getD_cons_succ8 (c : UInt8) (r : List UInt8) (n : Nat) : (c :: r).getD (n + 1) 0 = r.getD n 0 := rfl
theorem segQ_prt : ∀ m : List UInt8, segQ m = (prtR m).map fun p => ((if (m.drop p.2).head? = some 46 ∧ blQ (m.getD (p.2 - 1) 0) = true then p.1 ++ [32] else p.1), p.2)
  | [] => rfl
  | c :: r => by
    rw [segQ, prtR]
    by_cases hf : fiQ c = true
    · have hc : c ≠ 92 := fun e => by subst e; exact absurd hf (by decide)
      rw [if_pos hf, if_neg hc, if_pos hf, Option.map_some]
      have h1 : spn inQ (c :: r) = spn inQ r + 1 := spn_yes (by unfold inQ; rw [hf]; rfl)
      have h2 := inQ_bl _ (spn_at (p := inQ) (l := c :: r) (i := spn inQ (c :: r) - 1) (by omega))
      dsimp only
      rw [if_neg]
      rintro ⟨_, h3⟩
      rw [h2] at h3; cases h3
    · rw [if_neg hf]
      by_cases hc : c = 92
      · rw [if_pos hc, if_pos hc]
        by_cases h0 : spn prQ r = 0
        · rw [if_pos h0, if_pos h0]; rfl
        · rw [if_neg h0, if_neg h0]
          have hle := spn_le prQ r
          split
          · rename_i hd
            rw [hd]
            simp only [Option.map_some]
            rw [if_neg]
            rintro ⟨h3, _⟩
            rw [List.drop_eq_nil_of_le (by simp)] at h3; cases h3
          · rename_i d r2 hd
            rw [hd]
            simp only
            have hlt : spn prQ r < r.length := by
              have := congrArg List.length hd
              rw [List.length_drop, List.length_cons] at this; omega
            have hgd : r.getD (spn prQ r) 0 = d := by
              rw [getD_at hlt]
              rw [List.drop_eq_getElem_cons hlt] at hd
              exact (List.cons.inj hd).1
            have hd2 : (c :: r).drop (spn prQ r + 2) = r2 := by
              rw [List.drop_succ_cons]
              rw [List.drop_eq_getElem_cons hlt] at hd
              exact (List.cons.inj hd).2
            by_cases hb : blQ d = true
            · rw [if_pos hb, if_pos hb, Option.map_some]
              simp only
              rw [hd2, show spn prQ r + 2 - 1 = spn prQ r + 1 by omega, getD_cons_succ8, hgd]
              by_cases h4 : r2.head? = some 46
              · rw [if_pos h4, if_pos ⟨h4, hb⟩]
              · rw [if_neg h4, if_neg (fun h => h4 h.1), List.append_nil]
            · rw [if_neg hb, if_neg hb]; rfl
      · rw [if_neg hc, if_neg hc, if_neg hf]; rfl
theorem prtR_len {m T : List UInt8} {n : Nat} (h : prtR m = some (T, n)) : 1 ≤ n ∧ n ≤ m.length := by
  have h2 := segQ_prt m
  rw [h] at h2
  exact segQ_len h2
/-- the part at a place: its end (0: none), its text -/
def prtP (l : List UInt8) (a : Nat) : Nat × List UInt8 := match prtR (l.drop a) with | none => (0, []) | some p => (a + p.2, p.1)
/-- the name at a place: its end (0: none), its text -/
def nmR (l : List UInt8) (a : Nat) : Nat × List UInt8 := match pathR (l.drop a) with | none => (0, []) | some p => (a + p.2, p.1)
def blB (l : List UInt8) (k : Nat) (T : List UInt8) : List UInt8 := if blQ (l.getD (k - 1) 0) = true then T ++ [32] else T
/-- the rest of a name behind a part -/
def nmX (l : List UInt8) (k : Nat) (T : List UInt8) : Nat × List UInt8 :=
  if (l.drop k).head? = some 46 then (match pathR (l.drop (k + 1)) with | none => (0, []) | some q => (k + 1 + q.2, blB l k T ++ 46 :: q.1)) else (k, T)
theorem getD_drop8 (l : List UInt8) (a i : Nat) : (l.drop a).getD i 0 = l.getD (a + i) 0 := by
  rw [List.getD_eq_getElem?_getD, List.getD_eq_getElem?_getD, List.getElem?_drop]
theorem pathR_prt {l : List UInt8} {a n : Nat} {T : List UInt8} (h : prtR (l.drop a) = some (T, n)) :
    pathR (l.drop a) = if (l.drop (a + n)).head? = some 46 then (pathR (l.drop (a + n + 1))).map fun q => (blB l (a + n) T ++ 46 :: q.1, n + 1 + q.2) else some (T, n) := by
  have hn := prtR_len h
  rw [pathR_step, segQ_prt, h]
  simp only [Option.map_some, Option.bind_some, List.drop_drop, getD_drop8]
  rw [show a + (n - 1) = a + n - 1 by omega, show a + (n + 1) = a + n + 1 by omega]
  by_cases h1 : (l.drop (a + n)).head? = some 46
  · rw [if_pos h1, if_pos h1]
    unfold blB
    by_cases h2 : blQ (l.getD (a + n - 1) 0) = true
    · rw [if_pos ⟨h1, h2⟩, if_pos h2]
    · rw [if_neg (fun h => h2 h.2), if_neg h2]
  · rw [if_neg h1, if_neg h1, if_neg (fun h => h1 h.1)]
theorem pathR_no {l : List UInt8} {a : Nat} (h : prtR (l.drop a) = none) : pathR (l.drop a) = none := by
  rw [pathR_step, segQ_prt, h]; rfl
theorem nmR_part {l : List UInt8} {a n : Nat} {T : List UInt8} (h : prtR (l.drop a) = some (T, n)) : nmR l a = nmX l (a + n) T := by
  unfold nmR nmX
  rw [pathR_prt h]
  by_cases h1 : (l.drop (a + n)).head? = some 46
  · rw [if_pos h1, if_pos h1]
    cases pathR (l.drop (a + n + 1)) with
    | none => rfl
    | some q =>
      simp only [Option.map_some]
      rw [show a + (n + 1 + q.2) = a + n + 1 + q.2 by omega]
  · rw [if_neg h1, if_neg h1]
theorem nmR_no {l : List UInt8} {a : Nat} (h : prtR (l.drop a) = none) : nmR l a = (0, []) := by
  unfold nmR; rw [pathR_no h]
theorem nmX_step {l : List UInt8} {k n : Nat} {T T2 : List UInt8} (h1 : (l.drop k).head? = some 46) (h : prtR (l.drop (k + 1)) = some (T2, n)) :
    nmX l k T = nmX l (k + 1 + n) (blB l k T ++ 46 :: T2) := by
  unfold nmX
  rw [if_pos h1, pathR_prt h]
  have hb : blB l (k + 1 + n) (blB l k T ++ 46 :: T2) = blB l k T ++ 46 :: blB l (k + 1 + n) T2 := by
    generalize blB l k T = T0
    unfold blB
    split
    · simp
    · rfl
  by_cases h2 : (l.drop (k + 1 + n)).head? = some 46
  · rw [if_pos h2, if_pos h2, hb]
    cases pathR (l.drop (k + 1 + n + 1)) with
    | none => rfl
    | some q =>
      simp only [Option.map_some, List.append_assoc, List.cons_append]
      rw [show k + 1 + (n + 1 + q.2) = k + 1 + n + 1 + q.2 by omega]
  · rw [if_neg h2, if_neg h2]
theorem nmX_fail {l : List UInt8} {k : Nat} {T : List UInt8} (h1 : (l.drop k).head? = some 46) (h : prtR (l.drop (k + 1)) = none) : nmX l k T = (0, []) := by
  unfold nmX; rw [if_pos h1, pathR_no h]
theorem nmX_stop {l : List UInt8} {k : Nat} {T : List UInt8} (h1 : (l.drop k).head? ≠ some 46) : nmX l k T = (k, T) := by
  unfold nmX; rw [if_neg h1]
end Go.Proofs.YtjlpekjfmgcbdaaGreatDoor

/- Plain: where the reference's constants end, and what its numbers are. -/
set_option linter.unusedVariables false
set_option linter.unusedSimpArgs false
namespace Go.Proofs.YtjlpekjfmgcbdaaGreatDoor
open Go.RowKit Go.Shelf
def basOk (c : UInt8) : Bool := decide (lowR c = 98 ∨ lowR c = 111 ∨ lowR c = 104 ∨ lowR c = 100)
/-- how many digits the reference takes -/
def cR (b : UInt8) (t : List UInt8) : Nat :=
  if b = 100 then (if lowR (t.headD 0) = 120 ∨ lowR (t.headD 0) = 122 then 1 else spn dgQ t) else spn (ofQ b) t
theorem getD_over8 {l : List UInt8} {i : Nat} (h : l.length ≤ i) : l.getD i 0 = 0 := by
  rw [List.getD_eq_getElem?_getD, List.getElem?_eq_none h]; rfl
theorem conK_one (l : List UInt8) (a k : Nat) (b : UInt8) (hp : ∀ c, pR k c = ofQ b c) : (conK l a b k).1 = if spn (ofQ b) (l.drop (a + 2)) ≠ 0 then a + 2 + spn (ofQ b) (l.drop (a + 2)) else 0 := by
  unfold conK
  rw [show pR k = ofQ b from funext hp]
  by_cases h : spn (ofQ b) (l.drop (a + 2)) = 0
  · rw [if_pos h, if_neg (fun h2 => h2 h)]
  · rw [if_neg h, if_pos h]
theorem conR_as (l : List UInt8) (n : Nat) : (conR l n).1 = if basOk (l.getD (n + 1) 0) = true ∧ cR (lowR (l.getD (n + 1) 0)) (l.drop (n + 2)) ≠ 0 then n + 2 + cR (lowR (l.getD (n + 1) 0)) (l.drop (n + 2)) else 0 := by
  unfold conR
  by_cases h1 : n + 1 < l.length
  · rw [if_pos h1]
    generalize l.getD (n + 1) 0 = c
    unfold cR basOk
    by_cases e1 : lowR c = 98
    · rw [if_pos e1, conK_one l n 1 98 (fun d => (pR_of d).1), e1, decide_eq_true (by decide)]
      simp
    rw [if_neg e1]
    by_cases e2 : lowR c = 111
    · rw [if_pos e2, conK_one l n 3 111 (fun d => (pR_of d).2.1), e2, decide_eq_true (by decide)]
      simp
    rw [if_neg e2]
    by_cases e3 : lowR c = 104
    · rw [if_pos e3, conK_one l n 4 104 (fun d => (pR_of d).2.2), e3, decide_eq_true (by decide)]
      simp
    rw [if_neg e3]
    by_cases e4 : lowR c = 100
    · rw [if_pos e4, e4, decide_eq_true (by decide), if_pos rfl]
      unfold conD
      by_cases hx : lowR ((l.drop (n + 2)).headD 0) = 120 ∨ lowR ((l.drop (n + 2)).headD 0) = 122
      · rw [if_pos hx, if_pos hx, if_pos ⟨rfl, by decide⟩]
      · rw [if_neg hx, if_neg hx]
        by_cases h0 : spn dgQ (l.drop (n + 2)) = 0
        · rw [if_pos h0, if_neg (fun h => h.2 h0)]
        · rw [if_neg h0, if_pos ⟨rfl, h0⟩]
    · rw [if_neg e4, decide_eq_false (by rintro (h | h | h | h); exact e1 h; exact e2 h; exact e3 h; exact e4 h), if_neg (fun h => by cases h.1)]
  · rw [if_neg h1, getD_over8 (by omega), if_neg (fun h => absurd h.1 (by decide))]
theorem constQ_as {l : List UInt8} {n : Nat} (h : l.getD n 0 = 39) : constQ l n = if basOk (l.getD (n + 1) 0) = true ∧ spn (ofQ (lowR (l.getD (n + 1) 0))) (l.drop (n + 2)) ≠ 0 then n + 2 + spn (ofQ (lowR (l.getD (n + 1) 0))) (l.drop (n + 2)) else 0 := by
  have ha : n < l.length := by
    apply Classical.byContradiction
    intro h2
    rw [getD_over8 (by omega)] at h
    exact absurd h (by decide)
  by_cases h1 : n + 1 < l.length
  · have hc := getD_at h1
    have h39 : l[n] = 39 := by rw [← getD_at ha]; exact h
    have hb := base_of (l.getD (n + 1) 0)
    by_cases hok : basOk (l.getD (n + 1) 0) = true
    · have hq := hb.1 (of_decide_eq_true hok)
      by_cases h2 : n + 2 < l.length
      · have hbs : (baseQ (lowQ l[n+1])).isSome = true := by
          rw [← hc, hq.2]
          rcases of_decide_eq_true hok with e | e | e | e <;> rw [e] <;> decide
        rw [constQ_some h2 h39 hbs (by rw [← hc]; exact hq.1), ← hc, hq.2]
        by_cases h0 : spn (ofQ (lowR (l.getD (n + 1) 0))) (l.drop (n + 2)) = 0
        · rw [if_pos h0, if_neg (fun h => h.2 h0)]
        · rw [if_neg h0, if_pos ⟨hok, h0⟩]
      · rw [constQ_short (by omega), if_neg]
        rintro ⟨_, h3⟩
        apply h3
        rw [List.drop_eq_nil_of_le (by omega)]; rfl
    · rw [if_neg (fun h => hok h.1)]
      have hn := hb.2 (fun h => hok (decide_eq_true h))
      rw [hc] at hn
      exact constQ_base h1 hn
  · rw [constQ_short (by omega), if_neg]
    rintro ⟨h3, _⟩
    rw [getD_over8 (by omega)] at h3
    exact absurd h3 (by decide)
theorem spn_split {p : UInt8 → Bool} : ∀ (k : Nat) (t : List UInt8), k ≤ t.length → (∀ c ∈ t.take k, p c = true) → spn p t = k + spn p (t.drop k)
  | 0, t, _, _ => by rw [List.drop_zero]; omega
  | k + 1, [], h, _ => absurd h (by simp)
  | k + 1, c :: t, h, hp => by
    rw [spn_yes (hp c (by rw [List.take_succ_cons]; exact List.mem_cons_self)), List.drop_succ_cons, spn_split k t (by rw [List.length_cons] at h; omega) (fun d hd => hp d (by rw [List.take_succ_cons]; exact List.mem_cons_of_mem _ hd))]
    omega
theorem spn_take8 {p : UInt8 → Bool} : ∀ (t : List UInt8), ∀ c ∈ t.take (spn p t), p c = true
  | [], c, h => by cases h
  | d :: t, c, h => by
    cases hp : p d with
    | false => rw [spn_no hp] at h; cases h
    | true =>
      rw [spn_yes hp, List.take_succ_cons] at h
      rcases List.mem_cons.1 h with rfl | h
      · exact hp
      · exact spn_take8 t c h
theorem ofQ_in : ∀ c : UInt8, (ofQ 100 c = true → inQ c = true) := fun c => all_bytes (p := fun c => ofQ 100 c = true → inQ c = true) (by decide +kernel) c
theorem cR_take (b : UInt8) (t : List UInt8) : cR b t ≤ t.length ∧ ∀ c ∈ t.take (cR b t), ofQ b c = true := by
  unfold cR
  by_cases hb : b = 100
  · subst hb
    rw [if_pos rfl]
    by_cases hx : lowR (t.headD 0) = 120 ∨ lowR (t.headD 0) = 122
    · rw [if_pos hx]
      cases t with
      | nil => exact absurd hx (by decide)
      | cons d r =>
        refine ⟨by simp, fun c hc => ?_⟩
        rw [List.take_succ_cons, List.take_zero] at hc
        rw [List.mem_singleton.1 hc, (ofQ_dec d).1]
        rw [decide_eq_true (show lowR d = 120 ∨ lowR d = 122 from hx)]; rfl
    · rw [if_neg hx]
      exact ⟨spn_le _ _, fun c hc => by rw [(ofQ_dec c).1, spn_take8 t c hc, Bool.or_true]⟩
  · rw [if_neg hb]
    exact ⟨spn_le _ _, spn_take8 t⟩
theorem cR_le (b : UInt8) (t : List UInt8) : cR b t ≤ spn (ofQ b) t := by
  have h := cR_take b t
  rw [spn_split _ _ h.1 h.2]; omega
def aloneT (t : List UInt8) : Bool := match t with | [] => true | c :: _ => !inQ c && c != 39
theorem aloneQ_T (l : List UInt8) (n : Nat) : aloneQ l n = aloneT (l.drop n) := rfl
theorem cR_alone {b : UInt8} {t : List UInt8} (h : aloneT (t.drop (cR b t)) = true) : spn (ofQ b) t = cR b t := by
  have ht := cR_take b t
  by_cases hb : b = 100
  · subst hb
    rw [spn_split _ _ ht.1 ht.2]
    have : spn (ofQ 100) (t.drop (cR 100 t)) = 0 := by
      cases hd : t.drop (cR 100 t) with
      | nil => rfl
      | cons c r =>
        rw [hd] at h
        simp only [aloneT, Bool.and_eq_true, Bool.not_eq_true'] at h
        apply spn_no
        cases hc : ofQ 100 c with
        | false => rfl
        | true => have := ofQ_in c hc; rw [h.1] at this; cases this
    omega
  · unfold cR; rw [if_neg hb]
theorem cR_cut {b : UInt8} {t : List UInt8} (h : cR b (t.take (spn (ofQ b) t)) = spn (ofQ b) t) : cR b t = spn (ofQ b) t := by
  have hle := cR_le b t
  by_cases hb : b = 100
  · subst hb
    unfold cR at h hle ⊢
    rw [if_pos rfl] at h hle ⊢
    cases t with
    | nil => exact h
    | cons d r =>
      by_cases h0 : spn (ofQ 100) (d :: r) = 0
      · rw [h0] at hle ⊢; omega
      · obtain ⟨k, hk⟩ : ∃ k, spn (ofQ 100) (d :: r) = k + 1 := ⟨_, (Nat.succ_pred h0).symm⟩
        rw [hk, List.take_succ_cons] at h
        have e1 : (d :: r.take k).headD 0 = d := rfl
        have e2 : (d :: r).headD 0 = d := rfl
        rw [e1] at h
        rw [e2] at hle ⊢
        by_cases hx : lowR d = 120 ∨ lowR d = 122
        · rw [if_pos hx] at h ⊢; rw [hk]; exact h
        · rw [if_neg hx] at h hle ⊢
          have hlen : (d :: r.take k).length = k + 1 := by
            have := spn_le (ofQ 100) (d :: r)
            rw [hk, List.length_cons] at this
            rw [List.length_cons, List.length_take]; omega
          have hall := spn_all (h.trans hlen.symm)
          have h5 := spn_split (p := dgQ) (k + 1) (d :: r) (by have := spn_le (ofQ 100) (d :: r); omega) (by rw [List.take_succ_cons]; exact hall)
          omega
  · unfold cR; rw [if_neg hb]
theorem spn_front {p : UInt8 → Bool} {l : List UInt8} {n C : Nat} (h : spn p l = n) (hn : n < C) : spn p (l.take C) = n := by
  by_cases hC : l.length ≤ C
  · rw [List.take_of_length_le hC]; exact h
  · have h1 := spn_le p l
    have hall : ∀ c ∈ (l.take C).take n, p c = true := by
      rw [List.take_take, Nat.min_eq_left (by omega)]
      rw [← h]; exact spn_take8 l
    rw [spn_split n (l.take C) (by rw [List.length_take]; omega) hall]
    have h2 := spn_split (p := p) n l (by omega) (by rw [← h]; exact spn_take8 l)
    have h3 : spn p (l.drop n) = 0 := by omega
    have h4 : (l.take C).drop n = (l.drop n).take (C - n) := List.drop_take
    rw [h4]
    cases hd : l.drop n with
    | nil => simp [spn]
    | cons c r =>
      rw [hd] at h3
      have hpc : p c = false := by
        cases hc : p c with
        | false => rfl
        | true => rw [spn_yes hc] at h3; omega
      rw [show C - n = (C - n - 1) + 1 by omega, List.take_succ_cons, spn_no hpc]
      rfl
theorem getD_take8 {l : List UInt8} {C i : Nat} (h : i < C) : (l.take C).getD i 0 = l.getD i 0 := by
  rw [List.getD_eq_getElem?_getD, List.getD_eq_getElem?_getD, List.getElem?_take_of_lt h]
/-- both take the same constant, or both take none -/
theorem con_both {l : List UInt8} {n : Nat} (hn : spn dgQ l = n) (h0 : n ≠ 0) (h39 : l.getD n 0 = 39) :
    (0 < (conR l n).1 ∧ aloneQ l (conR l n).1 = true → constQ l n = (conR l n).1) ∧
    (¬ (0 < (conR l n).1 ∧ aloneQ l (conR l n).1 = true) → constQ l n = 0 ∨ aloneQ l (constQ l n) = false ∨ (bitsQ (l.take (constQ l n))).2 = 3) := by
  have hR := conR_as l n
  have hC := constQ_as h39
  constructor
  · rintro ⟨h1, h2⟩
    by_cases hb : basOk (l.getD (n + 1) 0) = true ∧ cR (lowR (l.getD (n + 1) 0)) (l.drop (n + 2)) ≠ 0
    · rw [if_pos hb] at hR
      have h3 : spn (ofQ (lowR (l.getD (n + 1) 0))) (l.drop (n + 2)) = cR (lowR (l.getD (n + 1) 0)) (l.drop (n + 2)) := by
        apply cR_alone
        rw [List.drop_drop, ← hR, ← aloneQ_T]; exact h2
      rw [hC, h3, if_pos hb, hR]
    · rw [if_neg hb] at hR; omega
  · intro h1
    by_cases hc0 : constQ l n = 0
    · exact .inl hc0
    cases hal : aloneQ l (constQ l n) with
    | false => exact .inr (.inl rfl)
    | true =>
    refine .inr (.inr ?_)
    rw [← bitsR_eq]
    by_cases hb : basOk (l.getD (n + 1) 0) = true ∧ spn (ofQ (lowR (l.getD (n + 1) 0))) (l.drop (n + 2)) ≠ 0
    · rw [if_pos hb] at hC
      have hle := constQ_le l n
      have hlen : (l.take (constQ l n)).length = constQ l n := by rw [List.length_take]; omega
      have hf := spn_front hn (C := constQ l n) (by omega)
      have hg1 := getD_take8 (l := l) (C := constQ l n) (i := n) (by omega)
      have hg2 := getD_take8 (l := l) (C := constQ l n) (i := n + 1) (by omega)
      unfold bitsR
      rw [hf, hg1, h39, if_neg (by rintro (h | h); exact h0 h; exact h rfl), hlen, if_pos]
      intro h3
      apply h1
      have hR2 := conR_as (l.take (constQ l n)) n
      rw [h3, hg2] at hR2
      have hd : (l.take (constQ l n)).drop (n + 2) = (l.drop (n + 2)).take (spn (ofQ (lowR (l.getD (n + 1) 0))) (l.drop (n + 2))) := by
        rw [List.drop_take]; congr 1; omega
      rw [hd] at hR2
      by_cases hb2 : basOk (l.getD (n + 1) 0) = true ∧ cR (lowR (l.getD (n + 1) 0)) ((l.drop (n + 2)).take (spn (ofQ (lowR (l.getD (n + 1) 0))) (l.drop (n + 2)))) ≠ 0
      · rw [if_pos hb2] at hR2
        have h4 := cR_cut (b := lowR (l.getD (n + 1) 0)) (t := l.drop (n + 2)) (by omega)
        rw [h4, if_pos hb, ← hC] at hR
        rw [hR]
        exact ⟨by omega, hal⟩
      · rw [if_neg hb2] at hR2; omega
    · rw [if_neg hb] at hC; exact absurd hC hc0
theorem conR_shift (l : List UInt8) (a n : Nat) : (conR l (a + n)).1 = if (conR (l.drop a) n).1 = 0 then 0 else a + (conR (l.drop a) n).1 := by
  rw [conR_as, conR_as (l.drop a) n, getD_drop8, List.drop_drop, show a + (n + 1) = a + n + 1 by omega, show a + (n + 2) = a + n + 2 by omega]
  by_cases h : basOk (l.getD (a + n + 1) 0) = true ∧ cR (lowR (l.getD (a + n + 1) 0)) (l.drop (a + n + 2)) ≠ 0
  · rw [if_pos h, if_pos h, if_neg (by omega)]; omega
  · rw [if_neg h, if_neg h, if_pos rfl]
end Go.Proofs.YtjlpekjfmgcbdaaGreatDoor

/- Plain: the numbers of the reference are those of the program. -/
set_option linter.unusedVariables false
set_option linter.unusedSimpArgs false
namespace Go.Proofs.YtjlpekjfmgcbdaaGreatDoor
open Go.RowKit Go.Shelf
/-- what continues a number in a wrong way -/
def tlQ (c : UInt8) : Bool := inQ c || c == 39
theorem aloneT_tl (t : List UInt8) : aloneT t = true ↔ spn tlQ t = 0 := by
  cases t with
  | nil => exact ⟨fun _ => rfl, fun _ => rfl⟩
  | cons c r =>
    cases h : tlQ c with
    | true =>
      rw [spn_yes h]
      refine ⟨fun h2 => ?_, fun h2 => absurd h2 (by omega)⟩
      simp only [tlQ, Bool.or_eq_true] at h
      simp only [aloneT, Bool.and_eq_true, Bool.not_eq_true', bne_iff_ne, ne_eq] at h2
      rcases h with h | h
      · rw [h2.1] at h; cases h
      · exact absurd (eq_of_beq h) h2.2
    | false =>
      rw [spn_no h]
      refine ⟨fun _ => rfl, fun _ => ?_⟩
      simp only [tlQ, Bool.or_eq_false_iff] at h
      simp only [aloneT, h.1, Bool.not_false, Bool.true_and, bne, h.2]
theorem firstU_mem : ∀ {us : List (List UInt8)} {t : List UInt8}, 0 < firstU us t → t.take (firstU us t) ∈ us
  | [], _, h => absurd h (by show ¬ 0 < 0; omega)
  | u :: us, t, h => by
    unfold firstU at h ⊢
    by_cases hp : Lib.hasPrefix t u = true
    · rw [if_pos hp] at h ⊢
      have h2 : u <+: t := List.isPrefixOf_iff_prefix.1 hp
      rw [← List.prefix_iff_eq_take.1 h2]
      exact List.mem_cons_self
    · rw [if_neg hp] at h ⊢
      exact List.mem_cons_of_mem _ (firstU_mem h)
theorem unit_tl : ∀ u ∈ unitsQ, ∀ c ∈ u, tlQ c = true := by decide
theorem unit_first : ∀ u ∈ unitsQ, ∀ r : List UInt8, firstU unitsQ (u ++ r) = u.length := by
  intro u hu r
  simp only [unitsQ, List.mem_cons, List.not_mem_nil, or_false] at hu
  rcases hu with rfl | rfl | rfl | rfl | rfl | rfl <;> simp [firstU, unitsQ, Lib.hasPrefix, List.isPrefixOf]
theorem unit_alone (t : List UInt8) : (aloneT (t.drop (unitQ t)) = true ↔ (spn tlQ t = 0 ∨ t.take (spn tlQ t) ∈ unitsQ)) ∧ (aloneT (t.drop (unitQ t)) = true → unitQ t = spn tlQ t) := by
  have hle := (unitQ_le t).2
  have hall : ∀ c ∈ t.take (unitQ t), tlQ c = true := by
    intro c hc
    by_cases h0 : 0 < unitQ t
    · exact unit_tl _ (firstU_mem h0) c hc
    · rw [show unitQ t = 0 by omega, List.take_zero] at hc; cases hc
  have hs := spn_split (p := tlQ) _ t hle hall
  rw [aloneT_tl]
  refine ⟨⟨fun h => ?_, fun h => ?_⟩, fun h => by omega⟩
  · have he : spn tlQ t = unitQ t := by omega
    by_cases h0 : 0 < unitQ t
    · exact .inr (by rw [he]; exact firstU_mem h0)
    · exact .inl (by omega)
  · rcases h with h | h
    · omega
    · have h2 := unit_first _ h (t.drop (spn tlQ t))
      rw [List.take_append_drop, List.length_take, Nat.min_eq_left (spn_le _ _)] at h2
      have h3 : unitQ t = spn tlQ t := h2
      omega
theorem numQ_bits {m : List UInt8} {n : Nat} (hn : spn dgQ m = n) (h0 : n ≠ 0) (h39 : m.getD n 0 = 39) (hk : 0 < (conR m n).1 ∧ aloneQ m (conR m n).1 = true) :
    numQ m = ⟨3, (bitsQ (m.take (conR m n).1)).1, (conR m n).1, (bitsQ (m.take (conR m n).1)).2⟩ := by
  have hb := (con_both hn h0 h39).1 hk
  unfold numQ numW
  rw [hn, hb, if_pos hk.1, if_pos hk.2]
theorem getD_lt39 {m : List UInt8} {n : Nat} (h39 : m.getD n 0 = 39) : n < m.length := by
  apply Classical.byContradiction
  intro h2
  rw [getD_over8 (by omega)] at h39
  exact absurd h39 (by decide)
theorem numQ_bad {m : List UInt8} {n : Nat} (hn : spn dgQ m = n) (h0 : n ≠ 0) (h39 : m.getD n 0 = 39) (hk : ¬ (0 < (conR m n).1 ∧ aloneQ m (conR m n).1 = true)) :
    (numQ m).err = 3 := by
  have hb := (con_both hn h0 h39).2 hk
  have hlt := getD_lt39 h39
  have h39' : m[n] = 39 := by rw [← getD_at hlt]; exact h39
  unfold numQ numW
  rw [hn]
  by_cases hc : 0 < constQ m n
  · rw [if_pos hc]
    by_cases ha : aloneQ m (constQ m n) = true
    · rw [if_pos ha]
      rcases hb with h | h | h
      · omega
      · rw [h] at ha; cases ha
      · exact h
    · rw [if_neg ha]; rfl
  · rw [if_neg hc, dotQ_no hlt (by rw [h39']; decide), expQ_no hlt (by rw [h39']; decide), if_neg (by omega), if_pos]
    · rfl
    · have hu : unitQ (m.drop n) = 0 := by
        rw [List.drop_eq_getElem_cons hlt, h39']
        simp [unitQ, firstU, unitsQ, Lib.hasPrefix, List.isPrefixOf]
      rw [hu, Nat.add_zero, aloneQ_T, List.drop_eq_getElem_cons hlt, h39']; rfl
theorem constQ_no {m : List UInt8} {n : Nat} (h39 : m.getD n 0 ≠ 39) : constQ m n = 0 := by
  by_cases hlt : n < m.length
  · exact constQ_tick hlt (by rw [← getD_at hlt]; exact h39)
  · exact constQ_short (by omega)
theorem numQ_real {m : List UInt8} {n e : Nat} (hn : spn dgQ m = n) (h39 : m.getD n 0 ≠ 39) (he : expQ m (dotQ m n) = e) (hlt : n < e) :
    numQ m = if aloneQ m e then ⟨4, (realQ (m.take e)).1, e, (realQ (m.take e)).2⟩ else wrongQ 3 := by
  unfold numQ numW
  rw [hn, constQ_no h39, he, if_neg (by omega), if_pos hlt]
theorem numQ_rest {m : List UInt8} {n e : Nat} (hn : spn dgQ m = n) (h0 : n ≠ 0) (h39 : m.getD n 0 ≠ 39) (he : expQ m (dotQ m n) = e) (hlt : ¬ n < e) :
    numQ m = if spn tlQ (m.drop n) = 0 ∨ (m.drop n).take (spn tlQ (m.drop n)) ∈ unitsQ then
      (if 15 < (stripR (m.take n)).length then wrongQ 9 else foundQ (if spn tlQ (m.drop n) = 0 then 1 else 2) (stripR (m.take n) ++ (m.drop n).take (spn tlQ (m.drop n))) (n + spn tlQ (m.drop n)))
      else wrongQ 3 := by
  have hu := unit_alone (m.drop n)
  have hs : stripR (m.take n) = stripQ (m.take n) := stripR_eq _ (by
    intro h
    have := congrArg List.length h
    have h1 := spn_le dgQ m
    rw [List.length_take, List.length_nil] at this; omega)
  unfold numQ numW
  rw [hn, constQ_no h39, he, if_neg (by omega), if_neg hlt, hs]
  have ha : aloneQ m (n + unitQ (m.drop n)) = aloneT ((m.drop n).drop (unitQ (m.drop n))) := by rw [aloneQ_T, List.drop_drop]
  rw [ha]
  by_cases h : aloneT ((m.drop n).drop (unitQ (m.drop n))) = true
  · rw [if_pos (hu.1.1 h), h, if_neg (by decide), hu.2 h]
  · rw [if_neg (fun h2 => h (hu.1.2 h2)), if_pos (by simpa using h)]
end Go.Proofs.YtjlpekjfmgcbdaaGreatDoor

/- Plain: strings in a text, blanks and comments, symbols: the reference's are the program's. -/
set_option linter.unusedVariables false
set_option linter.unusedSimpArgs false
namespace Go.Proofs.YtjlpekjfmgcbdaaGreatDoor
open Go.RowKit Go.Shelf
theorem stepE_cut {t : List UInt8} {d : UInt8} {j k : Nat} (h : stepE t = some (d, j)) (hk : j ≤ k + 1) : stepE (t.take k) = some (d, j) := by
  cases t with
  | nil => cases h
  | cons c q =>
    have hj := (stepE_pos h).1
    have hj : 2 ≤ j := hj
    obtain ⟨k, rfl⟩ : ∃ k', k = k' + 1 := ⟨k - 1, by omega⟩
    rw [List.take_succ_cons]
    simp only [stepE] at h ⊢
    by_cases h1 : c = 34 ∨ c = 92
    · rw [if_pos h1] at h ⊢; exact h
    · rw [if_neg h1] at h ⊢
      by_cases h2 : c = 120
      · rw [if_pos h2] at h ⊢
        match q, h with
        | [], h => cases h
        | [_], h => cases h
        | x :: y :: z, h =>
          have h4 : j = 4 := by
            simp only at h
            by_cases h5 : 0 ≤ hexQ x ∧ 0 ≤ hexQ y
            · rw [if_pos h5] at h; cases h; rfl
            · rw [if_neg h5] at h; cases h
          obtain ⟨k, rfl⟩ : ∃ k', k = k' + 2 := ⟨k - 2, by omega⟩
          exact h
      · rw [if_neg h2] at h; cases h
theorem stepU_cut {t : List UInt8} {d : UInt8} {j k : Nat} (h : stepU t = some (d, j)) (hk : j ≤ k) : stepU (t.take k) = some (d, j) := by
  cases t with
  | nil => cases h
  | cons c q =>
    have hj := (stepU_pos h).1
    have hj : 1 ≤ j := hj
    obtain ⟨k, rfl⟩ : ∃ k', k = k' + 1 := ⟨k - 1, by omega⟩
    rw [List.take_succ_cons]
    simp only [stepU] at h ⊢
    by_cases h1 : badU c = true
    · rw [if_pos h1] at h; cases h
    · rw [if_neg h1] at h ⊢
      by_cases h2 : c = 92
      · rw [if_pos h2] at h ⊢; exact stepE_cut h hk
      · rw [if_neg h2] at h ⊢; exact h
theorem quotW_cut : ∀ (n : Nat) (r : List UInt8), r.length ≤ n → ∀ o k, quotW r = some (o, k) → quotW (r.take k) = some (o, k)
  | _, [], _, _, _, h => by cases h
  | 0, c :: t, h, _, _, _ => absurd h (by simp)
  | n + 1, c :: t, h, o, k, hq => by
    rw [List.length_cons] at h
    by_cases h34 : c = 34
    · subst h34
      rw [quotW_end] at hq
      cases hq
      exact quotW_end []
    · cases hs : stepU (c :: t) with
      | none => rw [quotW_stop h34 hs] at hq; cases hq
      | some p =>
        obtain ⟨d, j⟩ := p
        obtain ⟨hk1, hk2⟩ := stepU_pos hs
        have hk1 : 1 ≤ j := hk1
        rw [quotW_step h34 hs] at hq
        cases hq2 : quotW ((c :: t).drop j) with
        | none => rw [hq2] at hq; cases hq
        | some q =>
          obtain ⟨o', n'⟩ := q
          rw [hq2] at hq
          cases hq
          have ih := quotW_cut n _ (by rw [List.length_drop, List.length_cons]; omega) o' n' hq2
          have hs2 := stepU_cut (k := j + n') hs (by omega)
          have hd : ((c :: t).take (j + n')).drop j = ((c :: t).drop j).take n' := by rw [List.drop_take]; congr 1; omega
          show quotW ((c :: t).take (j + n')) = some (d :: o', j + n')
          rw [show j + n' = (j + n' - 1) + 1 by omega, List.take_succ_cons] at hs2 hd ⊢
          rw [quotW_step h34 hs2, hd, ih]
          show some (d :: o', j + n') = _
          congr 2; omega
theorem quotW_mono : ∀ (n : Nat) (r : List UInt8), r.length ≤ n → ∀ o k (x : List UInt8), quotW r = some (o, k) → quotW (r ++ x) = some (o, k)
  | _, [], _, _, _, _, h => by cases h
  | 0, c :: t, h, _, _, _, _ => absurd h (by simp)
  | n + 1, c :: t, h, o, k, x, hq => by
    rw [List.length_cons] at h
    by_cases h34 : c = 34
    · subst h34
      rw [quotW_end] at hq
      cases hq
      exact quotW_end _
    · cases hs : stepU (c :: t) with
      | none => rw [quotW_stop h34 hs] at hq; cases hq
      | some p =>
        obtain ⟨d, j⟩ := p
        obtain ⟨hk1, hk2⟩ := stepU_pos hs
        have hk1 : 1 ≤ j := hk1
        have hk2 : j ≤ (c :: t).length := hk2
        rw [quotW_step h34 hs] at hq
        cases hq2 : quotW ((c :: t).drop j) with
        | none => rw [hq2] at hq; cases hq
        | some q =>
          obtain ⟨o', n'⟩ := q
          rw [hq2] at hq
          cases hq
          have ih := quotW_mono n _ (by rw [List.length_drop, List.length_cons]; omega) o' n' x hq2
          have hs2 := stepU_mono x hs
          rw [List.cons_append] at hs2 ⊢
          rw [quotW_step h34 hs2, ← List.cons_append, List.drop_append_of_le_length hk2, ih]; rfl
theorem hexQ_mark : ∀ c : UInt8, 0 ≤ hexQ c → c ≠ 34 ∧ c ≠ 92 := fun c => all_bytes (p := fun c => 0 ≤ hexQ c → c ≠ 34 ∧ c ≠ 92) (by decide +kernel) c
theorem quotW_close : ∀ (n : Nat) (r : List UInt8), r.length ≤ n → ∀ o k, quotW r = some (o, k) → closeW r + 1 = k
  | _, [], _, _, _, h => by cases h
  | 0, c :: t, h, _, _, _ => absurd h (by simp)
  | n + 1, c :: t, h, o, k, hq => by
    rw [List.length_cons] at h
    by_cases h34 : c = 34
    · subst h34
      rw [quotW_end] at hq
      cases hq
      rw [closeW_end]
    · cases hs : stepU (c :: t) with
      | none => rw [quotW_stop h34 hs] at hq; cases hq
      | some p =>
        obtain ⟨d, j⟩ := p
        obtain ⟨hk1, hk2⟩ := stepU_pos hs
        have hk1 : 1 ≤ j := hk1
        rw [quotW_step h34 hs] at hq
        cases hq2 : quotW ((c :: t).drop j) with
        | none => rw [hq2] at hq; cases hq
        | some q =>
          obtain ⟨o', n'⟩ := q
          rw [hq2] at hq
          cases hq
          have ih := quotW_close n _ (by rw [List.length_drop, List.length_cons]; omega) o' n' hq2
          show closeW (c :: t) + 1 = j + n'
          simp only [stepU] at hs
          by_cases h1 : badU c = true
          · rw [if_pos h1] at hs; cases hs
          · rw [if_neg h1] at hs
            by_cases h2 : c = 92
            · subst h2
              rw [if_pos rfl] at hs
              rw [closeW_esc]
              cases t with
              | nil => cases hs
              | cons e q2 =>
                simp only [stepE] at hs
                by_cases h3 : e = 34 ∨ e = 92
                · rw [if_pos h3] at hs
                  cases hs
                  have ih : closeW q2 + 1 = n' := ih
                  show closeW q2 + 2 + 1 = 2 + n'
                  omega
                · rw [if_neg h3] at hs
                  by_cases h4 : e = 120
                  · rw [if_pos h4] at hs
                    match q2, hs, ih with
                    | [], hs, _ => cases hs
                    | [_], hs, _ => cases hs
                    | x :: y :: z, hs, ih =>
                      simp only at hs
                      by_cases h5 : 0 ≤ hexQ x ∧ 0 ≤ hexQ y
                      · rw [if_pos h5] at hs
                        cases hs
                        have ih : closeW z + 1 = n' := ih
                        show closeW (x :: y :: z) + 2 + 1 = 4 + n'
                        rw [closeW_pl _ (hexQ_mark x h5.1).1 (hexQ_mark x h5.1).2, closeW_pl _ (hexQ_mark y h5.2).1 (hexQ_mark y h5.2).2]
                        omega
                      · rw [if_neg h5] at hs; cases hs
                  · rw [if_neg h4] at hs; cases hs
            · rw [if_neg h2] at hs
              cases hs
              rw [closeW_pl t h34 h2]
              have ih : closeW t + 1 = n' := ih
              omega
theorem quotP_front (r : List UInt8) : quotP (34 :: r) 0 = match quotW r with | none => (0, []) | some q => (1 + q.2, q.1) := by unfold quotP; rfl
/-- a string at the front of a text -/
theorem quoted_some {r o : List UInt8} {k : Nat} (h : quotW r = some (o, k)) :
    quotedQ (34 :: r) = ⟨5, (if 64 < o.length then [] else o), k + 1, (if 64 < o.length then 9 else 0)⟩ := by
  obtain ⟨a1, a2, a3⟩ := quotW_last _ _ (Nat.le_refl _) o k h
  have hc := quotW_close _ _ (Nat.le_refl _) o k h
  have hcut := quotW_cut _ _ (Nat.le_refl _) o k h
  rw [quotedQ_eq]
  unfold quotedW
  have hd : (34 :: r).drop 1 = r := rfl
  rw [hd, show 1 + closeW r = k by omega, if_neg (by rw [List.length_cons]; omega), List.take_succ_cons, ← refUnqP_eq]
  have hP : quotP (34 :: r.take k) 0 = (1 + k, o) := by rw [quotP_front, hcut]
  unfold refUnqP
  rw [hP, if_neg (by rintro (h | h); cases h; exact h rfl), if_neg (by rw [List.length_cons, List.length_take]; simp only [ne_eq, Decidable.not_not]; omega)]
  simp only
  by_cases h2 : 64 < o.length
  · rw [if_pos h2, if_pos h2, if_pos h2]
  · rw [if_neg h2, if_neg h2, if_neg h2]
theorem quoted_none {r : List UInt8} (h : quotW r = none) : (quotedQ (34 :: r)).err = 3 := by
  rw [quotedQ_eq]
  unfold quotedW
  have hd : (34 :: r).drop 1 = r := rfl
  rw [hd]
  by_cases h1 : (34 :: r).length ≤ 1 + closeW r
  · rw [if_pos h1]; rfl
  · rw [if_neg h1]
    rw [List.length_cons] at h1
    show (unqQ _).2 = 3
    rw [show 1 + closeW r + 1 = (closeW r + 1) + 1 by omega, List.take_succ_cons, ← refUnqP_eq]
    have hlen : (34 :: r.take (closeW r + 1)).length = 1 + (closeW r + 1) := by rw [List.length_cons, List.length_take]; omega
    unfold refUnqP
    rw [if_neg (by rintro (h | h); cases h; exact h rfl), if_pos]
    rw [quotP_front, hlen]
    cases hq : quotW (r.take (closeW r + 1)) with
    | none => show 0 ≠ _; omega
    | some q =>
      obtain ⟨o, k⟩ := q
      have := quotW_mono _ _ (Nat.le_refl _) o k (r.drop (closeW r + 1)) hq
      rw [List.take_append_drop, h] at this
      cases this
/-- the place of the next word, step by step -/
theorem nextQ_end {l : List UInt8} {a : Nat} (h : l.length ≤ a) : nextQ l a = a := by
  unfold nextQ; rw [List.drop_eq_nil_of_le h, skipQ_nil]; rfl
theorem nextQ_blank {l : List UInt8} {a : Nat} (h : a < l.length) (hb : blQ l[a] = true) : nextQ l a = nextQ l (a + 1) := by
  unfold nextQ; rw [List.drop_eq_getElem_cons h, skipQ_blank hb]; omega
theorem nextQ_hash {l : List UInt8} {a : Nat} (h : a < l.length) (hb : l[a] = 35) : nextQ l a = nextQ l (a + spn (· != 10) (l.drop a)) := by
  unfold nextQ
  have h1 : spn (· != 10) (l.drop a) = spn (· != 10) (l.drop (a + 1)) + 1 := by
    rw [List.drop_eq_getElem_cons h, hb]; exact spn_yes (by decide)
  have h2 : skipQ (l.drop a) = skipQ ((l.drop (a + 1)).drop (spn (· != 10) (l.drop (a + 1)))) + spn (· != 10) (l.drop (a + 1)) + 1 := by
    conv => lhs; rw [List.drop_eq_getElem_cons h, hb]
    exact skipQ_hash
  rw [h1, h2, List.drop_drop, show a + (spn (· != 10) (l.drop (a + 1)) + 1) = a + 1 + spn (· != 10) (l.drop (a + 1)) by omega]
  omega
theorem nextQ_stop {l : List UInt8} {a : Nat} (h : a < l.length) (hb : blQ l[a] = false) (h2 : l[a] ≠ 35) : nextQ l a = a := by
  unfold nextQ; rw [List.drop_eq_getElem_cons h, skipQ_stop hb h2]; rfl
/-- no symbol begins as a name does -/
theorem syms_none {c : UInt8} {r : List UInt8} (h : fiQ c = true ∨ c = 92) : firstS symsQ (c :: r) = none := by
  have hh : ∀ u ∈ symsQ, Lib.hasPrefix (c :: r) u = false := by
    intro u hu
    have h1 : ∀ u ∈ symsQ, ∃ d t, u = d :: t ∧ fiQ d = false ∧ d ≠ 92 := by
      intro u hu
      have : ∀ u ∈ symsQ, (u.length ≠ 0) ∧ fiQ (u.headD 0) = false ∧ u.headD 0 ≠ 92 := by decide
      obtain ⟨a1, a2, a3⟩ := this u hu
      cases u with
      | nil => exact absurd rfl a1
      | cons d t => exact ⟨d, t, rfl, a2, a3⟩
    obtain ⟨d, t, rfl, h2, h3⟩ := h1 u hu
    have hne : d ≠ c := by
      intro e
      subst e
      rcases h with h | h
      · rw [h2] at h; cases h
      · exact h3 h
    have hb : (d == c) = false := by simpa using hne
    show ((d :: t).isPrefixOf (c :: r)) = false
    rw [List.isPrefixOf, hb]; rfl
  have : ∀ us : List (List UInt8), (∀ u ∈ us, Lib.hasPrefix (c :: r) u = false) → firstS us (c :: r) = none := by
    intro us
    induction us with
    | nil => intro _; rfl
    | cons u us ih =>
      intro hu
      unfold firstS
      rw [hu u List.mem_cons_self, if_neg (by decide)]
      exact ih (fun v hv => hu v (List.mem_cons_of_mem _ hv))
  exact this symsQ hh
end Go.Proofs.YtjlpekjfmgcbdaaGreatDoor

/- Contracts of the reference's blank, letter, inside. -/
set_option linter.unusedVariables false
set_option linter.unusedSimpArgs false
namespace Go.Proofs.YtjlpekjfmgcbdaaGreatDoor
open Go.RowKit Go.Shelf
theorem refBlankQ_any (c : UInt8) (w : World) : Calls Tryz.prog 29 #[.int .u8 (c.toNat : Int)] w fun e w' => e = .returned (.bool (blQ c)) ∧ w' = w := by
  by_cases h0 : c = 9
  · subst h0
    go_enter Tryz.func29, Tryz.ntmps29
    go_wp2
    go_ret
    exact ⟨rfl, rfl⟩
  have e0 : ((c.toNat : Int) == 9) = false := toNat_neQ (d := 9) h0
  by_cases h1 : c = 10
  · subst h1
    go_enter Tryz.func29, Tryz.ntmps29
    go_wp2
    go_ret
    exact ⟨rfl, rfl⟩
  have e1 : ((c.toNat : Int) == 10) = false := toNat_neQ (d := 10) h1
  by_cases h2 : c = 13
  · subst h2
    go_enter Tryz.func29, Tryz.ntmps29
    go_wp2
    go_ret
    exact ⟨rfl, rfl⟩
  have e2 : ((c.toNat : Int) == 13) = false := toNat_neQ (d := 13) h2
  by_cases h3 : c = 32
  · subst h3
    go_enter Tryz.func29, Tryz.ntmps29
    go_wp2
    go_ret
    exact ⟨rfl, rfl⟩
  have e3 : ((c.toNat : Int) == 32) = false := toNat_neQ (d := 32) h3
  have HV := hide (show blQ c = false by unfold blQ; simp [h0, h1, h2, h3])
  clear h0 h1 h2 h3
  go_enter Tryz.func29, Tryz.ntmps29
  go_wp2
  go_ret
  exact ⟨retQ_b HV.out, rfl⟩
theorem refLetterQ_any (c : UInt8) (w : World) : Calls Tryz.prog 107 #[.int .u8 (c.toNat : Int)] w fun e w' => e = .returned (.bool (fiQ c)) ∧ w' = w := by
  have hv : fiQ c = (decide (65 ≤ c.toNat ∧ c.toNat ≤ 90 ∨ 97 ≤ c.toNat ∧ c.toNat ≤ 122) || decide (c.toNat = 95)) :=
    all_bytes (p := fun c => fiQ c = (decide (65 ≤ c.toNat ∧ c.toNat ≤ 90 ∨ 97 ≤ c.toNat ∧ c.toNat ≤ 122) || decide (c.toNat = 95))) (by decide +kernel) c
  obtain ⟨n, hn⟩ : ∃ n, c.toNat = n := ⟨_, rfl⟩
  rw [hn] at hv
  have hq : ((n : Int) == 95) = decide (n = 95) := by
    by_cases h : n = 95
    · subst h; rfl
    · rw [decide_eq_false h]; exact beq_eq_false_iff_ne.2 (by omega)
  rw [hn]
  by_cases h1 : 97 ≤ n
  · by_cases h2 : n ≤ 122
    · have q0 : (97 : Int) ≤ (n : Int) := by omega
      have q1 : (n : Int) ≤ 122 := by omega
      have HV := hide (show fiQ c = true by rw [hv, decide_eq_true (show 65 ≤ n ∧ n ≤ 90 ∨ 97 ≤ n ∧ n ≤ 122 by omega), Bool.true_or])
      clear hv hn h1 h2
      go_enter Tryz.func107, Tryz.ntmps107
      go_wp2
      go_ret
      exact ⟨retQ_b HV.out, rfl⟩
    · have q0 : (97 : Int) ≤ (n : Int) := by omega
      have q1 : ¬ (n : Int) ≤ 122 := by omega
      have q2 : (65 : Int) ≤ (n : Int) := by omega
      have q3 : ¬ (n : Int) ≤ 90 := by omega
      have HV := hide (show fiQ c = decide (n = 95) by rw [hv, decide_eq_false (show ¬ (65 ≤ n ∧ n ≤ 90 ∨ 97 ≤ n ∧ n ≤ 122) by omega), Bool.false_or])
      clear hv hn h1 h2
      go_enter Tryz.func107, Tryz.ntmps107
      go_wp2
      go_ret
      exact ⟨retQ_b HV.out, rfl⟩
  · by_cases h2 : 65 ≤ n
    · by_cases h3 : n ≤ 90
      · have q0 : ¬ (97 : Int) ≤ (n : Int) := by omega
        have q1 : (65 : Int) ≤ (n : Int) := by omega
        have q2 : (n : Int) ≤ 90 := by omega
        have HV := hide (show fiQ c = true by rw [hv, decide_eq_true (show 65 ≤ n ∧ n ≤ 90 ∨ 97 ≤ n ∧ n ≤ 122 by omega), Bool.true_or])
        clear hv hn h1 h2 h3
        go_enter Tryz.func107, Tryz.ntmps107
        go_wp2
        go_ret
        exact ⟨retQ_b HV.out, rfl⟩
      · have q0 : ¬ (97 : Int) ≤ (n : Int) := by omega
        have q1 : (65 : Int) ≤ (n : Int) := by omega
        have q2 : ¬ (n : Int) ≤ 90 := by omega
        have HV := hide (show fiQ c = decide (n = 95) by rw [hv, decide_eq_false (show ¬ (65 ≤ n ∧ n ≤ 90 ∨ 97 ≤ n ∧ n ≤ 122) by omega), Bool.false_or])
        clear hv hn h1 h2 h3
        go_enter Tryz.func107, Tryz.ntmps107
        go_wp2
        go_ret
        exact ⟨retQ_b HV.out, rfl⟩
    · have q0 : ¬ (97 : Int) ≤ (n : Int) := by omega
      have q1 : ¬ (65 : Int) ≤ (n : Int) := by omega
      have HV := hide (show fiQ c = decide (n = 95) by rw [hv, decide_eq_false (show ¬ (65 ≤ n ∧ n ≤ 90 ∨ 97 ≤ n ∧ n ≤ 122) by omega), Bool.false_or])
      clear hv hn h1 h2
      go_enter Tryz.func107, Tryz.ntmps107
      go_wp2
      go_ret
      exact ⟨retQ_b HV.out, rfl⟩
theorem refInsideQ_any (c : UInt8) (w : World) : Calls Tryz.prog 87 #[.int .u8 (c.toNat : Int)] w fun e w' => e = .returned (.bool (inQ c)) ∧ w' = w := by
  have LT := hide (refLetterQ_any c)
  have DG := hide (refDigitQ_any c)
  cases hl : fiQ c with
  | true =>
    rw [hl] at LT
    have HV := hide (show inQ c = true by unfold inQ; rw [hl]; rfl)
    clear hl
    go_enter Tryz.func87, Tryz.ntmps87
    go_wp2_with fail
    refine (LT.out _).mono ?_
    rintro e w1 ⟨rfl, rfl⟩
    go_wp2
    go_ret
    exact ⟨retQ_b HV.out, rfl⟩
  | false =>
    rw [hl] at LT
    cases hd : dgQ c with
    | true =>
      rw [hd] at DG
      have HV := hide (show inQ c = true by unfold inQ; rw [hl, hd]; rfl)
      clear hl hd
      go_enter Tryz.func87, Tryz.ntmps87
      go_wp2_with fail
      refine (LT.out _).mono ?_
      rintro e w1 ⟨rfl, rfl⟩
      go_wp2_with fail
      refine (DG.out _).mono ?_
      rintro e w1 ⟨rfl, rfl⟩
      go_wp2
      go_ret
      exact ⟨retQ_b HV.out, rfl⟩
    | false =>
      rw [hd] at DG
      have HV := hide (show inQ c = (c == 36) by unfold inQ; rw [hl, hd]; rfl)
      have hq : ((c.toNat : Int) == 36) = (c == 36) := by
        by_cases h : c = 36
        · subst h; rfl
        · exact (toNat_neQ (d := 36) h).trans (beq_eq_false_iff_ne.2 h).symm
      clear hl hd
      go_enter Tryz.func87, Tryz.ntmps87
      go_wp2_with fail
      refine (LT.out _).mono ?_
      rintro e w1 ⟨rfl, rfl⟩
      go_wp2_with fail
      refine (DG.out _).mono ?_
      rintro e w1 ⟨rfl, rfl⟩
      go_wp2
      go_ret
      exact ⟨retQ_b HV.out, rfl⟩
end Go.Proofs.YtjlpekjfmgcbdaaGreatDoor

/- Contract of the reference's part. -/
set_option linter.unusedVariables false
set_option linter.unusedSimpArgs false
namespace Go.Proofs.YtjlpekjfmgcbdaaGreatDoor
open Go.RowKit Go.Shelf
theorem prtP_over {l : List UInt8} {a : Nat} (h : l.length ≤ a) : prtP l a = (0, []) := by
  unfold prtP; rw [List.drop_eq_nil_of_le h]; rfl
theorem prtP_no {l : List UInt8} {a : Nat} (h : a < l.length) (h1 : l[a] ≠ 92) (h2 : fiQ l[a] = false) : prtP l a = (0, []) := by
  unfold prtP; rw [List.drop_eq_getElem_cons h, prtR, if_neg h1, h2]; rfl
theorem prtP_in {l : List UInt8} {a K : Nat} (h : a < l.length) (h1 : l[a] ≠ 92) (h2 : fiQ l[a] = true) (hK : a + spn inQ (l.drop a) = K) : prtP l a = (K, (l.drop a).take (K - a)) := by
  unfold prtP
  rw [show K - a = spn inQ (l.drop a) by omega, ← hK, List.drop_eq_getElem_cons h, prtR, if_neg h1, if_pos h2]
theorem prtP_e0 {l : List UInt8} {a K : Nat} (h : a < l.length) (h1 : l[a] = 92) (hK : a + 1 + spn prQ (l.drop (a + 1)) = K) (h2 : K = a + 1) : prtP l a = (0, []) := by
  unfold prtP; rw [List.drop_eq_getElem_cons h, prtR, if_pos h1, if_pos (by omega)]
theorem prtP_e1 {l : List UInt8} {a K : Nat} (h : a < l.length) (h1 : l[a] = 92) (hK : a + 1 + spn prQ (l.drop (a + 1)) = K) (h2 : K ≠ a + 1) (h3 : l.length ≤ K) : prtP l a = (l.length, (l.drop a).take (K - a)) := by
  have hle := spn_le prQ (l.drop (a + 1))
  rw [List.length_drop] at hle
  unfold prtP
  rw [List.take_of_length_le (by rw [List.length_drop]; omega), List.drop_eq_getElem_cons h, prtR, if_pos h1, if_neg (by omega), List.drop_drop, List.drop_eq_nil_of_le (by omega : l.length ≤ a + 1 + spn prQ (l.drop (a + 1)))]
  simp only [List.length_drop]
  rw [show a + (l.length - (a + 1) + 1) = l.length by omega]
theorem prtP_e2 {l : List UInt8} {a K : Nat} (h : a < l.length) (h1 : l[a] = 92) (hK : a + 1 + spn prQ (l.drop (a + 1)) = K) (h2 : K ≠ a + 1) (h3 : K < l.length) :
    prtP l a = if blQ l[K] = true then (K + 1, (l.drop a).take (K - a)) else (0, []) := by
  unfold prtP
  rw [List.drop_eq_getElem_cons h, prtR, if_pos h1, if_neg (by omega), List.drop_drop, hK, List.drop_eq_getElem_cons h3]
  simp only
  by_cases hb : blQ l[K] = true
  · rw [if_pos hb, if_pos hb]
    simp only
    rw [show a + (spn prQ (l.drop (a + 1)) + 2) = K + 1 by omega, show K - a = spn prQ (l.drop (a + 1)) + 1 by omega, List.take_succ_cons]
  · rw [if_neg hb, if_neg hb]
theorem retQ_pt {p : Nat × List UInt8} {k : Nat} {t : List UInt8} (h : p = (k, t)) : Ending.returned (.tuple #[.int .i64 (k : Int), .string (bsQ t)]) = .returned (.tuple #[.int .i64 (p.1 : Int), .string (bsQ p.2)]) := by rw [h]
set_option maxRecDepth 20000 in
set_option maxHeartbeats 4000000 in
theorem refPart_name (l : List UInt8) (a : Nat) (w : World) (hl : l.length ≤ 100000) (h : a < l.length) (h1 : l[a] ≠ 92) :
    Calls Tryz.prog 91 #[.string (bsQ l), .int .i64 (a : Int)] w fun e w' => e = .returned (.tuple #[.int .i64 ((prtP l a).1 : Int), .string (bsQ (prtP l a).2)]) ∧ Below w.heap.size w w' := by
  have hz := bsQ_size l
  have hg : ∀ (i : Nat) (h : i < (bsQ l).size) (h2 : i < l.length), (bsQ l)[i]'h = l[i] := fun i h h2 => bsQ_get l i h
  obtain ⟨c, hc⟩ : ∃ c, l[a]'h = c := ⟨_, rfl⟩
  have LT := hide (refLetterQ_any c)
  have IN := hide refInsideQ_any
  have has : a < (bsQ l).size := by omega
  have hsc : (bsQ l)[a]'has = c := by rw [hg a has h, hc]
  have q0 : ¬ ((bsQ l).size : Int) ≤ (a : Int) := by omega
  have q1 : (a : Int) < ((bsQ l).size : Int) := by omega
  have q2 : (0 : Int) ≤ (a : Int) := by omega
  rw [hc] at h1
  have e1 : ((c.toNat : Int) == 92) = false := toNat_neQ (d := 92) h1
  cases hf : fiQ c with
  | false =>
    rw [hf] at LT
    have HV := hide (prtP_no h (by rw [hc]; exact h1) (by rw [hc]; exact hf))
    generalize prtP l a = R at *
    clear hg hz hc
    generalize bsQ l = s at *
    clear h1 hf h
    go_enter Tryz.func91, Tryz.ntmps91
    go_wp2_with fail
    refine (LT.out _).mono ?_
    rintro e w1 ⟨rfl, rfl⟩
    go_wp2
    go_ret2
    exact ⟨retQ_pt HV.out, Below.refl _ _⟩
  | true =>
    rw [hf] at LT
    obtain ⟨K, hK⟩ : ∃ K, a + spn inQ (l.drop a) = K := ⟨_, rfl⟩
    have hKl : a ≤ K ∧ K ≤ l.length := by have := spn_le inQ (l.drop a); rw [List.length_drop] at this; omega
    have HV := hide (prtP_in h (by rw [hc]; exact h1) (by rw [hc]; exact hf) hK)
    have HK := hide hK
    have hx : (bsQ l).extract a K = bsQ ((l.drop a).take (K - a)) := bsQ_mid l a K
    generalize prtP l a = R at *
    generalize (l.drop a).take (K - a) = t at *
    have Hx := hide hx
    have Hz := hide hz
    have Hg := hide (fun (i : Nat) (h : i < (bsQ l).size) (h2 : i < l.length) => hg i h h2)
    clear hg hz hc hK hx
    generalize bsQ l = s at *
    clear h1 hf h
    go_enter Tryz.func91, Tryz.ntmps91
    go_wp2_with fail
    refine (LT.out _).mono ?_
    rintro e w1 ⟨rfl, rfl⟩
    go_wp2_with fail
    go_loop [7] (fun v => ∃ i : Nat, v = .int .i64 (i : Int) ∧ i + spn inQ (l.drop i) = K ∧ a ≤ i) (fun v => l.length - (intOf v).toNat)
    case atStart => exact ⟨a, rfl, HK.out, Nat.le_refl _⟩
    case round =>
      obtain ⟨i, rfl, hRi, hai⟩ := hrel
      by_cases hlt : i < l.length
      · have hi' : (i : Int) < (s.size : Int) := by have := Hz.out; omega
        have hi0 : (0 : Int) ≤ (i : Int) := by omega
        have his : i < s.size := by omega
        have hwi : IntKind.i64.wrap ((i : Int) + 1) = (i : Int) + 1 := IntWalk.i64_in _ (by omega)
        obtain ⟨c2, hc⟩ : ∃ c, l[i]'hlt = c := ⟨_, rfl⟩
        have hsc : s[i]'his = c2 := by rw [Hg.out i his hlt, hc]
        have D := hide (IN.out c2)
        cases hd : inQ c2 with
        | true =>
          rw [hd] at D
          have HN := hide (show (i + 1) + spn inQ (l.drop (i + 1)) = K by rw [← hRi, spn_step hlt (by rw [hc]; exact hd)])
          clear hRi hc hd
          go_wp2_with fail
          refine (D.out _).mono ?_
          rintro e wz ⟨rfl, rfl⟩
          go_wp2
          go_round
          case rel => exact ⟨i + 1, by go_num, HN.out, by omega⟩
          case measure => simp [intOf]; omega
        | false =>
          rw [hd] at D
          have hiK : i = K := by rw [← hRi, spn_stop hlt (by rw [hc]; exact hd)]
          clear hRi hc hd
          subst hiK
          have x1 := Hx.out
          have k1 : (a : Int) ≤ (i : Int) := by omega
          have k2 : (i : Int) ≤ (s.size : Int) := by omega
          go_wp2_with fail
          refine (D.out _).mono ?_
          rintro e wz ⟨rfl, rfl⟩
          go_wp2_with fail
          go_quiet (fail)
          go_wp2
          go_ret2
          exact ⟨retQ_pt HV.out, Below_drewN (Below.refl _ _) _⟩
      · have hi' : ¬ (i : Int) < (s.size : Int) := by have := Hz.out; omega
        have hiK : i = K := by rw [← hRi, spn_end (by omega)]
        clear hRi
        subst hiK
        have x1 := Hx.out
        have k1 : (a : Int) ≤ (i : Int) := by omega
        have k2 : (i : Int) ≤ (s.size : Int) := by have := Hz.out; omega
        go_wp2_with fail
        go_quiet (fail)
        go_wp2
        go_ret2
        exact ⟨retQ_pt HV.out, Below_drewN (Below.refl _ _) _⟩
theorem prQ_of : ∀ c : UInt8, prQ c = decide (33 ≤ c.toNat ∧ c.toNat ≤ 126) := fun _ => rfl
set_option maxRecDepth 20000 in
set_option maxHeartbeats 8000000 in
theorem refPart_esc (l : List UInt8) (a : Nat) (w : World) (hl : l.length ≤ 100000) (h : a < l.length) (h1 : l[a] = 92) :
    Calls Tryz.prog 91 #[.string (bsQ l), .int .i64 (a : Int)] w fun e w' => e = .returned (.tuple #[.int .i64 ((prtP l a).1 : Int), .string (bsQ (prtP l a).2)]) ∧ Below w.heap.size w w' := by
  have hz := bsQ_size l
  have hg : ∀ (i : Nat) (h : i < (bsQ l).size) (h2 : i < l.length), (bsQ l)[i]'h = l[i] := fun i h h2 => bsQ_get l i h
  have BL := hide refBlankQ_any
  have has : a < (bsQ l).size := by omega
  have hsc : (bsQ l)[a]'has = 92 := by rw [hg a has h, h1]
  have q0 : ¬ ((bsQ l).size : Int) ≤ (a : Int) := by omega
  have q1 : (a : Int) < ((bsQ l).size : Int) := by omega
  have q2 : (0 : Int) ≤ (a : Int) := by omega
  have wa : IntKind.i64.wrap ((a : Int) + 1) = (a : Int) + 1 := IntWalk.i64_in _ (by omega)
  obtain ⟨K, hK⟩ : ∃ K, a + 1 + spn prQ (l.drop (a + 1)) = K := ⟨_, rfl⟩
  have hKl : a + 1 ≤ K ∧ K ≤ l.length := by have := spn_le prQ (l.drop (a + 1)); rw [List.length_drop] at this; omega
  have V0 := hide (fun h2 => prtP_e0 h h1 hK h2)
  have V1 := hide (fun h2 h3 => prtP_e1 h h1 hK h2 h3)
  have V2 := hide (fun h2 h3 => prtP_e2 h h1 hK h2 h3)
  have HK := hide hK
  have hx : (bsQ l).extract a K = bsQ ((l.drop a).take (K - a)) := bsQ_mid l a K
  generalize prtP l a = R at *
  generalize (l.drop a).take (K - a) = t at *
  have Hx := hide hx
  have Hz := hide hz
  have Hg := hide (fun (i : Nat) (h : i < (bsQ l).size) (h2 : i < l.length) => hg i h h2)
  clear hg hz hK hx
  generalize bsQ l = s at *
  clear h1
  go_enter Tryz.func91, Tryz.ntmps91
  go_wp2_with fail
  go_loop [6] (fun v => ∃ i : Nat, v = .int .i64 (i : Int) ∧ i + spn prQ (l.drop i) = K ∧ a + 1 ≤ i ∧ i ≤ l.length) (fun v => l.length - (intOf v).toNat)
  case atStart => exact ⟨a + 1, by go_num, HK.out, Nat.le_refl _, h⟩
  case round =>
    obtain ⟨i, rfl, hRi, hai, hil⟩ := hrel
    by_cases hlt : i < l.length
    · have hi' : (i : Int) < (s.size : Int) := by have := Hz.out; omega
      have hi0 : (0 : Int) ≤ (i : Int) := by omega
      have his : i < s.size := by omega
      have hwi : IntKind.i64.wrap ((i : Int) + 1) = (i : Int) + 1 := IntWalk.i64_in _ (by omega)
      obtain ⟨c2, hc⟩ : ∃ c, l[i]'hlt = c := ⟨_, rfl⟩
      have hsc2 : s[i]'his = c2 := by rw [Hg.out i his hlt, hc]
      cases hd : prQ c2 with
      | true =>
        have HN := hide (show (i + 1) + spn prQ (l.drop (i + 1)) = K by rw [← hRi, spn_step hlt (by rw [hc]; exact hd)])
        have hpr := of_decide_eq_true ((prQ_of c2).symm.trans hd)
        have p1 : (33 : Int) ≤ (c2.toNat : Int) := by omega
        have p2 : (c2.toNat : Int) ≤ 126 := by omega
        clear hRi hc hd hpr
        go_wp2
        go_round
        case rel => exact ⟨i + 1, by go_num, HN.out, by omega, by omega⟩
        case measure => simp [intOf]; omega
      | false =>
        have hiK : i = K := by rw [← hRi, spn_stop hlt (by rw [hc]; exact hd)]
        have hpr := of_decide_eq_false ((prQ_of c2).symm.trans hd)
        clear hRi hd
        subst hiK
        have x1 := Hx.out
        have k1 : (a : Int) ≤ (i : Int) := by omega
        have k2 : (i : Int) ≤ (s.size : Int) := by omega
        have hmn : min ((i : Int) + 1) (s.size : Int) = (i : Int) + 1 := by omega
        by_cases h0 : i = a + 1
        · have HV := hide (V0.out h0)
          have e5 : ((i : Int) == (a : Int) + 1) = true := by rw [beq_iff_eq]; omega
          clear V0 V1 V2 hc h0
          by_cases p0 : 33 ≤ c2.toNat
          · have p1 : (33 : Int) ≤ (c2.toNat : Int) := by omega
            have p2 : ¬ (c2.toNat : Int) ≤ 126 := by omega
            clear hpr p0
            go_wp2
            go_ret2
            exact ⟨retQ_pt HV.out, Below.refl _ _⟩
          · have p1 : ¬ (33 : Int) ≤ (c2.toNat : Int) := by omega
            clear hpr p0
            go_wp2
            go_ret2
            exact ⟨retQ_pt HV.out, Below.refl _ _⟩
        · have e5 : ((i : Int) == (a : Int) + 1) = false := beq_eq_false_iff_ne.2 (by omega)
          have hv := V2.out h0 hlt
          rw [hc] at hv
          have D := hide (BL.out c2)
          clear V0 V1 V2 hc h0
          cases hb : blQ c2 with
          | true =>
            rw [hb] at D hv
            rw [if_pos rfl] at hv
            have HV := hide hv
            have HVI := hide (show Ending.returned (.tuple #[.int .i64 ((i : Int) + 1), .string (bsQ t)]) = .returned (.tuple #[.int .i64 (R.1 : Int), .string (bsQ R.2)]) from retQ_pt hv)
            clear hv hb
            by_cases p0 : 33 ≤ c2.toNat
            · have p1 : (33 : Int) ≤ (c2.toNat : Int) := by omega
              have p2 : ¬ (c2.toNat : Int) ≤ 126 := by omega
              clear hpr p0
              go_wp2_with fail
              refine (D.out _).mono ?_
              rintro e wz ⟨rfl, rfl⟩
              go_wp2_with fail
              go_region
              all_goals
                go_wp2
                go_ret2
                exact ⟨HVI.out, (Below.refl _ _).drew⟩
            · have p1 : ¬ (33 : Int) ≤ (c2.toNat : Int) := by omega
              clear hpr p0
              go_wp2_with fail
              refine (D.out _).mono ?_
              rintro e wz ⟨rfl, rfl⟩
              go_wp2_with fail
              go_region
              all_goals
                go_wp2
                go_ret2
                exact ⟨HVI.out, (Below.refl _ _).drew⟩
          | false =>
            rw [hb] at D hv
            rw [if_neg (by decide)] at hv
            have HV := hide hv
            clear hv hb
            by_cases p0 : 33 ≤ c2.toNat
            · have p1 : (33 : Int) ≤ (c2.toNat : Int) := by omega
              have p2 : ¬ (c2.toNat : Int) ≤ 126 := by omega
              clear hpr p0
              go_wp2_with fail
              refine (D.out _).mono ?_
              rintro e wz ⟨rfl, rfl⟩
              go_wp2
              go_ret2
              exact ⟨retQ_pt HV.out, Below.refl _ _⟩
            · have p1 : ¬ (33 : Int) ≤ (c2.toNat : Int) := by omega
              clear hpr p0
              go_wp2_with fail
              refine (D.out _).mono ?_
              rintro e wz ⟨rfl, rfl⟩
              go_wp2
              go_ret2
              exact ⟨retQ_pt HV.out, Below.refl _ _⟩
    · have hi' : ¬ (i : Int) < (s.size : Int) := by have := Hz.out; omega
      have hiK : i = K := by rw [← hRi, spn_end (by omega)]
      clear hRi
      subst hiK
      have x1 := Hx.out
      have k1 : (a : Int) ≤ (i : Int) := by omega
      have k2 : (i : Int) ≤ (s.size : Int) := by have := Hz.out; omega
      have hii : i = l.length := by omega
      have hmn : min ((i : Int) + 1) (s.size : Int) = (s.size : Int) := by have := Hz.out; omega
      by_cases h0 : i = a + 1
      · have HV := hide (V0.out h0)
        have e5 : ((i : Int) == (a : Int) + 1) = true := by rw [beq_iff_eq]; omega
        clear V0 V1 V2 h0
        go_wp2
        go_ret2
        exact ⟨retQ_pt HV.out, Below.refl _ _⟩
      · have e5 : ((i : Int) == (a : Int) + 1) = false := beq_eq_false_iff_ne.2 (by omega)
        have hv := V1.out h0 (by omega)
        have HVI := hide (show Ending.returned (.tuple #[.int .i64 (s.size : Int), .string (bsQ t)]) = .returned (.tuple #[.int .i64 (R.1 : Int), .string (bsQ R.2)]) by rw [Hz.out]; exact retQ_pt hv)
        clear V0 V1 V2 h0 hv hii
        go_wp2_with fail
        go_region
        all_goals
          go_wp2
          go_ret2
          exact ⟨HVI.out, (Below.refl _ _).drew⟩
theorem refPart_any (l : List UInt8) (a : Nat) (w : World) (hl : l.length ≤ 100000) (ha : a ≤ 100000) :
    Calls Tryz.prog 91 #[.string (bsQ l), .int .i64 (a : Int)] w fun e w' => e = .returned (.tuple #[.int .i64 ((prtP l a).1 : Int), .string (bsQ (prtP l a).2)]) ∧ Below w.heap.size w w' := by
  by_cases h : a < l.length
  · by_cases h1 : l[a] = 92
    · exact refPart_esc l a w hl h h1
    · exact refPart_name l a w hl h h1
  · have hz := bsQ_size l
    have q0 : ((bsQ l).size : Int) ≤ (a : Int) := by omega
    have HV := hide (prtP_over (l := l) (a := a) (by omega))
    generalize prtP l a = R at *
    generalize bsQ l = s at *
    clear hz h
    go_enter Tryz.func91, Tryz.ntmps91
    go_wp2
    go_ret2
    exact ⟨retQ_pt HV.out, Below.refl _ _⟩
end Go.Proofs.YtjlpekjfmgcbdaaGreatDoor

/- Contract of the reference's name. -/
set_option linter.unusedVariables false
set_option linter.unusedSimpArgs false
namespace Go.Proofs.YtjlpekjfmgcbdaaGreatDoor
open Go.RowKit Go.Shelf
theorem prtR_txt : ∀ {m T : List UInt8} {n : Nat}, prtR m = some (T, n) → T.length ≤ n
  | [], _, _, h => by cases h
  | c :: r, T, n, h => by
    rw [prtR] at h
    by_cases hc : c = 92
    · rw [if_pos hc] at h
      by_cases h0 : spn prQ r = 0
      · rw [if_pos h0] at h; cases h
      · rw [if_neg h0] at h
        split at h
        · cases h; exact Nat.le_refl _
        · split at h
          · cases h
            rw [List.length_cons, List.length_take]; omega
          · cases h
    · rw [if_neg hc] at h
      by_cases hf : fiQ c = true
      · rw [if_pos hf] at h
        cases h
        rw [List.length_take]; exact Nat.min_le_left _ _
      · rw [if_neg hf] at h; cases h
theorem blQ_cases {c : UInt8} (h : blQ c = true) : c = 32 ∨ c = 9 ∨ c = 10 ∨ c = 13 := by
  unfold blQ at h
  simp only [Bool.or_eq_true, beq_iff_eq] at h
  rcases h with ((h | h) | h) | h
  · exact .inl h
  · exact .inr (.inl h)
  · exact .inr (.inr (.inl h))
  · exact .inr (.inr (.inr h))
theorem blQ_not {c : UInt8} (h : blQ c = false) : c ≠ 32 ∧ c ≠ 9 ∧ c ≠ 10 ∧ c ≠ 13 := by
  refine ⟨?_, ?_, ?_, ?_⟩ <;> (rintro rfl; exact absurd h (by decide))
/-- what the loop of name keeps -/
def NmR (l : List UInt8) (k : Nat) (T : List UInt8) (R : Nat × List UInt8) : Prop := (k = 0 ∧ T = [] ∧ R = (0, [])) ∨ (0 < k ∧ nmX l k T = R)
set_option maxRecDepth 20000 in
set_option maxHeartbeats 8000000 in
theorem refName_any (l : List UInt8) (a : Nat) (w : World) (hl : l.length ≤ 50000) (ha : a ≤ 50000) :
    Calls Tryz.prog 59 #[.string (bsQ l), .int .i64 (a : Int)] w fun e w' => e = .returned (.tuple #[.int .i64 ((nmR l a).1 : Int), .string (bsQ (nmR l a).2)]) ∧ Below w.heap.size w w' := by
  have hz := bsQ_size l
  have hg : ∀ (i : Nat) (h : i < (bsQ l).size) (h2 : i < l.length), (bsQ l)[i]'h = l[i] := fun i h h2 => bsQ_get l i h
  have PT := hide (fun (k : Nat) (W : World) (h : k ≤ 100000) => refPart_any l k W (by omega) h)
  obtain ⟨R, hR⟩ : ∃ R, nmR l a = R := ⟨_, rfl⟩
  have h0 : ∃ K T, prtP l a = (K, T) ∧ K ≤ l.length ∧ T.length ≤ 2 * K ∧ NmR l K T R := by
    cases hp : prtR (l.drop a) with
    | none => exact ⟨0, [], by unfold prtP; rw [hp], Nat.zero_le _, Nat.zero_le _, .inl ⟨rfl, rfl, by rw [← hR, nmR_no hp]⟩⟩
    | some p =>
      obtain ⟨T, n⟩ := p
      have h1 := prtR_len hp
      have h2 := prtR_txt hp
      rw [List.length_drop] at h1
      exact ⟨a + n, T, by unfold prtP; rw [hp], by omega, by omega, .inr ⟨by omega, by rw [← hR, nmR_part hp]⟩⟩
  obtain ⟨K0, T0, hp0, hk0, ht0, hn0⟩ := h0
  have P0 := hide (fun W : World => PT.out a W (by omega))
  rw [hp0] at P0
  have P0 := hide (fun W : World => show Calls Tryz.prog 91 #[.string (bsQ l), .int .i64 (a : Int)] W fun e w' => e = .returned (.tuple #[.int .i64 (K0 : Int), .string (bsQ T0)]) ∧ Below W.heap.size W w' from P0.out W)
  have PT := hide (fun (k : Nat) (W : World) (h : k + 1 ≤ 100000) => show Calls Tryz.prog 91 #[.string (bsQ l), .int .i64 ((k : Int) + 1)] W fun e w' => e = .returned (.tuple #[.int .i64 ((prtP l (k + 1)).1 : Int), .string (bsQ (prtP l (k + 1)).2)]) ∧ Below W.heap.size W w' from PT.out (k + 1) W h)
  rw [hR]
  have Hz := hide hz
  have Hg := hide (fun (i : Nat) (h : i < (bsQ l).size) (h2 : i < l.length) => hg i h h2)
  clear hg hz hR hp0
  generalize bsQ l = s at *
  obtain ⟨sT, hsT⟩ : ∃ x, bsQ T0 = x := ⟨_, rfl⟩
  rw [hsT] at P0
  have HsT := hide hsT
  have Hn0 := hide hn0
  clear hsT hn0
  go_enter Tryz.func59, Tryz.ntmps59
  go_wp2_with fail
  refine (P0.out _).mono ?_
  rintro e w1 ⟨rfl, hb⟩
  have Hb := hide hb
  clear hb
  go_wp2_with fail
  go_loopw [6, 7] (fun v6 v7 wr => ∃ (k : Nat) (T : List UInt8), v6 = .int .i64 (k : Int) ∧ v7 = .string (bsQ T) ∧ k ≤ l.length ∧ T.length ≤ 2 * k ∧ Hid (NmR l k T R) ∧ Below w.heap.size w wr) (fun v _ _ => l.length - (intOf v).toNat)
  case atStart => exact ⟨K0, T0, rfl, by rw [HsT.out], hk0, ht0, Hn0, Hb.out⟩
  case round =>
    obtain ⟨k, T, rfl, rfl, hkl, hTl, HN, hb⟩ := hrel
    have Hb1 := hide hb
    clear hb
    obtain ⟨sT2, hsT2⟩ : ∃ x, bsQ T = x := ⟨_, rfl⟩
    rw [hsT2]
    have HsT2 := hide hsT2
    clear hsT2
    rcases HN.out with ⟨rfl, rfl, hR⟩ | ⟨hk0, hX⟩
    · have HV := hide (show Ending.returned (.tuple #[.int .i64 0, .string sT2]) = .returned (.tuple #[.int .i64 (R.1 : Int), .string (bsQ R.2)]) by rw [hR, HsT2.out]; rfl)
      clear hR HN
      go_wp2
      go_ret2
      exact ⟨HV.out, Hb1.out⟩
    have q0 : (0 : Int) < (k : Int) := by omega
    have q00 : (0 : Int) ≤ (k : Int) := by omega
    by_cases hlt : k < l.length
    · have q1 : (k : Int) < (s.size : Int) := by have := Hz.out; omega
      have hks : k < s.size := by omega
      obtain ⟨c, hc⟩ : ∃ c, l[k]'hlt = c := ⟨_, rfl⟩
      have hsc : s[k]'hks = c := by rw [Hg.out k hks hlt, hc]
      have hhd : (l.drop k).head? = some c := by rw [List.drop_eq_getElem_cons hlt, hc]; rfl
      by_cases h46 : c = 46
      · subst h46
        obtain ⟨j, hj⟩ : ∃ j, j + 1 = k := ⟨k - 1, by omega⟩
        have hkI : (k : Int) - 1 = (j : Int) := by omega
        have wj : IntKind.i64.wrap (j : Int) = (j : Int) := IntWalk.i64_in _ (by omega)
        have wk : IntKind.i64.wrap ((k : Int) + 1) = (k : Int) + 1 := IntWalk.i64_in _ (by omega)
        have hj0 : (0 : Int) ≤ (j : Int) := by omega
        have hjs : j < s.size := by omega
        have hjl : j < l.length := by omega
        have q2 : (j : Int) < (s.size : Int) := by omega
        obtain ⟨d, hd⟩ : ∃ d, l[j]'hjl = d := ⟨_, rfl⟩
        have hsd : s[j]'hjs = d := by rw [Hg.out j hjs hjl, hd]
        have hgd : l.getD (k - 1) 0 = d := by rw [← hj, Nat.add_sub_cancel, getD_at hjl, hd]
        have P1 := hide (fun W : World => PT.out k W (by omega))
        cases hp : prtR (l.drop (k + 1)) with
        | none =>
          have hP : prtP l (k + 1) = (0, []) := by unfold prtP; rw [hp]
          rw [hP] at P1
          have P1 := hide (fun W : World => show Calls Tryz.prog 91 #[.string s, .int .i64 ((k : Int) + 1)] W fun e w' => e = .returned (.tuple #[.int .i64 0, .string ⟨#[]⟩]) ∧ Below W.heap.size W w' from P1.out W)
          have HV := hide (show Ending.returned (.tuple #[.int .i64 0, .string ⟨#[]⟩]) = .returned (.tuple #[.int .i64 (R.1 : Int), .string (bsQ R.2)]) by rw [← hX, nmX_fail hhd hp]; rfl)
          cases hbl : blQ d with
          | true =>
            have hcs := blQ_cases hbl
            clear hX HN hc hd hgd hhd hp hP hbl hj
            rcases hcs with rfl | rfl | rfl | rfl
            all_goals
              go_wp2_with fail
              refine (P1.out _).mono ?_
              rintro e w2 ⟨rfl, hb⟩
              have Hb2 := hide (Hb1.out.trans (hb.mono Hb1.out.size))
              clear hb
              go_wp2
              go_ret2
              exact ⟨HV.out, Hb2.out⟩
          | false =>
            obtain ⟨d1, d2, d3, d4⟩ := blQ_not hbl
            have e1 : ((d.toNat : Int) == 32) = false := toNat_neQ (d := 32) d1
            have e2 : ((d.toNat : Int) == 9) = false := toNat_neQ (d := 9) d2
            have e3 : ((d.toNat : Int) == 10) = false := toNat_neQ (d := 10) d3
            have e4 : ((d.toNat : Int) == 13) = false := toNat_neQ (d := 13) d4
            clear hX HN hc hd hgd hhd hp hP hbl hj d1 d2 d3 d4
            go_wp2_with fail
            refine (P1.out _).mono ?_
            rintro e w2 ⟨rfl, hb⟩
            have Hb2 := hide (Hb1.out.trans (hb.mono Hb1.out.size))
            clear hb
            go_wp2
            go_ret2
            exact ⟨HV.out, Hb2.out⟩
        | some p =>
          obtain ⟨T2, n⟩ := p
          have hP : prtP l (k + 1) = (k + 1 + n, T2) := by unfold prtP; rw [hp]
          rw [hP] at P1
          obtain ⟨K, hK⟩ : ∃ K, k + 1 + n = K := ⟨_, rfl⟩
          have hn1 := prtR_len hp
          have hn2 := prtR_txt hp
          rw [List.length_drop] at hn1
          have P1 := hide (fun W : World => show Calls Tryz.prog 91 #[.string s, .int .i64 ((k : Int) + 1)] W fun e w' => e = .returned (.tuple #[.int .i64 (K : Int), .string (bsQ T2)]) ∧ Below W.heap.size W w' by rw [← hK]; exact P1.out W)
          have e0 : ((K : Int) == 0) = false := beq_eq_false_iff_ne.2 (by omega)
          have hstep := nmX_step (T := T) hhd hp
          rw [hK, hX] at hstep
          have hKl : K ≤ l.length := by omega
          cases hbl : blQ d with
          | true =>
            have hcs := blQ_cases hbl
            have hB : blB l k T = T ++ [32] := by unfold blB; rw [hgd, hbl, if_pos rfl]
            rw [hB] at hstep
            have HN2 := hide (show NmR l K ((T ++ [32]) ++ 46 :: T2) R from .inr ⟨by omega, hstep.symm⟩)
            have HL2 := hide (show ((T ++ [32]) ++ 46 :: T2).length ≤ 2 * K by simp only [List.length_append, List.length_cons, List.length_nil]; omega)
            have y1 : ∀ W : World, (Op.stringOp .add sT2 ⟨#[32]⟩).run Tryz.prog W = .ok (.string (bsQ (T ++ [32]))) W := fun W => by rw [← HsT2.out]; exact catQ T [32] (by show T.length + 1 ≤ _; omega) W
            have y2 : ∀ W : World, (Op.stringOp .add (bsQ (T ++ [32])) ⟨#[46]⟩).run Tryz.prog W = .ok (.string (bsQ ((T ++ [32]) ++ [46]))) W := fun W => catQ (T ++ [32]) [46] (by rw [List.length_append]; show T.length + 1 + 1 ≤ _; omega) W
            have y3 : ∀ W : World, (Op.stringOp .add (bsQ ((T ++ [32]) ++ [46])) (bsQ T2)).run Tryz.prog W = .ok (.string (bsQ ((T ++ [32]) ++ 46 :: T2))) W := fun W => by
              have h := catQ (P := Tryz.prog) ((T ++ [32]) ++ [46]) T2 (by simp only [List.length_append, List.length_cons, List.length_nil]; omega) W
              rw [h]; congr 3; simp
            obtain ⟨t3, ht3⟩ : ∃ x, bsQ ((T ++ [32]) ++ 46 :: T2) = x := ⟨_, rfl⟩
            rw [ht3] at y3
            have HT3 := hide ht3
            generalize bsQ ((T ++ [32]) ++ [46]) = t2 at *
            generalize bsQ (T ++ [32]) = t1 at *
            generalize bsQ T2 = u2 at *
            clear hX HN hc hd hgd hhd hp hP hbl hj hstep hB ht3
            rcases hcs with rfl | rfl | rfl | rfl
            all_goals
              go_wp2_with fail
              refine (P1.out _).mono ?_
              rintro e w2 ⟨rfl, hb⟩
              have Hb2 := hide (Hb1.out.trans (hb.mono Hb1.out.size))
              clear hb
              go_wp2
              go_roundw
              case rel => exact ⟨K, (T ++ [32]) ++ 46 :: T2, rfl, by rw [HT3.out], hKl, HL2.out, HN2, Hb2.out⟩
              case measure => simp [intOf]; omega
          | false =>
            obtain ⟨d1, d2, d3, d4⟩ := blQ_not hbl
            have e1 : ((d.toNat : Int) == 32) = false := toNat_neQ (d := 32) d1
            have e2 : ((d.toNat : Int) == 9) = false := toNat_neQ (d := 9) d2
            have e3 : ((d.toNat : Int) == 10) = false := toNat_neQ (d := 10) d3
            have e4 : ((d.toNat : Int) == 13) = false := toNat_neQ (d := 13) d4
            have hB : blB l k T = T := by unfold blB; rw [hgd, hbl, if_neg (by decide)]
            rw [hB] at hstep
            have HN2 := hide (show NmR l K (T ++ 46 :: T2) R from .inr ⟨by omega, hstep.symm⟩)
            have HL2 := hide (show (T ++ 46 :: T2).length ≤ 2 * K by simp only [List.length_append, List.length_cons]; omega)
            have y2 : ∀ W : World, (Op.stringOp .add sT2 ⟨#[46]⟩).run Tryz.prog W = .ok (.string (bsQ (T ++ [46]))) W := fun W => by rw [← HsT2.out]; exact catQ T [46] (by show T.length + 1 ≤ _; omega) W
            have y3 : ∀ W : World, (Op.stringOp .add (bsQ (T ++ [46])) (bsQ T2)).run Tryz.prog W = .ok (.string (bsQ (T ++ 46 :: T2))) W := fun W => by
              have h := catQ (P := Tryz.prog) (T ++ [46]) T2 (by simp only [List.length_append, List.length_cons, List.length_nil]; omega) W
              rw [h]; congr 3; simp
            obtain ⟨t3, ht3⟩ : ∃ x, bsQ (T ++ 46 :: T2) = x := ⟨_, rfl⟩
            rw [ht3] at y3
            have HT3 := hide ht3
            generalize bsQ (T ++ [46]) = t2 at *
            generalize bsQ T2 = u2 at *
            clear hX HN hc hd hgd hhd hp hP hbl hj hstep hB ht3 d1 d2 d3 d4
            go_wp2_with fail
            refine (P1.out _).mono ?_
            rintro e w2 ⟨rfl, hb⟩
            have Hb2 := hide (Hb1.out.trans (hb.mono Hb1.out.size))
            clear hb
            go_wp2
            go_roundw
            case rel => exact ⟨K, T ++ 46 :: T2, rfl, by rw [HT3.out], hKl, HL2.out, HN2, Hb2.out⟩
            case measure => simp [intOf]; omega
      · have e1 : ((c.toNat : Int) == 46) = false := toNat_neQ (d := 46) h46
        have hX2 := nmX_stop (l := l) (k := k) (T := T) (by rw [hhd]; intro e; exact h46 (Option.some.inj e))
        have HV := hide (show Ending.returned (.tuple #[.int .i64 (k : Int), .string sT2]) = .returned (.tuple #[.int .i64 (R.1 : Int), .string (bsQ R.2)]) by rw [← hX, hX2, HsT2.out])
        clear hX hX2 HN hc hhd h46
        go_wp2
        go_ret2
        exact ⟨HV.out, Hb1.out⟩
    · have q1 : ¬ (k : Int) < (s.size : Int) := by have := Hz.out; omega
      have hX2 := nmX_stop (l := l) (k := k) (T := T) (by rw [List.drop_eq_nil_of_le (by omega)]; exact fun e => nomatch e)
      have HV := hide (show Ending.returned (.tuple #[.int .i64 (k : Int), .string sT2]) = .returned (.tuple #[.int .i64 (R.1 : Int), .string (bsQ R.2)]) by rw [← hX, hX2, HsT2.out])
      clear hX hX2 HN
      go_wp2
      go_ret2
      exact ⟨HV.out, Hb1.out⟩
end Go.Proofs.YtjlpekjfmgcbdaaGreatDoor
