/- Plain: paths and their texts, over lists of bytes. -/
import Derived.Test.YtcjehiecgdmidaaNmP
set_option linter.unusedVariables false
namespace Go.Proofs.Ytcjehiecgdmidaa
open Go

/-- what stands behind a name of a path that has a next one -/
def sepN (p : List UInt8) : List UInt8 := if escN p then [32, 46] else [46]
def pj : List (List UInt8) → List UInt8
  | [] => []
  | [p] => p
  | p :: q :: r => p ++ (sepN p ++ pj (q :: r))
def vpB (L : List (List UInt8)) : Bool := decide (1 ≤ L.length ∧ L.length ≤ 9) && L.all vN
/-- the text of a path -/
def pathL (L : List (List UInt8)) : List UInt8 := if vpB L then pj L else []
/-- the first name of a text, what is behind it, and whether there is more -/
def cutN (l : List UInt8) : List UInt8 × List UInt8 × Bool := Lib.cut l (if l.head? = some 92 then [32, 46] else [46])
/-- the names of a text, at most so many -/
def splitF : Nat → List UInt8 → Option (List (List UInt8))
  | 0, _ => none
  | k + 1, l => if vN (cutN l).1 then (if (cutN l).2.2 then (splitF k (cutN l).2.1).map ((cutN l).1 :: ·) else some [(cutN l).1]) else none
/-- the reference's view: all names, whatever they are -/
def splitA : Nat → List UInt8 → Option (List (List UInt8))
  | 0, _ => none
  | k + 1, l => if l.head? = some 92 then
      (if l.contains 32 then (if ((l.dropWhile (· != 32)).drop 1).head? = some 46 then (splitA k (((l.dropWhile (· != 32)).drop 1).drop 1)).map (l.takeWhile (· != 32) :: ·) else none) else some [l])
    else (if l.contains 46 then (splitA k ((l.dropWhile (· != 46)).drop 1)).map (l.takeWhile (· != 46) :: ·) else some [l])

theorem pj_cons (p : List UInt8) (L : List (List UInt8)) (h : L ≠ []) : pj (p :: L) = p ++ (sepN p ++ pj L) := by
  cases L with
  | nil => exact absurd rfl h
  | cons q r => rfl
theorem pj_snoc (L : List (List UInt8)) (p y : List UInt8) : pj (L ++ [p, y]) = pj (L ++ [p]) ++ (sepN p ++ y) := by
  induction L with
  | nil => rfl
  | cons a L ih =>
    rw [List.cons_append, pj_cons _ _ (by simp), ih, List.cons_append, pj_cons _ _ (by simp)]
    simp
theorem index_ge (sub : List UInt8) : ∀ l : List UInt8, -1 ≤ Lib.index l sub := by
  intro l
  induction l with
  | nil => show -1 ≤ (if sub.isEmpty then (0 : Int) else -1); split <;> decide
  | cons c l ih =>
    show -1 ≤ (if sub.isPrefixOf (c :: l) then (0 : Int) else if Lib.index l sub == -1 then -1 else Lib.index l sub + 1)
    split
    · decide
    · split
      · decide
      · omega
theorem index_dec (sub : List UInt8) : ∀ l : List UInt8, 0 ≤ Lib.index l sub → ∃ a r, l = a ++ (sub ++ r) ∧ Lib.index l sub = a.length := by
  intro l
  induction l with
  | nil =>
    intro h
    cases sub with
    | nil => exact ⟨[], [], rfl, rfl⟩
    | cons c s => exact absurd h (by show ¬ (0 : Int) ≤ -1; decide)
  | cons b l ih =>
    intro h
    have e : Lib.index (b :: l) sub = if sub.isPrefixOf (b :: l) then 0 else if Lib.index l sub == -1 then -1 else Lib.index l sub + 1 := rfl
    rw [e] at h ⊢
    by_cases hp : sub.isPrefixOf (b :: l) = true
    · rw [if_pos hp]
      obtain ⟨r, hr⟩ := List.isPrefixOf_iff_prefix.1 hp
      exact ⟨[], r, hr.symm, rfl⟩
    · rw [if_neg hp] at h ⊢
      by_cases hm : (Lib.index l sub == -1) = true
      · rw [if_pos hm] at h; exact absurd h (by decide)
      · rw [if_neg hm] at h ⊢
        have hge := index_ge sub l
        have hne : Lib.index l sub ≠ -1 := by simpa using hm
        obtain ⟨a, r, h1, h2⟩ := ih (by omega)
        exact ⟨b :: a, r, by rw [h1]; rfl, by rw [h2]; simp⟩
theorem cut_dec (l sub : List UInt8) : Lib.cut l sub = (l, [], false) ∧ Lib.index l sub < 0 ∨ ∃ a r, l = a ++ (sub ++ r) ∧ Lib.cut l sub = (a, r, true) ∧ Lib.index l sub = a.length := by
  unfold Lib.cut
  by_cases h : 0 ≤ Lib.index l sub
  · right
    obtain ⟨a, r, h1, h2⟩ := index_dec sub l h
    refine ⟨a, r, h1, ?_, h2⟩
    rw [if_pos h, h2]
    have e : ((a.length : Nat) : Int).toNat = a.length := rfl
    rw [e, h1]
    simp
  · left; rw [if_neg h]; exact ⟨rfl, by omega⟩
theorem index_skip (sub : List UInt8) (c : UInt8) (s : List UInt8) (hs : sub = c :: s) : ∀ (a l : List UInt8), (∀ x ∈ a, x ≠ c) → Lib.index (a ++ l) sub = if Lib.index l sub = -1 then -1 else Lib.index l sub + a.length := by
  intro a l ha
  induction a with
  | nil =>
    rw [List.nil_append]
    split
    · rename_i h; exact h
    · simp
  | cons b a ih =>
    have ih' := ih (fun x hx => ha x (by simp [hx]))
    have hb := ha b (by simp)
    have hp : sub.isPrefixOf (b :: (a ++ l)) = false := by
      rw [hs]
      have : ¬ c = b := fun e => hb e.symm
      simp [List.isPrefixOf, this]
    have e : Lib.index (b :: a ++ l) sub = if sub.isPrefixOf (b :: (a ++ l)) then 0 else if Lib.index (a ++ l) sub == -1 then -1 else Lib.index (a ++ l) sub + 1 := rfl
    rw [e, hp, if_neg Bool.false_ne_true, ih']
    by_cases h : Lib.index l sub = -1
    · rw [if_pos h, if_pos h]; rfl
    · rw [if_neg h, if_neg h]
      have hge := index_ge sub l
      have : ¬ (Lib.index l sub + (a.length : Int) == -1) = true := by
        rw [beq_iff_eq]; omega
      rw [if_neg this]
      simp only [List.length_cons]
      omega
theorem cut_at (sub : List UInt8) (c : UInt8) (s : List UInt8) (hs : sub = c :: s) (a r : List UInt8) (ha : ∀ x ∈ a, x ≠ c) : Lib.cut (a ++ (sub ++ r)) sub = (a, r, true) := by
  have h0 : Lib.index (sub ++ r) sub = 0 := by
    rw [hs]
    show (if (c :: s).isPrefixOf (c :: (s ++ r)) then (0 : Int) else _) = 0
    rw [if_pos]
    exact List.isPrefixOf_iff_prefix.2 (List.prefix_append (c :: s) r)
  have h1 := index_skip sub c s hs a (sub ++ r) ha
  rw [h0, if_neg (by decide), Int.zero_add] at h1
  unfold Lib.cut
  rw [h1, if_pos (by omega)]
  have e : ((a.length : Nat) : Int).toNat = a.length := rfl
  rw [e]
  simp
theorem cut_no (sub : List UInt8) (c : UInt8) (s : List UInt8) (hs : sub = c :: s) (l : List UInt8) (ha : ∀ x ∈ l, x ≠ c) : Lib.cut l sub = (l, [], false) := by
  have h1 := index_skip sub c s hs l [] ha
  rw [List.append_nil] at h1
  have h0 : Lib.index [] sub = -1 := by rw [hs]; rfl
  rw [h0, if_pos rfl] at h1
  unfold Lib.cut
  rw [h1, if_neg (by decide)]
theorem mem_pr {l : List UInt8} (h : allPr l = true) : ∀ c ∈ l, c ≠ 32 := fun c hc e => by
  have := List.all_eq_true.1 h c hc
  rw [e] at this; exact absurd this (by decide)
theorem plain_ok {l : List UInt8} (h : vN l = true) (hh : l.head? ≠ some 92) : ∀ c ∈ l, c ≠ 46 := fun c hc e => by
  rw [vN_plain hh, Bool.and_eq_true, Bool.and_eq_true, Bool.and_eq_true] at h
  have := List.all_eq_true.1 h.2.2.2 c hc
  rw [e] at this; exact absurd this (by decide)
theorem sepN_esc {p : List UInt8} (h : vN p = true) (hh : p.head? = some 92) : sepN p = [32, 46] := by unfold sepN; rw [if_pos (escN_iff.2 ⟨hh, h⟩)]
theorem sepN_plain {p : List UInt8} (hh : p.head? ≠ some 92) : sepN p = [46] := by unfold sepN; rw [if_neg (fun h => hh (escN_iff.1 h).1)]
theorem vN_ne {l : List UInt8} (h : vN l = true) : l ≠ [] := fun e => by have := (vN_len h).1; rw [e] at this; simp at this
theorem cutN_cons {p : List UInt8} (h : vN p = true) (r : List UInt8) : cutN (p ++ (sepN p ++ r)) = (p, r, true) := by
  unfold cutN
  rw [show (p ++ (sepN p ++ r)).head? = p.head? from by
    cases p with
    | nil => exact absurd rfl (vN_ne h)
    | cons a t => rfl]
  by_cases hh : p.head? = some 92
  · rw [if_pos hh, sepN_esc h hh]
    exact cut_at _ 32 [46] rfl p r (mem_pr (vN_pr h))
  · rw [if_neg hh, sepN_plain hh]
    exact cut_at _ 46 [] rfl p r (plain_ok h hh)
theorem cutN_one {p : List UInt8} (h : vN p = true) : cutN p = (p, [], false) := by
  unfold cutN
  by_cases hh : p.head? = some 92
  · rw [if_pos hh]; exact cut_no _ 32 [46] rfl p (mem_pr (vN_pr h))
  · rw [if_neg hh]; exact cut_no _ 46 [] rfl p (plain_ok h hh)
theorem splitF_pj : ∀ (k : Nat) (L : List (List UInt8)), L ≠ [] → L.length ≤ k → L.all vN = true → splitF k (pj L) = some L := by
  intro k
  induction k with
  | zero => intro L h hl; cases L with
    | nil => exact absurd rfl h
    | cons a t => simp at hl
  | succ k ih =>
    intro L h hl hv
    cases L with
    | nil => exact absurd rfl h
    | cons p r =>
      simp only [List.all_cons, Bool.and_eq_true] at hv
      cases r with
      | nil =>
        show splitF (k + 1) p = _
        unfold splitF
        rw [cutN_one hv.1, if_pos hv.1, if_neg Bool.false_ne_true]
      | cons q r =>
        show splitF (k + 1) (p ++ (sepN p ++ pj (q :: r))) = _
        unfold splitF
        rw [cutN_cons hv.1, if_pos hv.1, if_pos rfl, ih (q :: r) (by simp) (by simpa using hl) hv.2]
        rfl
theorem splitF_inv : ∀ (k : Nat) (l : List UInt8) (L : List (List UInt8)), splitF k l = some L → pj L = l ∧ L ≠ [] ∧ L.length ≤ k ∧ L.all vN = true := by
  intro k
  induction k with
  | zero => intro l L h; cases h
  | succ k ih =>
    intro l L h
    unfold splitF at h
    by_cases hv : vN (cutN l).1 = true
    · rw [if_pos hv] at h
      have hd := cut_dec l (if l.head? = some 92 then [32, 46] else [46])
      by_cases hm : (cutN l).2.2 = true
      · rw [if_pos hm] at h
        obtain ⟨L', h1, h2⟩ := Option.map_eq_some_iff.1 h
        obtain ⟨i1, i2, i3, i4⟩ := ih _ _ h1
        rcases hd with ⟨hd, _⟩ | ⟨a, r, d1, d2, _⟩
        · unfold cutN at hm; rw [hd] at hm; cases hm
        · have hc : cutN l = (a, r, true) := d2
          rw [hc] at hv h2 i1
          simp only at hv h2 i1
          have hh : l.head? = a.head? := by
            rw [d1]
            cases a with
            | nil => exact absurd rfl (vN_ne hv)
            | cons x t => rfl
          refine ⟨?_, by rw [← h2]; simp, by rw [← h2]; simp; omega, by rw [← h2, List.all_cons, hv, i4]; rfl⟩
          rw [← h2, pj_cons _ _ i2, i1]
          rw [hh] at d1
          by_cases he : a.head? = some 92
          · rw [if_pos he] at d1; rw [sepN_esc hv he]; exact d1.symm
          · rw [if_neg he] at d1; rw [sepN_plain he]; exact d1.symm
      · rw [if_neg hm] at h
        obtain rfl := (Option.some.inj h).symm
        rcases hd with ⟨hd, _⟩ | ⟨a, r, d1, d2, _⟩
        · have hc : cutN l = (l, [], false) := hd
          rw [hc] at hv ⊢
          exact ⟨rfl, by simp, by simp, by simpa using hv⟩
        · exfalso
          have hc : cutN l = (a, r, true) := d2
          rw [hc] at hm; exact hm rfl
    · rw [if_neg hv] at h; cases h
theorem vN_blank {l : List UInt8} (h : 32 ∈ l) : ¬ vN l = true := fun hv => mem_pr (vN_pr hv) 32 h rfl
theorem not_contains {c : UInt8} {l : List UInt8} (h : ¬ l.contains c = true) : ∀ x ∈ l, x ≠ c := fun x hx e => h (by rw [← e]; simpa using hx)
/-- the two ways of reading a path are one -/
theorem split_eq : ∀ (fuel k : Nat) (l : List UInt8), l.length < fuel → (splitA fuel l).bind (fun N => if N.length ≤ k ∧ N.all vN = true then some N else none) = splitF k l := by
  intro fuel
  induction fuel with
  | zero => intro k l h; omega
  | succ fuel ih =>
    intro k l hl
    have step : ∀ (a r : List UInt8), cutN l = (a, r, true) → r.length < fuel → ((splitA fuel r).map (a :: ·)).bind (fun N => if N.length ≤ k ∧ N.all vN = true then some N else none) = splitF k l := by
      intro a r hc hr
      cases k with
      | zero =>
        show _ = none
        cases splitA fuel r with
        | none => rfl
        | some N => show (if (a :: N).length ≤ 0 ∧ (a :: N).all vN = true then some (a :: N) else none) = none; rw [if_neg]; simp
      | succ k =>
        unfold splitF
        rw [hc]
        simp only [if_true]
        by_cases hv : vN a = true
        · rw [if_pos hv, ← ih k r hr]
          cases splitA fuel r with
          | none => rfl
          | some N =>
            show (if (a :: N).length ≤ k + 1 ∧ (a :: N).all vN = true then some (a :: N) else none) = Option.map (a :: ·) (if N.length ≤ k ∧ N.all vN = true then some N else none)
            by_cases hN : N.length ≤ k ∧ N.all vN = true
            · rw [if_pos hN, if_pos ⟨by simpa using hN.1, by rw [List.all_cons, hv, hN.2]; rfl⟩]; rfl
            · rw [if_neg hN, if_neg]
              · rfl
              · rintro ⟨h1, h2⟩
                rw [List.all_cons, Bool.and_eq_true] at h2
                exact hN ⟨by simpa using h1, h2.2⟩
        · rw [if_neg hv]
          cases splitA fuel r with
          | none => rfl
          | some N =>
            show (if (a :: N).length ≤ k + 1 ∧ (a :: N).all vN = true then some (a :: N) else none) = none
            rw [if_neg]
            rintro ⟨_, h2⟩
            rw [List.all_cons, Bool.and_eq_true] at h2
            exact hv h2.1
    have last : cutN l = (l, [], false) → (some [l] : Option (List (List UInt8))).bind (fun N => if N.length ≤ k ∧ N.all vN = true then some N else none) = splitF k l := by
      intro hc
      show (if [l].length ≤ k ∧ [l].all vN = true then some [l] else none) = _
      cases k with
      | zero => rw [if_neg (by simp)]; rfl
      | succ k =>
        unfold splitF
        rw [hc]
        by_cases hv : vN l = true
        · rw [if_pos hv, if_neg Bool.false_ne_true, if_pos ⟨by simp, by simpa using hv⟩]
        · rw [if_neg hv, if_neg]; rintro ⟨_, h2⟩; exact hv (by simpa using h2)
    unfold splitA
    by_cases hh : l.head? = some 92
    · rw [if_pos hh]
      by_cases hb : l.contains 32 = true
      · rw [if_pos hb]
        obtain ⟨e1, e2⟩ := takeWhile_ne 32 l hb
        generalize l.takeWhile (· != 32) = a at e1 e2 ⊢
        generalize (l.dropWhile (· != 32)).drop 1 = r at e1 ⊢
        by_cases hr : r.head? = some 46
        · rw [if_pos hr]
          obtain ⟨r', rfl⟩ : ∃ r', r = 46 :: r' := by
            cases r with
            | nil => cases hr
            | cons x t => obtain rfl : x = 46 := Option.some.inj hr; exact ⟨t, rfl⟩
          refine step a r' ?_ ?_
          · unfold cutN; rw [if_pos hh, e1]; exact cut_at _ 32 [46] rfl a r' e2
          · rw [e1] at hl; simp at hl; omega
        · rw [if_neg hr]
          show none = _
          cases k with
          | zero => rfl
          | succ k =>
            unfold splitF
            rw [if_neg]
            unfold cutN
            rw [if_pos hh]
            rcases cut_dec l [32, 46] with ⟨hc, _⟩ | ⟨x, y, d1, d2, d3⟩
            · rw [hc]; exact vN_blank (by simpa using hb)
            · rw [d2]
              refine vN_blank ?_
              have h1 := index_skip [32, 46] 32 [46] rfl a (32 :: r) e2
              have h2 : Lib.index (32 :: r) [32, 46] = if Lib.index r [32, 46] == -1 then -1 else Lib.index r [32, 46] + 1 := by
                show (if ([32, 46] : List UInt8).isPrefixOf (32 :: r) then (0 : Int) else _) = _
                rw [if_neg]
                intro hp
                cases r with
                | nil => simp [List.isPrefixOf] at hp
                | cons z t => simp [List.isPrefixOf] at hp; rw [← hp] at hr; exact hr rfl
              rw [← e1, d3, h2] at h1
              have hx : a.length < x.length := by
                by_cases q : (Lib.index r [32, 46] == -1) = true
                · rw [if_pos q, if_pos rfl] at h1; omega
                · rw [if_neg q] at h1
                  have q' : Lib.index r [32, 46] ≠ -1 := by simpa using q
                  have q5 := index_ge [32, 46] r
                  rcases cut_dec r [32, 46] with ⟨_, q3⟩ | ⟨_, _, _, _, q3⟩
                  · split at h1
                    · omega
                    · exfalso
                      rename_i q4
                      omega
                  · rw [q3] at h1
                    rw [if_neg (by omega)] at h1
                    omega
              have h3 : x = l.take x.length := by rw [d1]; simp
              rw [h3, e1]
              have h4 : x.length = a.length + (x.length - a.length - 1) + 1 := by omega
              rw [h4, List.take_append]
              simp
              right
              rw [show a.length + (x.length - a.length - 1) + 1 - a.length = (x.length - a.length - 1) + 1 by omega]
              simp
      · rw [if_neg hb]
        refine last ?_
        unfold cutN; rw [if_pos hh]; exact cut_no _ 32 [46] rfl l (not_contains hb)
    · rw [if_neg hh]
      by_cases hb : l.contains 46 = true
      · rw [if_pos hb]
        obtain ⟨e1, e2⟩ := takeWhile_ne 46 l hb
        generalize l.takeWhile (· != 46) = a at e1 e2 ⊢
        generalize (l.dropWhile (· != 46)).drop 1 = r at e1 ⊢
        refine step a r ?_ ?_
        · unfold cutN; rw [if_neg hh, e1]; exact cut_at _ 46 [] rfl a r e2
        · rw [e1] at hl; simp at hl; omega
      · rw [if_neg hb]
        refine last ?_
        unfold cutN; rw [if_neg hh]; exact cut_no _ 46 [] rfl l (not_contains hb)
end Go.Proofs.Ytcjehiecgdmidaa
