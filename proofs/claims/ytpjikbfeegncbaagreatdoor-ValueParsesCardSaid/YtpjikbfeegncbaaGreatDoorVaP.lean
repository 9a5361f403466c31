/- Plain: how the texts of decimal numbers are read and written. -/
import Derived.Test.YtpjikbfeegncbaaGreatDoorTsJ
import Derived.Test.YtpjikbfeegncbaaGreatDoorDec
set_option linter.unusedVariables false
set_option linter.unusedSimpArgs false
namespace Go.Proofs.YtpjikbfeegncbaaGreatDoor
open Go

def bsV (l : List UInt8) : ByteArray := ⟨l.toArray⟩
theorem bsV_list (l : List UInt8) : (bsV l).data.toList = l := rfl
/-- a sign, and what is behind it -/
def signV (l : List UInt8) : Bool × List UInt8 := if l.head? = some 45 then (true, l.tail) else if l.head? = some 43 then (false, l.tail) else (false, l)
/-- the fraction, and what is behind it -/
def fracV (r : List UInt8) : Option (List UInt8 × List UInt8) := if r.head? = some 46 then (if nd r.tail = 0 then none else some (r.tail.take (nd r.tail), r.tail.drop (nd r.tail))) else some ([], r)
/-- the exponent, and what is behind it -/
def expV (r : List UInt8) : Option (Bool × List UInt8 × List UInt8) :=
  if r.head? = some 101 ∨ r.head? = some 69 then
    (if nd (signV r.tail).2 = 0 then none else some ((signV r.tail).1, (signV r.tail).2.take (nd (signV r.tail).2), (signV r.tail).2.drop (nd (signV r.tail).2)))
  else some (false, [], r)
/-- sign, digits before and behind the point, sign and digits of the exponent -/
def scanV (l : List UInt8) : Option (Bool × List UInt8 × List UInt8 × Bool × List UInt8) :=
  if 64 < l.length ∨ nd (signV l).2 = 0 then none
  else (fracV ((signV l).2.drop (nd (signV l).2))).bind fun f => (expV f.2).bind fun x =>
    if x.2.2 = [] then some ((signV l).1, (signV l).2.take (nd (signV l).2), f.1, x.1, x.2.1) else none
def leadV (d : List UInt8) : Nat := (d.takeWhile (· == 48)).length
def stripV (d : List UInt8) : List UInt8 := ((d.dropWhile (· == 48)).reverse.dropWhile (· == 48)).reverse
/-- a number that is never greater than L -/
def esat (L : Nat) (ds : List UInt8) : Nat := ds.foldl (fun e c => min L (10 * e + (c.toNat - 48))) 0
def sgnV (b : Bool) (n : Nat) : Int := if b then -(n : Int) else (n : Int)
/-- the canonical text -/
def textV (neg : Bool) (T : List UInt8) (first : Int) : ByteArray × Int :=
  if T = [] then (⟨#[48]⟩, 0) else if 17 < T.length ∨ first < -400 ∨ 400 < first then (⟨#[]⟩, 9)
  else (bsV ((if neg then [45] else []) ++ (T.take 1 ++ (if 1 < T.length then 46 :: T.drop 1 else []))) ++ ⟨#[101]⟩ ++ decB first, 0)
def resV (L : Nat) (p : Bool × List UInt8 × List UInt8 × Bool × List UInt8) : ByteArray × Int :=
  textV p.1 (stripV (p.2.1 ++ p.2.2.1)) ((p.2.1.length : Int) - 1 - leadV (p.2.1 ++ p.2.2.1) + sgnV p.2.2.2.1 (esat L p.2.2.2.2))
def parseV (L : Nat) (l : List UInt8) : ByteArray × Int := match scanV l with
  | none => (⟨#[]⟩, 3)
  | some p => resV L p
/-- canonical texts -/
def canV (l : List UInt8) : Bool := decide ((parseV 100000 l).2 = 0 ∧ (parseV 100000 l).1.data.toList = l)

theorem esat_eq (L : Nat) (ds : List UInt8) : esat L ds = min L (dv ds) := by
  have h : ∀ (ds : List UInt8) (a : Nat), ds.foldl (fun e c => min L (10 * e + (c.toNat - 48))) (min L a) = min L (ds.foldl (fun e c => 10 * e + (c.toNat - 48)) a) := by
    intro ds
    induction ds with
    | nil => intro a; rfl
    | cons c t ih =>
      intro a
      rw [List.foldl_cons, List.foldl_cons, ← ih]
      congr 1
      omega
  have h0 := h ds 0
  rw [Nat.min_zero] at h0
  exact h0
theorem leadV_le (d : List UInt8) : leadV d ≤ d.length := by
  unfold leadV
  induction d with
  | nil => exact Nat.le_refl _
  | cons a t ih => rw [List.takeWhile_cons]; split <;> simp <;> omega
theorem signV_len (l : List UInt8) : (signV l).2.length ≤ l.length := by
  unfold signV; split
  · simp
  · split <;> simp
theorem fracV_len {r : List UInt8} {f : List UInt8 × List UInt8} (h : fracV r = some f) : f.1.length ≤ r.length ∧ f.2.length ≤ r.length := by
  unfold fracV at h
  split at h
  · split at h
    · cases h
    · cases h; simp; omega
  · cases h; simp
theorem expV_len {r : List UInt8} {x : Bool × List UInt8 × List UInt8} (h : expV r = some x) : x.2.1.length ≤ r.length := by
  unfold expV at h
  split at h
  · split at h
    · cases h
    · cases h
      have := signV_len r.tail
      have h2 : r.tail.length ≤ r.length := by simp
      simp; omega
  · cases h; simp
theorem scanV_len {l : List UInt8} {p : Bool × List UInt8 × List UInt8 × Bool × List UInt8} (h : scanV l = some p) : l.length ≤ 64 ∧ p.2.1.length ≤ 64 ∧ p.2.2.1.length ≤ 64 ∧ p.2.2.2.2.length ≤ 64 := by
  unfold scanV at h
  split at h
  · cases h
  · rename_i hc
    have hl : l.length ≤ 64 := by omega
    obtain ⟨f, hf, h⟩ := Option.bind_eq_some_iff.1 h
    obtain ⟨x, hx, h⟩ := Option.bind_eq_some_iff.1 h
    split at h
    · cases h
      have h1 := signV_len l
      have h2 := fracV_len hf
      have h3 := expV_len hx
      have h4 : ((signV l).2.drop (nd (signV l).2)).length ≤ (signV l).2.length := by simp
      refine ⟨hl, ?_, ?_, ?_⟩
      · show ((signV l).2.take _).length ≤ 64
        simp; omega
      · show f.1.length ≤ 64; omega
      · show x.2.1.length ≤ 64; omega
    · cases h
/-- a greater bound of the exponent changes nothing -/
theorem textV_far (neg : Bool) (T : List UInt8) (a b : Int) (ha : a < -400 ∨ 400 < a) (hb : b < -400 ∨ 400 < b) : textV neg T a = textV neg T b := by
  unfold textV
  by_cases h : T = []
  · rw [if_pos h, if_pos h]
  · rw [if_neg h, if_neg h, if_pos (.inr ha), if_pos (.inr hb)]
theorem parseV_sat (l : List UInt8) : parseV 1048576 l = parseV 100000 l := by
  unfold parseV
  cases h : scanV l with
  | none => rfl
  | some p =>
    obtain ⟨h1, h2, h3, h4⟩ := scanV_len h
    show resV 1048576 p = resV 100000 p
    unfold resV
    rw [esat_eq, esat_eq]
    have hl := leadV_le (p.2.1 ++ p.2.2.1)
    rw [List.length_append] at hl
    by_cases hd : dv p.2.2.2.2 ≤ 100000
    · rw [Nat.min_eq_right (by omega), Nat.min_eq_right hd]
    · apply textV_far
      · unfold sgnV; split <;> omega
      · unfold sgnV; split <;> omega

/-- a canonical text is read as it is -/
theorem nd_digits {l r : List UInt8} (h : ∀ c ∈ l, isD c = true) (hr : ∀ c, r.head? = some c → isD c = false) : nd (l ++ r) = l.length := nd_app l r h hr
theorem digit_ne {c : UInt8} (h : isD c = true) (x : UInt8) (hx : isD x = false) : c ≠ x := fun e => by rw [e, hx] at h; cases h
theorem sign_digit {l : List UInt8} (h : ∀ c, l.head? = some c → isD c = true) : signV l = (false, l) := by
  unfold signV
  rw [if_neg (fun e => digit_ne (h _ e) 45 (by decide) rfl), if_neg (fun e => digit_ne (h _ e) 43 (by decide) rfl)]
theorem sign_itoa (n : Int) : signV (Lib.itoa n) = (decide (n < 0), Lib.decDigits n.natAbs) := by
  rcases Int.lt_or_le n 0 with h | h
  · obtain ⟨k, rfl⟩ : ∃ k : Nat, n = -(k : Int) := ⟨n.natAbs, by omega⟩
    rw [Lib.itoa_neg k (by omega), decide_eq_true h]
    unfold signV
    rw [if_pos (show (45 :: Lib.decDigits k).head? = some 45 from rfl)]
    show (true, Lib.decDigits k) = (true, Lib.decDigits (-(k : Int)).natAbs)
    rw [Int.natAbs_neg]; rfl
  · obtain ⟨k, rfl⟩ : ∃ k : Nat, n = (k : Int) := ⟨n.natAbs, by omega⟩
    rw [Lib.itoa_nonneg, decide_eq_false (by omega)]
    rw [sign_digit]
    · rfl
    · intro c hc
      exact (dec_all k).1 c (List.mem_of_mem_head? hc)
theorem strip_self {T : List UInt8} (h1 : T.head? ≠ some 48) (h2 : T.getLast? ≠ some 48) : stripV T = T ∧ leadV T = 0 := by
  have e : T.dropWhile (· == 48) = T ∧ T.takeWhile (· == 48) = [] := by
    cases T with
    | nil => exact ⟨rfl, rfl⟩
    | cons a t =>
      have : (a == 48) = false := by
        cases hb : a == 48 with
        | false => rfl
        | true => exact absurd (by rw [List.head?_cons, eq_of_beq hb]) h1
      simp [this]
  have e2 : T.reverse.dropWhile (· == 48) = T.reverse := by
    cases hr : T.reverse with
    | nil => rfl
    | cons a t =>
      have hg : T.getLast? = some a := by rw [← List.head?_reverse, hr]; rfl
      have : (a == 48) = false := by
        cases hb : a == 48 with
        | false => rfl
        | true => exact absurd (by rw [hg, eq_of_beq hb]) h2
      simp [this]
  unfold stripV leadV
  rw [e.1, e.2, e2, List.reverse_reverse]
  exact ⟨rfl, rfl⟩
theorem strip_ends (d : List UInt8) : (stripV d).head? ≠ some 48 ∧ (stripV d).getLast? ≠ some 48 := by
  have hd : ∀ l : List UInt8, (l.dropWhile (· == 48)).head? ≠ some 48 := by
    intro l
    induction l with
    | nil => simp
    | cons a t ih =>
      rw [List.dropWhile_cons]
      split
      · exact ih
      · rename_i h
        intro e
        rw [List.head?_cons] at e
        exact h (by rw [Option.some.inj e]; rfl)
  constructor
  · unfold stripV
    rw [List.head?_reverse]
    obtain ⟨m, hm⟩ : ∃ m, d.dropWhile (· == 48) = m := ⟨_, rfl⟩
    have h1 := hd d
    rw [hm] at h1 ⊢
    intro e
    have hsuf : m.reverse.dropWhile (· == 48) <:+ m.reverse := List.dropWhile_suffix _
    obtain ⟨p, hp⟩ := hsuf
    have hne : m.reverse.dropWhile (· == 48) ≠ [] := fun h => by rw [h] at e; cases e
    have : m.reverse.getLast? = some 48 := by
      rw [← hp, List.getLast?_append, e]; rfl
    rw [List.getLast?_reverse] at this
    exact h1 this
  · unfold stripV
    rw [List.getLast?_reverse]
    exact hd _
theorem strip_mem {d : List UInt8} {c : UInt8} (h : c ∈ stripV d) : c ∈ d := by
  unfold stripV at h
  rw [List.mem_reverse] at h
  have h1 := (List.dropWhile_suffix (p := (· == (48 : UInt8))) (l := (d.dropWhile (· == 48)).reverse)).subset h
  rw [List.mem_reverse] at h1
  exact (List.dropWhile_suffix (p := (· == (48 : UInt8))) (l := d)).subset h1
theorem bsV_app (a b : ByteArray) : (a ++ b).data.toList = a.data.toList ++ b.data.toList := by simp
theorem dec_len5 (k : Nat) (h : k < 10 ^ 3) : (Lib.decDigits k).length ≤ 3 := (dec_all k).2.2.2 3 (by decide) h
theorem itoa_len (n : Int) (h1 : -400 ≤ n) (h2 : n ≤ 400) : (Lib.itoa n).length ≤ 4 := by
  rcases Int.lt_or_le n 0 with h | h
  · obtain ⟨k, rfl⟩ : ∃ k : Nat, n = -(k : Int) := ⟨n.natAbs, by omega⟩
    rw [Lib.itoa_neg k (by omega)]
    have := dec_len5 k (by omega)
    simp; omega
  · obtain ⟨k, rfl⟩ : ∃ k : Nat, n = (k : Int) := ⟨n.natAbs, by omega⟩
    rw [Lib.itoa_nonneg]
    have := dec_len5 k (by omega)
    omega
theorem nd_ne_nil {l : List UInt8} (h : nd l ≠ 0) : l ≠ [] := fun e => h (by rw [e]; rfl)
/-- the text of a number that is not zero is read as that number -/
theorem scan_text (neg : Bool) (t0 : UInt8) (t : List UInt8) (first : Int) (hd : ∀ c ∈ t0 :: t, isD c = true) (hz : t.length ≤ 16) (h1 : -400 ≤ first) (h2 : first ≤ 400) :
    scanV ((if neg then [45] else []) ++ (t0 :: (if 0 < t.length then 46 :: t else [])) ++ 101 :: Lib.itoa first) = some (neg, [t0], t, decide (first < 0), Lib.decDigits first.natAbs) := by
  have hil := itoa_len first h1 h2
  have h0 : isD t0 = true := hd t0 (List.mem_cons_self ..)
  obtain ⟨q, hq⟩ : ∃ q, (if 0 < t.length then 46 :: t else []) = q := ⟨_, rfl⟩
  have hql : q.length ≤ 17 := by rw [← hq]; split <;> simp; omega
  obtain ⟨m, hm⟩ : ∃ m, t0 :: (q ++ 101 :: Lib.itoa first) = m := ⟨_, rfl⟩
  have hmh : ∀ c, m.head? = some c → isD c = true := fun c hc => by rw [← hm] at hc; cases hc; exact h0
  have hl : (if neg then [45] else []) ++ (t0 :: q) ++ 101 :: Lib.itoa first = (if neg then [45] else []) ++ m := by rw [← hm]; simp
  have hs : signV ((if neg then [45] else []) ++ m) = (neg, m) := by
    cases neg with
    | true =>
      show signV (45 :: m) = (true, m)
      unfold signV
      rw [if_pos (show (45 :: m).head? = some 45 from rfl)]; rfl
    | false => exact sign_digit hmh
  have hstop : ∀ c, (q ++ 101 :: Lib.itoa first).head? = some c → isD c = false := by
    intro c hc
    rw [← hq] at hc
    split at hc
    · cases hc; decide
    · cases hc; decide
  have hn : nd m = 1 := by rw [← hm]; exact nd_digits (l := [t0]) (fun c hc => by rw [List.mem_singleton.1 hc]; exact h0) hstop
  have hlen : ((if neg then [45] else []) ++ m).length ≤ 64 := by
    rw [← hm]
    have : (if neg then [45] else [] : List UInt8).length ≤ 1 := by split <;> simp
    simp only [List.length_append, List.length_cons]
    omega
  have hx : expV (101 :: Lib.itoa first) = some (decide (first < 0), Lib.decDigits first.natAbs, []) := by
    have hall : nd (Lib.decDigits first.natAbs) = (Lib.decDigits first.natAbs).length := by
      have := nd_digits (l := Lib.decDigits first.natAbs) (r := []) (dec_all _).1 (fun c hc => by cases hc)
      rwa [List.append_nil] at this
    have hpos := (dec_all first.natAbs).2.2.1
    unfold expV
    rw [if_pos (show (101 :: Lib.itoa first).head? = some 101 ∨ (101 :: Lib.itoa first).head? = some 69 from .inl rfl)]
    show (if nd (signV (Lib.itoa first)).2 = 0 then none else some ((signV (Lib.itoa first)).1, (signV (Lib.itoa first)).2.take (nd (signV (Lib.itoa first)).2), (signV (Lib.itoa first)).2.drop (nd (signV (Lib.itoa first)).2))) = _
    rw [sign_itoa]
    simp only [hall, List.take_length, List.drop_length]
    rw [if_neg (by omega)]
  have hf : fracV (q ++ 101 :: Lib.itoa first) = some (t, 101 :: Lib.itoa first) := by
    rw [← hq]
    by_cases ht : 0 < t.length
    · rw [if_pos ht]
      have hnt : nd (t ++ 101 :: Lib.itoa first) = t.length := nd_digits (fun c hc => hd c (List.mem_cons_of_mem _ hc)) (fun c hc => by cases hc; decide)
      unfold fracV
      rw [if_pos (show (46 :: t ++ 101 :: Lib.itoa first).head? = some 46 from rfl)]
      show (if nd (t ++ 101 :: Lib.itoa first) = 0 then none else some ((t ++ 101 :: Lib.itoa first).take (nd (t ++ 101 :: Lib.itoa first)), (t ++ 101 :: Lib.itoa first).drop (nd (t ++ 101 :: Lib.itoa first)))) = _
      rw [hnt, if_neg (by omega), List.take_left, List.drop_left]
    · rw [if_neg ht]
      have ht0 : t = [] := List.eq_nil_of_length_eq_zero (by omega)
      subst ht0
      rfl
  rw [hq, hl]
  unfold scanV
  rw [hs]
  show (if 64 < ((if neg then [45] else []) ++ m).length ∨ nd m = 0 then none else (fracV (m.drop (nd m))).bind fun f => (expV f.2).bind fun x => if x.2.2 = [] then some (neg, m.take (nd m), f.1, x.1, x.2.1) else none) = _
  rw [if_neg (by omega), hn]
  have hm1 : m.drop 1 = q ++ 101 :: Lib.itoa first := by rw [← hm]; rfl
  have hm2 : m.take 1 = [t0] := by rw [← hm]; rfl
  rw [hm1, hm2, hf]
  show (expV (101 :: Lib.itoa first)).bind _ = _
  rw [hx]
  rfl
theorem esat_dec (n : Int) (h1 : -400 ≤ n) (h2 : n ≤ 400) : sgnV (decide (n < 0)) (esat 100000 (Lib.decDigits n.natAbs)) = n := by
  rw [esat_eq, (dec_all _).2.1, Nat.min_eq_right (by omega)]
  unfold sgnV
  by_cases h : n < 0
  · rw [decide_eq_true h, if_pos rfl]; omega
  · rw [decide_eq_false h, if_neg Bool.false_ne_true]; omega
theorem text_again (neg : Bool) (T : List UInt8) (first : Int) (hd : ∀ c ∈ T, isD c = true) (h1 : T.head? ≠ some 48) (h2 : T.getLast? ≠ some 48) (hok : (textV neg T first).2 = 0) :
    parseV 100000 (textV neg T first).1.data.toList = textV neg T first := by
  by_cases hT : T = []
  · have e : textV neg T first = (⟨#[48]⟩, 0) := by unfold textV; rw [if_pos hT]
    rw [e]
    show parseV 100000 [48] = _
    decide +kernel
  · by_cases hr : 17 < T.length ∨ first < -400 ∨ 400 < first
    · have e : textV neg T first = (⟨#[]⟩, 9) := by unfold textV; rw [if_neg hT, if_pos hr]
      rw [e] at hok; cases hok
    · have e : textV neg T first = (bsV ((if neg then [45] else []) ++ (T.take 1 ++ (if 1 < T.length then 46 :: T.drop 1 else []))) ++ ⟨#[101]⟩ ++ decB first, 0) := by unfold textV; rw [if_neg hT, if_neg hr]
      obtain ⟨t0, t, rfl⟩ : ∃ t0 t, T = t0 :: t := by
        cases T with
        | nil => exact absurd rfl hT
        | cons a t => exact ⟨a, t, rfl⟩
      have hlist : (textV neg (t0 :: t) first).1.data.toList = (if neg then [45] else []) ++ (t0 :: (if 0 < t.length then 46 :: t else [])) ++ 101 :: Lib.itoa first := by
        rw [e]
        show (bsV _ ++ ⟨#[101]⟩ ++ decB first).data.toList = _
        rw [bsV_app, bsV_app, bsV_list]
        have ed : (decB first).data.toList = Lib.itoa first := by unfold decB; simp
        rw [ed]
        have ec : (if 1 < (t0 :: t).length then 46 :: (t0 :: t).drop 1 else ([] : List UInt8)) = if 0 < t.length then 46 :: t else [] := by
          simp only [List.length_cons, List.drop_succ_cons, List.drop_zero]
          by_cases h : 0 < t.length
          · rw [if_pos h, if_pos (by omega)]
          · rw [if_neg h, if_neg (by omega)]
        rw [ec]
        simp
      have hlen : (t0 :: t).length = t.length + 1 := rfl
      have hs := scan_text neg t0 t first hd (by omega) (by omega) (by omega)
      obtain ⟨s1, s2⟩ := strip_self h1 h2
      rw [hlist]
      unfold parseV
      rw [hs]
      show textV neg (stripV ([t0] ++ t)) ((([t0] : List UInt8).length : Int) - 1 - leadV ([t0] ++ t) + sgnV (decide (first < 0)) (esat 100000 (Lib.decDigits first.natAbs))) = _
      have ha : ([t0] ++ t) = t0 :: t := rfl
      rw [ha, s1, s2, esat_dec first (by omega) (by omega)]
      congr 1
      simp
theorem fracV_dig {r : List UInt8} {f : List UInt8 × List UInt8} (h : fracV r = some f) : ∀ c ∈ f.1, isD c = true := by
  unfold fracV at h
  split at h
  · split at h
    · cases h
    · cases h
      intro c hc
      obtain ⟨j, hj, rfl⟩ := List.mem_iff_getElem.1 hc
      rw [List.length_take] at hj
      rw [List.getElem_take]
      exact nd_in _ j (by omega) (by omega)
  · cases h; intro c hc; cases hc
theorem scanV_dig {l : List UInt8} {p : Bool × List UInt8 × List UInt8 × Bool × List UInt8} (h : scanV l = some p) : ∀ c ∈ p.2.1 ++ p.2.2.1, isD c = true := by
  unfold scanV at h
  split at h
  · cases h
  · obtain ⟨f, hf, h⟩ := Option.bind_eq_some_iff.1 h
    obtain ⟨x, hx, h⟩ := Option.bind_eq_some_iff.1 h
    split at h
    · cases h
      intro c hc
      rcases List.mem_append.1 hc with hc | hc
      · obtain ⟨j, hj, rfl⟩ := List.mem_iff_getElem.1 hc
        rw [List.length_take] at hj
        rw [List.getElem_take]
        exact nd_in _ j (by omega) (by omega)
      · exact fracV_dig hf c hc
    · cases h
/-- what Parse returns is canonical -/
theorem parse_again (l : List UInt8) (h : (parseV 100000 l).2 = 0) : canV (parseV 100000 l).1.data.toList = true := by
  cases hs : scanV l with
  | none => unfold parseV at h; rw [hs] at h; cases h
  | some p =>
    have e : parseV 100000 l = textV p.1 (stripV (p.2.1 ++ p.2.2.1)) ((p.2.1.length : Int) - 1 - leadV (p.2.1 ++ p.2.2.1) + sgnV p.2.2.2.1 (esat 100000 p.2.2.2.2)) := by
      unfold parseV; rw [hs]; rfl
    rw [e] at h ⊢
    have h2 := text_again p.1 (stripV (p.2.1 ++ p.2.2.1)) _ (fun c hc => scanV_dig hs c (strip_mem hc)) (strip_ends _).1 (strip_ends _).2 h
    unfold canV
    rw [h2]
    exact decide_eq_true ⟨h, rfl⟩
/-- with an error the text is empty -/
theorem parseV_err (l : List UInt8) (h : (parseV 100000 l).2 ≠ 0) : (parseV 100000 l).1 = ⟨#[]⟩ := by
  unfold parseV at h ⊢
  cases hs : scanV l with
  | none => rfl
  | some p =>
    rw [hs] at h
    show (resV 100000 p).1 = _
    have h' : (resV 100000 p).2 ≠ 0 := h
    unfold resV textV at h' ⊢
    split
    · rename_i hc; rw [if_pos hc] at h'; exact absurd rfl h'
    · rename_i hc
      rw [if_neg hc] at h'
      split
      · rfl
      · rename_i hc2; rw [if_neg hc2] at h'; exact absurd rfl h'
theorem canV_iff (l : List UInt8) : canV l = true ↔ parseV 100000 l = (bsV l, 0) := by
  unfold canV
  rw [decide_eq_true_eq]
  constructor
  · rintro ⟨h1, h2⟩
    refine Prod.ext ?_ h1
    apply Go.WideShapes.bytes_inj
    rw [h2]; rfl
  · intro h; rw [h]; exact ⟨rfl, rfl⟩
end Go.Proofs.YtpjikbfeegncbaaGreatDoor
