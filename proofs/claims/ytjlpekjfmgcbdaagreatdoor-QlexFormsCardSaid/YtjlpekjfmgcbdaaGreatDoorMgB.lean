/- MgB: the texts QlP QlA QlB QlC QlD QlE QlF QlG QlH QlI in one. -/
import Derived.Test.YtjlpekjfmgcbdaaGreatDoorMgA
import Derived.Test.YtjlpekjfmgcbdaaGreatDoorProg
import Derived.Deep.QuietTactic
import Derived.Lib.IndexBytes
import Derived.BigQuiet
import Derived.IntWalk
import Derived.Laws.BitsAllLaws
import Derived.WideShapes
import Derived.Lib.Split
import Derived.Laws.Rows
import Derived.Deep.DeepCutAuto
import Derived.Deep.CutBlock
import Derived.Deep.RegionWith
/- Plain: what package qlex computes, over lists of bytes. -/
set_option linter.unusedVariables false
set_option linter.unusedSimpArgs false
namespace Go.Proofs.YtjlpekjfmgcbdaaGreatDoor

/-- blanks, digits, letters, what begins a part of a name, what stands in it, what stands in an escaped one -/
def blQ (c : UInt8) : Bool := c == 32 || c == 9 || c == 10 || c == 13
def dgQ (c : UInt8) : Bool := decide (48 ≤ c.toNat ∧ c.toNat ≤ 57)
def ltQ (c : UInt8) : Bool := decide (65 ≤ c.toNat ∧ c.toNat ≤ 90 ∨ 97 ≤ c.toNat ∧ c.toNat ≤ 122)
def fiQ (c : UInt8) : Bool := ltQ c || c == 95
def inQ (c : UInt8) : Bool := fiQ c || dgQ c || c == 36
def prQ (c : UInt8) : Bool := decide (33 ≤ c.toNat ∧ c.toNat ≤ 126)
def lowQ (c : UInt8) : UInt8 := c ||| 32
/-- how many bytes at the front have a property -/
def spn (p : UInt8 → Bool) (l : List UInt8) : Nat := (l.takeWhile p).length
theorem spn_le (p : UInt8 → Bool) : ∀ l : List UInt8, spn p l ≤ l.length
  | [] => Nat.le_refl _
  | c :: t => by
    unfold spn
    rw [List.takeWhile_cons]
    have := spn_le p t
    unfold spn at this
    split
    · rw [List.length_cons, List.length_cons]; omega
    · exact Nat.zero_le _
theorem spn_yes {p : UInt8 → Bool} {c : UInt8} {t : List UInt8} (h : p c = true) : spn p (c :: t) = spn p t + 1 := by
  unfold spn; rw [List.takeWhile_cons, if_pos h]; rfl
theorem spn_no {p : UInt8 → Bool} {c : UInt8} {t : List UInt8} (h : p c = false) : spn p (c :: t) = 0 := by
  unfold spn; rw [List.takeWhile_cons, if_neg (by rw [h]; decide)]; rfl
/-- a word at the front of a text: kind, text, size, what is wrong -/
structure Wq where
  kind : Int
  text : List UInt8
  size : Nat
  err : Int
def wrongQ (e : Int) : Wq := ⟨0, [], 0, e⟩
def foundQ (k : Int) (t : List UInt8) (n : Nat) : Wq := ⟨k, t, n, 0⟩
/-- how many bytes are blanks and comments -/
def skipF : Nat → List UInt8 → Nat
  | 0, _ => 0
  | _ + 1, [] => 0
  | k + 1, c :: t => if blQ c then skipF k t + 1 else if c = 35 then skipF k (t.drop (spn (· != 10) t)) + spn (· != 10) t + 1 else 0
def skipQ (l : List UInt8) : Nat := skipF l.length l
/-- a part of a name: its text, with a blank behind it where it is escaped and a full stop follows, and its size -/
def segQ : List UInt8 → Option (List UInt8 × Nat)
  | [] => none
  | c :: r => if fiQ c then some ((c :: r).take (spn inQ (c :: r)), spn inQ (c :: r))
    else if c = 92 then
      (if spn prQ r = 0 then none else match r.drop (spn prQ r) with
        | [] => some (c :: r, r.length + 1)
        | d :: r2 => if blQ d then some ((c :: r.take (spn prQ r)) ++ (if r2.head? = some 46 then [32] else []), spn prQ r + 2) else none)
    else none
def pathF : Nat → List UInt8 → Option (List UInt8 × Nat)
  | 0, _ => none
  | k + 1, l => (segQ l).bind fun p => if (l.drop p.2).head? = some 46 then (pathF k (l.drop (p.2 + 1))).map fun q => (p.1 ++ 46 :: q.1, p.2 + 1 + q.2) else some p
def pathQ (l : List UInt8) : Wq := match pathF (l.length + 1) l with | some p => foundQ 0 p.1 p.2 | none => wrongQ 3
/-- digits without leading zeros -/
def stripQ (l : List UInt8) : List UInt8 := if l.dropWhile (· == 48) = [] then [48] else l.dropWhile (· == 48)
/-- is the word that ends here not continued in a wrong way -/
def aloneQ (l : List UInt8) (n : Nat) : Bool := match l.drop n with | [] => true | c :: _ => !inQ c && c != 39
/-- the place behind an exponent -/
def expQ (l : List UInt8) (n : Nat) : Nat :=
  match l.drop n with
  | [] => n
  | c :: t => if lowQ c = 101 then
      (let m := if t.head? = some 43 ∨ t.head? = some 45 then n + 2 else n + 1
       if 0 < spn dgQ (l.drop m) then m + spn dgQ (l.drop m) else n) else n
/-- what a hexadecimal digit is, or -1 -/
def hexQ (c : UInt8) : Int := if dgQ c then (c.toNat : Int) - 48 else if 97 ≤ (lowQ c).toNat ∧ (lowQ c).toNat ≤ 102 then ((lowQ c).toNat : Int) - 97 + 10 else -1
/-- the bits of a digit of a base -/
def baseQ (b : UInt8) : Option Nat := if b = 98 then some 1 else if b = 111 then some 3 else if b = 104 then some 4 else if b = 100 then some 0 else none
def ofQ (b c : UInt8) : Bool := if lowQ c = 120 ∨ lowQ c = 122 then true else if b = 100 then dgQ c else decide (0 ≤ hexQ c ∧ hexQ c < (2 ^ (baseQ b).getD 0 : Nat))
/-- the place behind a constant whose width ends at n; 0: none -/
def constQ (l : List UInt8) (n : Nat) : Nat :=
  match l.drop n with
  | 39 :: b :: t => if t = [] ∨ baseQ (lowQ b) = none ∨ ltQ b = false then 0 else if spn (ofQ (lowQ b)) t = 0 then 0 else n + 2 + spn (ofQ (lowQ b)) t
  | _ => 0
/-- x or z, or 0 -/
def unkQ (c : UInt8) : UInt8 := if lowQ c = 120 ∨ lowQ c = 122 then lowQ c else 0
/-- the last n bits of a number -/
def binQ : Nat → Nat → List UInt8
  | 0, _ => []
  | n + 1, v => binQ n (v / 2) ++ [if v % 2 = 1 then 49 else 48]
def spellQ (k : Nat) (l : List UInt8) : List UInt8 := l.flatMap fun c => if unkQ c ≠ 0 then List.replicate k (unkQ c) else binQ k (hexQ c).toNat
/-- the width that digits spell, up to 1000 -/
def widthQ (ds : List UInt8) : Nat := ds.foldl (fun w c => min (10 * w + (c.toNat - 48)) 1000) 0
/-- the bits of a decimal number, 140 of them, or one more where it is too large -/
def decBitsF : List UInt8 → Nat → List UInt8
  | [], v => binQ 140 v
  | c :: t, v => if 2 ^ 140 ≤ 10 * v + (c.toNat - 48) then 49 :: binQ 140 ((10 * v + (c.toNat - 48)) % 2 ^ 140) else decBitsF t (10 * v + (c.toNat - 48))
def bitsQ (l : List UInt8) : List UInt8 × Int :=
  if spn dgQ l = 0 ∨ constQ l (spn dgQ l) ≠ l.length then ([], 3) else
  let b := lowQ (l.getD (spn dgQ l + 1) 0)
  let ds := l.drop (spn dgQ l + 2)
  let u := unkQ (ds.headD 0)
  if b = 100 ∧ ¬ (ds.length = 1 ∧ u ≠ 0) ∧ spn dgQ ds < ds.length then ([], 3) else
  let w := widthQ (l.take (spn dgQ l))
  if w < 1 ∨ 128 < w then ([], 8) else
  if b = 100 ∧ ds.length = 1 ∧ u ≠ 0 then (List.replicate w u, 0) else
  let out := if b = 100 then decBitsF ds 0 else spellQ ((baseQ b).getD 0) ds
  if out.length < w then (List.replicate (w - out.length) (if u ≠ 0 then u else 48) ++ out, 0)
  else if (out.take (out.length - w)).all (· == 48) then (out.drop (out.length - w), 0) else ([], 8)
/-- what stands between the quotation marks -/
def unqG : Nat → List UInt8 → Option (List UInt8)
  | 0, _ => none
  | _ + 1, [] => some []
  | k + 1, c :: t =>
    if c.toNat < 32 ∨ 126 < c.toNat ∨ c = 34 then none
    else if c ≠ 92 then (unqG k t).map (c :: ·)
    else match t with
      | [] => none
      | d :: r => if d = 34 ∨ d = 92 then (unqG k r).map (d :: ·)
        else if d = 120 then (match r with
          | x :: y :: q => if 0 ≤ hexQ x ∧ 0 ≤ hexQ y then (unqG k q).map (UInt8.ofNat (16 * hexQ x + hexQ y).toNat :: ·) else none
          | _ => none)
        else none
def unqQ (l : List UInt8) : List UInt8 × Int :=
  if l.length < 2 ∨ l.head? ≠ some 34 ∨ l.getLast? ≠ some 34 then ([], 3)
  else match unqG l.length ((l.drop 1).take (l.length - 2)) with
    | none => ([], 3)
    | some o => if 64 < o.length then ([], 9) else (o, 0)
/-- the place of the closing quotation mark, or the end -/
def closeF : Nat → List UInt8 → Nat
  | 0, _ => 0
  | _ + 1, [] => 0
  | k + 1, c :: t => if c = 34 then 0 else if c = 92 then closeF k (t.drop 1) + 2 else closeF k t + 1
def quotedQ (l : List UInt8) : Wq :=
  if l.length ≤ 1 + closeF l.length (l.drop 1) then wrongQ 3
  else ⟨5, (unqQ (l.take (closeF l.length (l.drop 1) + 2))).1, closeF l.length (l.drop 1) + 2, (unqQ (l.take (closeF l.length (l.drop 1) + 2))).2⟩
/-- symbols, the longer ones first -/
def symsQ : List (List UInt8) := [[61, 61, 61], [33, 61, 61], [61, 61], [33, 61], [60, 61], [62, 61], [38, 38], [124, 124], [45, 62], [60], [62], [33], [126], [38], [124], [94], [43], [45], [40], [41], [91], [93], [123], [125], [44], [58]]
def unitsQ : List (List UInt8) := [[109, 115], [117, 115], [110, 115], [112, 115], [102, 115], [115]]
/-- Quote -/
def figQ (n : Nat) : UInt8 := UInt8.ofNat (if n < 10 then 48 + n else 87 + n)
def quoQ (l : List UInt8) : List UInt8 := 34 :: (l.flatMap fun c => if c = 34 ∨ c = 92 then [92, c] else if c.toNat < 32 ∨ 126 < c.toNat then [92, 120, figQ (c.toNat / 16), figQ (c.toNat % 16)] else [c]) ++ [34]
end Go.Proofs.YtjlpekjfmgcbdaaGreatDoor

/- Contracts of qlex's tests of bytes. -/
set_option linter.unusedVariables false
set_option linter.unusedSimpArgs false
namespace Go.Proofs.YtjlpekjfmgcbdaaGreatDoor
open Go.RowKit Go.Shelf

theorem retQ_b {a b : Bool} (h : a = b) : Ending.returned (.bool b) = .returned (.bool a) := by rw [h]
theorem toNat_neQ {c d : UInt8} (h : c ≠ d) : ((c.toNat : Int) == (d.toNat : Int)) = false := beq_eq_false_iff_ne.2 fun e => h (UInt8.toNat_inj.1 (by omega))
theorem all_bytes {p : UInt8 → Prop} (h : ∀ n : Fin 256, p (UInt8.ofNat n.val)) (c : UInt8) : p c := by
  have := h ⟨c.toNat, c.toNat_lt⟩
  rwa [UInt8.ofNat_toNat] at this
theorem ltQ_low (c : UInt8) : ltQ c = decide (97 ≤ (lowQ c).toNat ∧ (lowQ c).toNat ≤ 122) :=
  all_bytes (p := fun c => ltQ c = decide (97 ≤ (lowQ c).toNat ∧ (lowQ c).toNat ≤ 122)) (by decide +kernel) c
theorem low_or (c : UInt8) : bits .or .u8 (c.toNat : Int) 32 = ((lowQ c).toNat : Int) := by
  have h := u8_or_nat c.toNat 32 c.toNat_lt (by decide)
  unfold lowQ
  rw [UInt8.toNat_or]
  exact h
theorem blankQ_any (c : UInt8) (w : World) : Calls Tryz.prog 78 #[.int .u8 (c.toNat : Int)] w fun e w' => e = .returned (.bool (blQ c)) ∧ w' = w := by
  by_cases h1 : c = 32
  · subst h1
    go_enter Tryz.func78, Tryz.ntmps78
    go_wp2
    go_ret
    exact ⟨rfl, rfl⟩
  · have e1 : ((c.toNat : Int) == 32) = false := toNat_neQ (d := 32) h1
    by_cases h2 : c = 9
    · subst h2
      go_enter Tryz.func78, Tryz.ntmps78
      go_wp2
      go_ret
      exact ⟨rfl, rfl⟩
    · have e2 : ((c.toNat : Int) == 9) = false := toNat_neQ (d := 9) h2
      by_cases h3 : c = 10
      · subst h3
        go_enter Tryz.func78, Tryz.ntmps78
        go_wp2
        go_ret
        exact ⟨rfl, rfl⟩
      · have e3 : ((c.toNat : Int) == 10) = false := toNat_neQ (d := 10) h3
        by_cases h4 : c = 13
        · subst h4
          go_enter Tryz.func78, Tryz.ntmps78
          go_wp2
          go_ret
          exact ⟨rfl, rfl⟩
        · have e4 : ((c.toNat : Int) == 13) = false := toNat_neQ (d := 13) h4
          have HV := hide (show blQ c = false by unfold blQ; simp [h1, h2, h3, h4])
          clear h1 h2 h3 h4
          go_enter Tryz.func78, Tryz.ntmps78
          go_wp2
          go_ret
          exact ⟨retQ_b HV.out, rfl⟩
theorem digitQ_any (c : UInt8) (w : World) : Calls Tryz.prog 32 #[.int .u8 (c.toNat : Int)] w fun e w' => e = .returned (.bool (dgQ c)) ∧ w' = w := by
  by_cases h1 : 48 ≤ c.toNat
  · have e1 : (48 : Int) ≤ (c.toNat : Int) := by omega
    by_cases h2 : c.toNat ≤ 57
    · have e2 : (c.toNat : Int) ≤ 57 := by omega
      have HV := hide (show dgQ c = true from decide_eq_true ⟨h1, h2⟩)
      go_enter Tryz.func32, Tryz.ntmps32
      go_wp2
      go_ret
      exact ⟨retQ_b HV.out, rfl⟩
    · have e2 : ¬ (c.toNat : Int) ≤ 57 := by omega
      have HV := hide (show dgQ c = false from decide_eq_false fun h => h2 h.2)
      go_enter Tryz.func32, Tryz.ntmps32
      go_wp2
      go_ret
      exact ⟨retQ_b HV.out, rfl⟩
  · have e1 : ¬ (48 : Int) ≤ (c.toNat : Int) := by omega
    have HV := hide (show dgQ c = false from decide_eq_false fun h => h1 h.1)
    go_enter Tryz.func32, Tryz.ntmps32
    go_wp2
    go_ret
    exact ⟨retQ_b HV.out, rfl⟩
theorem letterQ_any (c : UInt8) (w : World) : Calls Tryz.prog 61 #[.int .u8 (c.toNat : Int)] w fun e w' => e = .returned (.bool (ltQ c)) ∧ w' = w := by
  have hor := low_or c
  have hlt := ltQ_low c
  by_cases h1 : 97 ≤ (lowQ c).toNat
  · have e1 : (97 : Int) ≤ ((lowQ c).toNat : Int) := by omega
    by_cases h2 : (lowQ c).toNat ≤ 122
    · have e2 : ((lowQ c).toNat : Int) ≤ 122 := by omega
      have HV := hide (show ltQ c = true by rw [hlt]; exact decide_eq_true ⟨h1, h2⟩)
      clear hlt
      go_enter Tryz.func61, Tryz.ntmps61
      go_wp2
      go_ret
      exact ⟨retQ_b HV.out, rfl⟩
    · have e2 : ¬ ((lowQ c).toNat : Int) ≤ 122 := by omega
      have HV := hide (show ltQ c = false by rw [hlt]; exact decide_eq_false fun h => h2 h.2)
      clear hlt
      go_enter Tryz.func61, Tryz.ntmps61
      go_wp2
      go_ret
      exact ⟨retQ_b HV.out, rfl⟩
  · have e1 : ¬ (97 : Int) ≤ ((lowQ c).toNat : Int) := by omega
    have HV := hide (show ltQ c = false by rw [hlt]; exact decide_eq_false fun h => h1 h.1)
    clear hlt
    go_enter Tryz.func61, Tryz.ntmps61
    go_wp2
    go_ret
    exact ⟨retQ_b HV.out, rfl⟩
theorem firstQ_any (c : UInt8) (w : World) : Calls Tryz.prog 80 #[.int .u8 (c.toNat : Int)] w fun e w' => e = .returned (.bool (fiQ c)) ∧ w' = w := by
  have LT := hide (letterQ_any c w)
  cases hl : ltQ c with
  | true =>
    rw [hl] at LT
    have HV := hide (show fiQ c = true by unfold fiQ; rw [hl]; rfl)
    clear hl
    go_enter Tryz.func80, Tryz.ntmps80
    go_wp2_with fail
    refine LT.out.mono ?_
    rintro e w1 ⟨rfl, rfl⟩
    go_wp2
    go_ret
    exact ⟨retQ_b HV.out, rfl⟩
  | false =>
    rw [hl] at LT
    by_cases h : c = 95
    · subst h
      go_enter Tryz.func80, Tryz.ntmps80
      go_wp2_with fail
      refine LT.out.mono ?_
      rintro e w1 ⟨rfl, rfl⟩
      go_wp2
      go_ret
      exact ⟨rfl, rfl⟩
    · have e1 : ((c.toNat : Int) == 95) = false := toNat_neQ (d := 95) h
      have HV := hide (show fiQ c = false by unfold fiQ; rw [hl]; simp [h])
      clear hl h
      go_enter Tryz.func80, Tryz.ntmps80
      go_wp2_with fail
      refine LT.out.mono ?_
      rintro e w1 ⟨rfl, rfl⟩
      go_wp2
      go_ret
      exact ⟨retQ_b HV.out, rfl⟩
theorem insideQ_any (c : UInt8) (w : World) : Calls Tryz.prog 100 #[.int .u8 (c.toNat : Int)] w fun e w' => e = .returned (.bool (inQ c)) ∧ w' = w := by
  have FI := hide (firstQ_any c w)
  have DG := hide (digitQ_any c w)
  cases hl : fiQ c with
  | true =>
    rw [hl] at FI
    have HV := hide (show inQ c = true by unfold inQ; rw [hl]; rfl)
    clear hl
    go_enter Tryz.func100, Tryz.ntmps100
    go_wp2_with fail
    refine FI.out.mono ?_
    rintro e w1 ⟨rfl, rfl⟩
    go_wp2
    go_ret
    exact ⟨retQ_b HV.out, rfl⟩
  | false =>
    rw [hl] at FI
    cases hd : dgQ c with
    | true =>
      rw [hd] at DG
      have HV := hide (show inQ c = true by unfold inQ; rw [hl, hd]; rfl)
      clear hl hd
      go_enter Tryz.func100, Tryz.ntmps100
      go_wp2_with fail
      refine FI.out.mono ?_
      rintro e w1 ⟨rfl, rfl⟩
      go_wp2_with fail
      refine DG.out.mono ?_
      rintro e w1 ⟨rfl, rfl⟩
      go_wp2
      go_ret
      exact ⟨retQ_b HV.out, rfl⟩
    | false =>
      rw [hd] at DG
      by_cases h : c = 36
      · subst h
        go_enter Tryz.func100, Tryz.ntmps100
        go_wp2_with fail
        refine FI.out.mono ?_
        rintro e w1 ⟨rfl, rfl⟩
        go_wp2_with fail
        refine DG.out.mono ?_
        rintro e w1 ⟨rfl, rfl⟩
        go_wp2
        go_ret
        exact ⟨rfl, rfl⟩
      · have e1 : ((c.toNat : Int) == 36) = false := toNat_neQ (d := 36) h
        have HV := hide (show inQ c = false by unfold inQ; rw [hl, hd]; simp [h])
        clear hl hd h
        go_enter Tryz.func100, Tryz.ntmps100
        go_wp2_with fail
        refine FI.out.mono ?_
        rintro e w1 ⟨rfl, rfl⟩
        go_wp2_with fail
        refine DG.out.mono ?_
        rintro e w1 ⟨rfl, rfl⟩
        go_wp2
        go_ret
        exact ⟨retQ_b HV.out, rfl⟩
theorem printedQ_any (c : UInt8) (w : World) : Calls Tryz.prog 101 #[.int .u8 (c.toNat : Int)] w fun e w' => e = .returned (.bool (prQ c)) ∧ w' = w := by
  by_cases h1 : 32 < c.toNat
  · have e1 : (32 : Int) < (c.toNat : Int) := by omega
    by_cases h2 : c.toNat < 127
    · have e2 : (c.toNat : Int) < 127 := by omega
      have HV := hide (show prQ c = true from decide_eq_true ⟨by omega, by omega⟩)
      go_enter Tryz.func101, Tryz.ntmps101
      go_wp2
      go_ret
      exact ⟨retQ_b HV.out, rfl⟩
    · have e2 : ¬ (c.toNat : Int) < 127 := by omega
      have HV := hide (show prQ c = false from decide_eq_false fun h => by omega)
      go_enter Tryz.func101, Tryz.ntmps101
      go_wp2
      go_ret
      exact ⟨retQ_b HV.out, rfl⟩
  · have e1 : ¬ (32 : Int) < (c.toNat : Int) := by omega
    have HV := hide (show prQ c = false from decide_eq_false fun h => by omega)
    go_enter Tryz.func101, Tryz.ntmps101
    go_wp2
    go_ret
    exact ⟨retQ_b HV.out, rfl⟩
end Go.Proofs.YtjlpekjfmgcbdaaGreatDoor

/- Contracts of qlex's hex, unknown, alone, run. -/
set_option linter.unusedVariables false
set_option linter.unusedSimpArgs false
namespace Go.Proofs.YtjlpekjfmgcbdaaGreatDoor
open Go.RowKit Go.Shelf

def bsQ (l : List UInt8) : ByteArray := ⟨l.toArray⟩
theorem bsQ_list (l : List UInt8) : (bsQ l).data.toList = l := rfl
theorem bsQ_of (s : ByteArray) : s = bsQ s.data.toList := rfl
theorem bsQ_size (l : List UInt8) : (bsQ l).size = l.length := by rw [Lib.size_eq, bsQ_list]
theorem bsQ_get (l : List UInt8) (i : Nat) (h : i < (bsQ l).size) : (bsQ l)[i]'h = l[i]'(by rw [← bsQ_size]; exact h) := by
  have := Lib.data_getElem? (bsQ l) i h
  rw [bsQ_list, List.getElem?_eq_getElem (by rw [← bsQ_size]; exact h)] at this
  exact (Option.some.inj this).symm
theorem bsQ_drop (l : List UInt8) (k : Nat) : (bsQ l).extract k (bsQ l).size = bsQ (l.drop k) := by
  apply Go.WideShapes.bytes_inj
  rw [Lib.extract_to_end, bsQ_list, bsQ_list]
theorem bsQ_take (l : List UInt8) (k : Nat) : (bsQ l).extract 0 k = bsQ (l.take k) := by
  apply Go.WideShapes.bytes_inj
  rw [Lib.extract_from_zero, bsQ_list, bsQ_list]
theorem retQ_i {a b : Int} (h : a = b) : Ending.returned (.int .i64 b) = .returned (.int .i64 a) := by rw [h]
theorem hexQ_any (c : UInt8) (w : World) : Calls Tryz.prog 46 #[.int .u8 (c.toNat : Int)] w fun e w' => e = .returned (.int .i64 (hexQ c)) ∧ w' = w := by
  have DG := hide (digitQ_any c w)
  have hor := low_or c
  have hlt := c.toNat_lt
  have hlt2 := (lowQ c).toNat_lt
  cases hd : dgQ c with
  | true =>
    rw [hd] at DG
    have hb : 48 ≤ c.toNat ∧ c.toNat ≤ 57 := of_decide_eq_true hd
    have w1 : IntKind.u8.wrap ((c.toNat : Int) - 48) = (c.toNat : Int) - 48 := by rw [IntKind.wrap_u8]; omega
    have w2 : IntKind.i64.wrap ((c.toNat : Int) - 48) = (c.toNat : Int) - 48 := IntWalk.i64_in _ (by omega)
    have HV := hide (show hexQ c = (c.toNat : Int) - 48 by unfold hexQ; rw [if_pos hd])
    clear hd hb hlt hlt2 hor
    go_enter Tryz.func46, Tryz.ntmps46
    go_wp2_with fail
    refine DG.out.mono ?_
    rintro e w1 ⟨rfl, rfl⟩
    go_wp2
    go_ret
    exact ⟨retQ_i HV.out, rfl⟩
  | false =>
    rw [hd] at DG
    by_cases h1 : 97 ≤ (lowQ c).toNat
    · have e1 : (97 : Int) ≤ ((lowQ c).toNat : Int) := by omega
      by_cases h2 : (lowQ c).toNat ≤ 102
      · have e2 : ((lowQ c).toNat : Int) ≤ 102 := by omega
        have w1 : IntKind.u8.wrap (((lowQ c).toNat : Int) - 97) = ((lowQ c).toNat : Int) - 97 := by rw [IntKind.wrap_u8]; omega
        have w2 : IntKind.i64.wrap (((lowQ c).toNat : Int) - 97) = ((lowQ c).toNat : Int) - 97 := IntWalk.i64_in _ (by omega)
        have w3 : IntKind.i64.wrap (((lowQ c).toNat : Int) - 97 + 10) = ((lowQ c).toNat : Int) - 97 + 10 := IntWalk.i64_in _ (by omega)
        have HV := hide (show hexQ c = ((lowQ c).toNat : Int) - 97 + 10 by unfold hexQ; rw [if_neg (by rw [hd]; decide), if_pos ⟨h1, h2⟩])
        clear hd
        go_enter Tryz.func46, Tryz.ntmps46
        go_wp2_with fail
        refine DG.out.mono ?_
        rintro e w1 ⟨rfl, rfl⟩
        go_wp2
        go_ret
        exact ⟨retQ_i HV.out, rfl⟩
      · have e2 : ¬ ((lowQ c).toNat : Int) ≤ 102 := by omega
        have HV := hide (show hexQ c = -1 by unfold hexQ; rw [if_neg (by rw [hd]; decide), if_neg (fun h => h2 h.2)])
        clear hd
        go_enter Tryz.func46, Tryz.ntmps46
        go_wp2_with fail
        refine DG.out.mono ?_
        rintro e w1 ⟨rfl, rfl⟩
        go_wp2
        go_ret
        exact ⟨retQ_i HV.out, rfl⟩
    · have e1 : ¬ (97 : Int) ≤ ((lowQ c).toNat : Int) := by omega
      have HV := hide (show hexQ c = -1 by unfold hexQ; rw [if_neg (by rw [hd]; decide), if_neg (fun h => h1 h.1)])
      clear hd
      go_enter Tryz.func46, Tryz.ntmps46
      go_wp2_with fail
      refine DG.out.mono ?_
      rintro e w1 ⟨rfl, rfl⟩
      go_wp2
      go_ret
      exact ⟨retQ_i HV.out, rfl⟩
theorem unknownQ_any (c : UInt8) (w : World) : Calls Tryz.prog 34 #[.int .u8 (c.toNat : Int)] w fun e w' => e = .returned (.int .u8 ((unkQ c).toNat : Int)) ∧ w' = w := by
  have hor := low_or c
  by_cases h1 : lowQ c = 120
  · have HV := hide (show unkQ c = 120 by unfold unkQ; rw [if_pos (.inl h1), h1])
    rw [h1] at hor
    clear h1
    go_enter Tryz.func34, Tryz.ntmps34
    go_wp2
    go_ret
    rw [HV.out]
    exact ⟨rfl, rfl⟩
  · by_cases h2 : lowQ c = 122
    · have HV := hide (show unkQ c = 122 by unfold unkQ; rw [if_pos (.inr h2), h2])
      rw [h2] at hor
      clear h1 h2
      go_enter Tryz.func34, Tryz.ntmps34
      go_wp2
      go_ret
      rw [HV.out]
      exact ⟨rfl, rfl⟩
    · have e1 : (((lowQ c).toNat : Int) == 120) = false := toNat_neQ (d := 120) h1
      have e2 : (((lowQ c).toNat : Int) == 122) = false := toNat_neQ (d := 122) h2
      have HV := hide (show unkQ c = 0 by unfold unkQ; rw [if_neg (by rintro (h | h); exact h1 h; exact h2 h)])
      clear h1 h2
      go_enter Tryz.func34, Tryz.ntmps34
      go_wp2
      go_ret
      rw [HV.out]
      exact ⟨rfl, rfl⟩
/-- a function value that tests a byte -/
def Tests (w : World) (f : FuncId) (lb : Array Value) (p : UInt8 → Bool) : Prop :=
  (∀ (W : World) (c : UInt8), Below w.heap.size w W → Calls Tryz.prog f (#[.int .u8 (c.toNat : Int)] ++ lb) W fun e w' => e = .returned (.bool (p c)) ∧ Below W.heap.size W w') ∧ ∀ (W : World) (c : UInt8), (callFunc f (#[.int .u8 (c.toNat : Int)] ++ lb)).run Tryz.prog W = .ok (.enter f (#[.int .u8 (c.toNat : Int)] ++ lb)) W
theorem spn_step {p : UInt8 → Bool} {l : List UInt8} {i : Nat} (h : i < l.length) (hp : p l[i] = true) : i + spn p (l.drop i) = (i + 1) + spn p (l.drop (i + 1)) := by
  rw [List.drop_eq_getElem_cons h, spn_yes hp]; omega
theorem spn_stop {p : UInt8 → Bool} {l : List UInt8} {i : Nat} (h : i < l.length) (hp : p l[i] = false) : i + spn p (l.drop i) = i := by
  rw [List.drop_eq_getElem_cons h, spn_no hp]; rfl
theorem spn_end {p : UInt8 → Bool} {l : List UInt8} {i : Nat} (h : l.length ≤ i) : i + spn p (l.drop i) = i := by
  rw [List.drop_eq_nil_of_le h]; rfl
end Go.Proofs.YtjlpekjfmgcbdaaGreatDoor

/- Contract of qlex's run. -/
set_option linter.unusedVariables false
set_option linter.unusedSimpArgs false
namespace Go.Proofs.YtjlpekjfmgcbdaaGreatDoor
open Go.RowKit Go.Shelf

theorem runQ_any (l : List UInt8) (at0 : Nat) (f : FuncId) (lb : Array Value) (p : UInt8 → Bool) (w : World) (hl : l.length ≤ 1000000) (hat : at0 ≤ 1000000) (hT : Tests w f lb p) :
    Calls Tryz.prog 31 #[.string (bsQ l), .int .i64 (at0 : Int), .func (.func f) #[] lb] w fun e w' => e = .returned (.int .i64 ((at0 + spn p (l.drop at0) : Nat) : Int)) ∧ Below w.heap.size w w' := by
  obtain ⟨R, hR⟩ : ∃ R, at0 + spn p (l.drop at0) = R := ⟨_, rfl⟩
  have HR := hide hR
  have HT := hide hT
  have hz := bsQ_size l
  have hg : ∀ (i : Nat) (h : i < (bsQ l).size) (h2 : i < l.length), (bsQ l)[i]'h = l[i] := fun i h h2 => bsQ_get l i h
  rw [hR]
  clear hT hR
  generalize bsQ l = s at *
  have Hz := hide hz
  have Hg := hide hg
  clear hz hg
  go_enter Tryz.func31, Tryz.ntmps31
  go_wp2_with fail
  go_loopw [1] (fun v wr => ∃ i : Nat, v = .int .i64 (i : Int) ∧ i + spn p (l.drop i) = R ∧ i ≤ 2000000 ∧ Below w.heap.size w wr) (fun v _ => l.length - (intOf v).toNat)
  case atStart => exact ⟨at0, rfl, HR.out, by omega, Below.refl _ _⟩
  case round =>
    obtain ⟨i, rfl, hRi, hi, hb⟩ := hrel
    have Hb := hide hb
    have HRi := hide hRi
    clear hb hRi
    by_cases hlt : i < l.length
    · have hi' : (i : Int) < (s.size : Int) := by have := Hz.out; omega
      have hi0 : (0 : Int) ≤ (i : Int) := by omega
      have his : i < s.size := by have := Hz.out; omega
      have hwi : IntKind.i64.wrap ((i : Int) + 1) = (i : Int) + 1 := IntWalk.i64_in _ (by omega)
      obtain ⟨c, hc⟩ : ∃ c, l[i] = c := ⟨_, rfl⟩
      have hsc : s[i]'his = c := by rw [Hg.out i his hlt]; exact hc
      have HC := hide hc
      have T := hide (HT.out.1 wr c Hb.out)
      have hcall := fun W => HT.out.2 W c
      clear hc
      cases hp : p c with
      | true =>
        rw [hp] at T
        have HS := hide (show (i + 1) + spn p (l.drop (i + 1)) = R by rw [← spn_step hlt (by rw [HC.out]; exact hp)]; exact HRi.out)
        clear hp
        go_wp2_with fail
        refine T.out.mono ?_
        rintro e w1 ⟨rfl, hb1⟩
        have Hb1 := hide (Hb.out.trans (hb1.mono Hb.out.size))
        clear hb1
        go_wp2
        go_roundw
        case rel => exact ⟨i + 1, by go_num, HS.out, by omega, Hb1.out⟩
        case measure => simp [intOf]; omega
      | false =>
        rw [hp] at T
        have HS := hide (show R = i by rw [← HRi.out]; exact spn_stop hlt (by rw [HC.out]; exact hp))
        clear hp
        go_wp2_with fail
        refine T.out.mono ?_
        rintro e w1 ⟨rfl, hb1⟩
        have Hb1 := hide (Hb.out.trans (hb1.mono Hb.out.size))
        clear hb1
        go_wp2
        go_ret
        rw [HS.out]
        exact ⟨rfl, Hb1.out⟩
    · have hi' : ¬ (i : Int) < (s.size : Int) := by have := Hz.out; omega
      have HS := hide (show R = i by rw [← HRi.out]; exact spn_end (by omega))
      go_wp2
      go_ret
      rw [HS.out]
      exact ⟨rfl, Hb.out⟩
end Go.Proofs.YtjlpekjfmgcbdaaGreatDoor

/- Contracts of qlex's skip, alone, exponent. -/
set_option linter.unusedVariables false
set_option linter.unusedSimpArgs false
namespace Go.Proofs.YtjlpekjfmgcbdaaGreatDoor
open Go.RowKit Go.Shelf

theorem callFuncQ_body {P : Program} {f : FuncId} {args : Array Value} (h : (P.funcs[f]?).map (fun fn => (fn.name == "runtime.NumGoroutine", fn.body.isNone)) = some (false, false)) (w : World) :
    (callFunc f args).run P w = .ok (.enter f args) w := by
  cases hf : P.funcs[f]? with
  | none => rw [hf] at h; cases h
  | some fn =>
    rw [hf] at h
    simp only [Option.map_some, Option.some.injEq, Prod.mk.injEq] at h
    have h1 : fn.name ≠ "runtime.NumGoroutine" := by simpa using h.1
    cases hc : fn.body with
    | none => rw [hc] at h; cases h.2
    | some c => simp [callFunc, go_sem, hf, h1, hc]
theorem tests_of {w : World} {f : FuncId} {p : UInt8 → Bool} (h : ∀ (c : UInt8) (W : World), Calls Tryz.prog f #[.int .u8 (c.toNat : Int)] W fun e w' => e = .returned (.bool (p c)) ∧ w' = W)
    (hf : (Tryz.prog.funcs[f]?).map (fun fn => (fn.name == "runtime.NumGoroutine", fn.body.isNone)) = some (false, false)) : Tests w f #[] p :=
  ⟨fun W c _ => by
    rw [Array.append_empty]
    exact (h c W).mono (by rintro e w' ⟨rfl, rfl⟩; exact ⟨rfl, Below.refl _ _⟩), fun W c => callFuncQ_body hf W⟩
theorem skip1_any (c : UInt8) (w : World) : Calls Tryz.prog 79 #[.int .u8 (c.toNat : Int)] w fun e w' => e = .returned (.bool (c != 10)) ∧ w' = w := by
  by_cases h1 : c = 10
  · subst h1
    go_enter Tryz.func79, Tryz.ntmps79
    go_wp2
    go_ret
    exact ⟨rfl, rfl⟩
  · have e1 : ((c.toNat : Int) == 10) = false := toNat_neQ (d := 10) h1
    have e2 : ((c.toNat : Int) != 10) = true := by rw [bne, e1]; rfl
    have HV := hide (show (c != 10) = true by simp [h1])
    clear h1
    go_enter Tryz.func79, Tryz.ntmps79
    go_wp2
    go_ret
    exact ⟨retQ_b HV.out, rfl⟩
theorem runSkip (l : List UInt8) (at0 : Nat) (w : World) (hl : l.length ≤ 1000000) (hat : at0 ≤ 1000000) :
    Calls Tryz.prog 31 #[.string (bsQ l), .int .i64 (at0 : Int), .func (.func 79) #[] #[]] w fun e w' => e = .returned (.int .i64 ((at0 + spn (· != 10) (l.drop at0) : Nat) : Int)) ∧ Below w.heap.size w w' :=
  runQ_any l at0 _ #[] _ w hl hat (tests_of skip1_any (by kernel_rfl))
theorem runDigit (l : List UInt8) (at0 : Nat) (w : World) (hl : l.length ≤ 1000000) (hat : at0 ≤ 1000000) :
    Calls Tryz.prog 31 #[.string (bsQ l), .int .i64 (at0 : Int), .func (.func 32) #[] #[]] w fun e w' => e = .returned (.int .i64 ((at0 + spn dgQ (l.drop at0) : Nat) : Int)) ∧ Below w.heap.size w w' :=
  runQ_any l at0 _ #[] _ w hl hat (tests_of digitQ_any (by kernel_rfl))
theorem runInside (l : List UInt8) (at0 : Nat) (w : World) (hl : l.length ≤ 1000000) (hat : at0 ≤ 1000000) :
    Calls Tryz.prog 31 #[.string (bsQ l), .int .i64 (at0 : Int), .func (.func 100) #[] #[]] w fun e w' => e = .returned (.int .i64 ((at0 + spn inQ (l.drop at0) : Nat) : Int)) ∧ Below w.heap.size w w' :=
  runQ_any l at0 _ #[] _ w hl hat (tests_of insideQ_any (by kernel_rfl))
theorem runPrinted (l : List UInt8) (at0 : Nat) (w : World) (hl : l.length ≤ 1000000) (hat : at0 ≤ 1000000) :
    Calls Tryz.prog 31 #[.string (bsQ l), .int .i64 (at0 : Int), .func (.func 101) #[] #[]] w fun e w' => e = .returned (.int .i64 ((at0 + spn prQ (l.drop at0) : Nat) : Int)) ∧ Below w.heap.size w w' :=
  runQ_any l at0 _ #[] _ w hl hat (tests_of printedQ_any (by kernel_rfl))
theorem skipF_fuel : ∀ (n m : Nat) (l : List UInt8), l.length ≤ n → l.length ≤ m → skipF n l = skipF m l
  | 0, m, l, hn, _ => by
    have : l = [] := List.length_eq_zero_iff.1 (by omega)
    subst this; cases m <;> rfl
  | n + 1, 0, l, _, hm => by
    have : l = [] := List.length_eq_zero_iff.1 (by omega)
    subst this; rfl
  | n + 1, m + 1, l, hn, hm => by
    cases l with
    | nil => rfl
    | cons c t =>
      rw [List.length_cons] at hn hm
      unfold skipF
      rw [skipF_fuel n m t (by omega) (by omega), skipF_fuel n m (t.drop _) (by rw [List.length_drop]; omega) (by rw [List.length_drop]; omega)]
theorem skipQ_nil : skipQ [] = 0 := rfl
theorem skipQ_blank {c : UInt8} {t : List UInt8} (h : blQ c = true) : skipQ (c :: t) = skipQ t + 1 := by
  unfold skipQ
  rw [List.length_cons]
  conv => lhs; unfold skipF
  rw [if_pos h]
theorem skipQ_hash {t : List UInt8} : skipQ (35 :: t) = skipQ (t.drop (spn (· != 10) t)) + spn (· != 10) t + 1 := by
  unfold skipQ
  rw [List.length_cons]
  conv => lhs; unfold skipF
  rw [if_neg (by decide), if_pos rfl, skipF_fuel t.length (t.drop (spn (· != 10) t)).length _ (by rw [List.length_drop]; omega) (Nat.le_refl _)]
theorem skipQ_stop {c : UInt8} {t : List UInt8} (h : blQ c = false) (h2 : c ≠ 35) : skipQ (c :: t) = 0 := by
  unfold skipQ
  rw [List.length_cons]
  unfold skipF
  rw [if_neg (by rw [h]; decide), if_neg h2]
theorem skipQ_any (l : List UInt8) (at0 : Nat) (w : World) (hl : l.length ≤ 100000) (hat : at0 ≤ 100000) :
    Calls Tryz.prog 55 #[.string (bsQ l), .int .i64 (at0 : Int)] w fun e w' => e = .returned (.int .i64 ((at0 + skipQ (l.drop at0) : Nat) : Int)) ∧ Below w.heap.size w w' := by
  obtain ⟨R, hR⟩ : ∃ R, at0 + skipQ (l.drop at0) = R := ⟨_, rfl⟩
  have HR := hide hR
  have RS := hide (fun (i : Nat) (W : World) (h : i ≤ 1000000) => runSkip l i W (by omega) h)
  have hz := bsQ_size l
  have hg : ∀ (i : Nat) (h : i < (bsQ l).size) (h2 : i < l.length), (bsQ l)[i]'h = l[i] := fun i h h2 => bsQ_get l i h
  rw [hR]
  clear hR
  generalize bsQ l = s at *
  have Hz := hide hz
  have Hg := hide hg
  clear hz hg
  go_enter Tryz.func55, Tryz.ntmps55
  go_wp2_with fail
  go_loopw [1] (fun v wr => ∃ i : Nat, v = .int .i64 (i : Int) ∧ i + skipQ (l.drop i) = R ∧ i ≤ 100000 ∧ Below w.heap.size w wr) (fun v _ => l.length - (intOf v).toNat)
  case atStart => exact ⟨at0, rfl, HR.out, hat, Below.refl _ _⟩
  case round =>
    obtain ⟨i, rfl, hRi, hi, hb⟩ := hrel
    have Hb := hide hb
    have HRi := hide hRi
    clear hb hRi
    by_cases hlt : i < l.length
    · have hi' : (i : Int) < (s.size : Int) := by have := Hz.out; omega
      have hi0 : (0 : Int) ≤ (i : Int) := by omega
      have his : i < s.size := by have := Hz.out; omega
      have hwi : IntKind.i64.wrap ((i : Int) + 1) = (i : Int) + 1 := IntWalk.i64_in _ (by omega)
      obtain ⟨c, hc⟩ : ∃ c, l[i] = c := ⟨_, rfl⟩
      have hsc : s[i]'his = c := by rw [Hg.out i his hlt]; exact hc
      have hdr : l.drop i = c :: l.drop (i + 1) := by rw [List.drop_eq_getElem_cons hlt, hc]
      have HD := hide hdr
      have BL := hide (blankQ_any c wr)
      clear hc hdr
      cases hbl : blQ c with
      | true =>
        rw [hbl] at BL
        have HS := hide (show (i + 1) + skipQ (l.drop (i + 1)) = R by have := HRi.out; rw [HD.out, skipQ_blank hbl] at this; omega)
        clear hbl
        go_wp2_with fail
        refine BL.out.mono ?_
        rintro e wr ⟨rfl, rfl⟩
        go_wp2
        go_roundw
        case rel => exact ⟨i + 1, by go_num, HS.out, by omega, Hb.out⟩
        case measure => simp [intOf]; omega
      | false =>
        rw [hbl] at BL
        by_cases h35 : c = 35
        · subst h35
          have hsp := spn_le (· != 10) (l.drop (i + 1))
          rw [List.length_drop] at hsp
          have hy : spn (· != 10) (l.drop i) = spn (· != 10) (l.drop (i + 1)) + 1 := by rw [HD.out]; exact spn_yes (by decide)
          have HS := hide (show (i + spn (· != 10) (l.drop i)) + skipQ (l.drop (i + spn (· != 10) (l.drop i))) = R by
            have := HRi.out
            rw [HD.out, skipQ_hash, List.drop_drop] at this
            rw [hy, show i + (spn (· != 10) (l.drop (i + 1)) + 1) = i + 1 + spn (· != 10) (l.drop (i + 1)) by omega]
            omega)
          have RSi := hide (RS.out i wr (by omega))
          have Hy := hide hy
          generalize spn (· != 10) (l.drop i) = n at *
          have Hn := hide (show n = spn (· != 10) (l.drop (i + 1)) + 1 from Hy.out)
          have hn1 : 1 ≤ n ∧ i + n ≤ l.length := by have := Hn.out; omega
          clear hbl hy hsp
          go_wp2_with fail
          refine BL.out.mono ?_
          rintro e wr ⟨rfl, rfl⟩
          go_wp2_with fail
          refine RSi.out.mono ?_
          rintro e w2 ⟨rfl, hb2⟩
          have Hb2 := hide (Hb.out.trans (hb2.mono Hb.out.size))
          clear hb2
          go_wp2
          go_roundw
          case rel => exact ⟨i + n, rfl, HS.out, by omega, Hb2.out⟩
          case measure => simp [intOf]; omega
        · have e35 : ((c.toNat : Int) == 35) = false := toNat_neQ (d := 35) h35
          have HS := hide (show R = i by have := HRi.out; rw [HD.out, skipQ_stop hbl h35] at this; omega)
          clear hbl h35
          go_wp2_with fail
          refine BL.out.mono ?_
          rintro e wr ⟨rfl, rfl⟩
          go_wp2
          go_ret
          rw [HS.out]
          exact ⟨rfl, Hb.out⟩
    · have hi' : ¬ (i : Int) < (s.size : Int) := by have := Hz.out; omega
      have HS := hide (show R = i by have := HRi.out; rw [List.drop_eq_nil_of_le (by omega), skipQ_nil] at this; omega)
      go_wp2
      go_ret
      rw [HS.out]
      exact ⟨rfl, Hb.out⟩
theorem aloneQ_any (l : List UInt8) (n : Nat) (w : World) (hl : l.length ≤ 1000000) (hn : n ≤ 1000000) :
    Calls Tryz.prog 102 #[.string (bsQ l), .int .i64 (n : Int)] w fun e w' => e = .returned (.bool (aloneQ l n)) ∧ w' = w := by
  have hz := bsQ_size l
  by_cases hlt : n < l.length
  · have hi' : ¬ ((bsQ l).size : Int) ≤ (n : Int) := by rw [hz]; omega
    have hi2 : (n : Int) < ((bsQ l).size : Int) := by rw [hz]; omega
    have his : n < (bsQ l).size := by omega
    have hi0 : (0 : Int) ≤ (n : Int) := by omega
    obtain ⟨c, hc⟩ : ∃ c, l[n]'hlt = c := ⟨_, rfl⟩
    have hsc : (bsQ l)[n]'his = c := by rw [bsQ_get]; exact hc
    have hdr : l.drop n = c :: l.drop (n + 1) := by rw [List.drop_eq_getElem_cons hlt, hc]
    have hal : aloneQ l n = (!inQ c && c != 39) := by unfold aloneQ; rw [hdr]
    have IN := hide (insideQ_any c w)
    have HV := hide hal
    generalize bsQ l = s at *
    clear hal hc hz hdr
    cases hin : inQ c with
    | true =>
      rw [hin] at IN
      have HW := hide (show aloneQ l n = false by rw [HV.out, hin]; rfl)
      clear hin
      go_enter Tryz.func102, Tryz.ntmps102
      go_wp2_with fail
      refine IN.out.mono ?_
      rintro e w1 ⟨rfl, rfl⟩
      go_wp2
      go_ret
      exact ⟨retQ_b HW.out, rfl⟩
    | false =>
      rw [hin] at IN
      by_cases h39 : c = 39
      · subst h39
        have HW := hide (show aloneQ l n = false by rw [HV.out, hin]; rfl)
        clear hin
        go_enter Tryz.func102, Tryz.ntmps102
        go_wp2_with fail
        refine IN.out.mono ?_
        rintro e w1 ⟨rfl, rfl⟩
        go_wp2
        go_ret
        exact ⟨retQ_b HW.out, rfl⟩
      · have e1 : ((c.toNat : Int) == 39) = false := toNat_neQ (d := 39) h39
        have e2 : ((c.toNat : Int) != 39) = true := by rw [bne, e1]; rfl
        have HW := hide (show aloneQ l n = true by rw [HV.out, hin]; simp [h39])
        clear hin h39
        go_enter Tryz.func102, Tryz.ntmps102
        go_wp2_with fail
        refine IN.out.mono ?_
        rintro e w1 ⟨rfl, rfl⟩
        go_wp2
        go_ret
        exact ⟨retQ_b HW.out, rfl⟩
  · have hi' : ((bsQ l).size : Int) ≤ (n : Int) := by rw [hz]; omega
    have HW := hide (show aloneQ l n = true by unfold aloneQ; rw [List.drop_eq_nil_of_le (by omega)])
    generalize bsQ l = s at *
    clear hz
    go_enter Tryz.func102, Tryz.ntmps102
    go_wp2
    go_ret
    exact ⟨retQ_b HW.out, rfl⟩
end Go.Proofs.YtjlpekjfmgcbdaaGreatDoor

/- Contracts of qlex's found, wrong, exponent. -/
set_option linter.unusedVariables false
set_option linter.unusedSimpArgs false
namespace Go
open Go.RowKit
theorem results_cellQ {P : Program} {fn : Func} {p : Tmp} {ty : TypeId} (h : fn.results = #[.cell p ty]) (tmps : Array Value) (w : World) (g : Nat) (t : TypeId) (cs : Array Value) (fr : Nat × Nat) (d : TypeDesc)
    (hp : tmps.getD p undef = .pointer (some ⟨g, 0, none⟩)) (hg : w.heap[g]? = some (.cells cs t fr))
    (hu : P.underlying ty = some d) (hd : (match d with | .struct _ | .array _ _ => true | _ => false) = true) (hi : (P.info? ty).map (·.size) = some cs.size) :
    (results fn tmps).run P w = .ok (.agg cs) w := by
  have hp' : tmps[p]?.getD undef = .pointer (some ⟨g, 0, none⟩) := by simpa using hp
  have e : (results fn tmps).run P w = ((asAddr (tmps.getD p undef)).run P w).andThen fun a w₁ => (loadVar ty a).run P w₁ := by
    simp only [results, h]
    simp [Sem.run_bind, Result.andThen]
  rw [e]
  simp [hp', asAddr, Result.andThen, run_loadVar_row w g t ty cs fr d hg hu hd hi]
end Go
namespace Go.Proofs.YtjlpekjfmgcbdaaGreatDoor
open Go.RowKit Go.Shelf

/-- a word as a value -/
def wordV (x : Wq) : Value := .agg #[.int .i64 x.kind, .string (bsQ x.text), .int .i64 0, .int .i64 x.size, .int .i64 x.err]
theorem wrongQ_any (er : Int) (w : World) : Calls Tryz.prog 86 #[.int .i64 er] w fun e w' => e = .returned (wordV (wrongQ er)) ∧ Below w.heap.size w w' := by
  go_enter Tryz.func86, Tryz.ntmps86
  go_wp2
  exact bodyPost_ret (v := wordV (wrongQ er)) (results_cellQ rfl _ _ w.heap.size 44 _ _ _ rfl (World.alloc_heap_new w _) Tryz.underlying44 rfl (by kernel_rfl)) rfl ⟨rfl, (Below.refl _ _).alloc (Nat.le_refl _) _⟩
theorem foundQ_any (k n : Int) (t : List UInt8) (w : World) : Calls Tryz.prog 85 #[.int .i64 k, .string (bsQ t), .int .i64 n] w fun e w' => e = .returned (.agg #[.int .i64 k, .string (bsQ t), .int .i64 0, .int .i64 n, .int .i64 0]) ∧ Below w.heap.size w w' := by
  generalize bsQ t = s
  go_enter Tryz.func85, Tryz.ntmps85
  go_wp2
  exact bodyPost_ret (v := .agg #[.int .i64 k, .string s, .int .i64 0, .int .i64 n, .int .i64 0]) (results_cellQ rfl _ _ w.heap.size 44 _ _ _ rfl (World.alloc_heap_new w _) Tryz.underlying44 rfl (by kernel_rfl)) rfl ⟨rfl, (Below.refl _ _).alloc (Nat.le_refl _) _⟩
theorem expQ_nil {l : List UInt8} {n : Nat} (h : l.length ≤ n) : expQ l n = n := by unfold expQ; rw [List.drop_eq_nil_of_le h]
theorem expQ_no {l : List UInt8} {n : Nat} (h : n < l.length) (hc : lowQ l[n] ≠ 101) : expQ l n = n := by
  unfold expQ; rw [List.drop_eq_getElem_cons h]
  simp only
  rw [if_neg hc]
theorem expQ_yes {l : List UInt8} {n : Nat} (h : n < l.length) (hc : lowQ l[n] = 101) (m : Nat) (hm : m = if (l.drop (n + 1)).head? = some 43 ∨ (l.drop (n + 1)).head? = some 45 then n + 2 else n + 1) :
    expQ l n = if 0 < spn dgQ (l.drop m) then m + spn dgQ (l.drop m) else n := by
  unfold expQ; rw [List.drop_eq_getElem_cons h]
  simp only
  rw [if_pos hc, ← hm]
theorem exponentQ_any (l : List UInt8) (n : Nat) (w : World) (hl : l.length ≤ 100000) (hn : n ≤ 100000) :
    Calls Tryz.prog 103 #[.string (bsQ l), .int .i64 (n : Int)] w fun e w' => e = .returned (.int .i64 ((expQ l n : Nat) : Int)) ∧ Below w.heap.size w w' := by
  have hz := bsQ_size l
  by_cases hlt : n < l.length
  · have hi' : ¬ ((bsQ l).size : Int) ≤ (n : Int) := by rw [hz]; omega
    have hi2 : (n : Int) < ((bsQ l).size : Int) := by rw [hz]; omega
    have his : n < (bsQ l).size := by omega
    have hi0 : (0 : Int) ≤ (n : Int) := by omega
    obtain ⟨c, hc⟩ : ∃ c, l[n]'hlt = c := ⟨_, rfl⟩
    have hsc : (bsQ l)[n]'his = c := by rw [bsQ_get]; exact hc
    have hor := low_or c
    by_cases h101 : lowQ c = 101
    · rw [h101] at hor
      have hw1 : IntKind.i64.wrap ((n : Int) + 1) = (n : Int) + 1 := IntWalk.i64_in _ (by omega)
      have hw2 : IntKind.i64.wrap ((n : Int) + 1 + 1) = (n : Int) + 1 + 1 := IntWalk.i64_in _ (by omega)
      have hex := fun m hm => expQ_yes hlt (by rw [hc]; exact h101) m hm
      -- the place behind the sign
      have ways : (l.length ≤ n + 1 ∧ (l.drop (n + 1)).head? = none) ∨ ∃ h : n + 1 < l.length, (l.drop (n + 1)).head? = some (l[n + 1]'h) := by
        by_cases h : n + 1 < l.length
        · exact .inr ⟨h, by rw [List.drop_eq_getElem_cons h]; rfl⟩
        · exact .inl ⟨by omega, by rw [List.drop_eq_nil_of_le (by omega)]; rfl⟩
      have RD := hide (fun (i : Nat) (W : World) (h : i ≤ 1000000) => runDigit l i W (by omega) h)
      rcases ways with ⟨h1, h2⟩ | ⟨h1, h2⟩
      · have hq1 : ¬ (n : Int) + 1 < ((bsQ l).size : Int) := by rw [hz]; omega
        have hm : expQ l n = if 0 < spn dgQ (l.drop (n + 1)) then n + 1 + spn dgQ (l.drop (n + 1)) else n := hex (n + 1) (by rw [h2]; simp)
        have RDm := hide (show Calls Tryz.prog 31 #[.string (bsQ l), .int .i64 ((n : Int) + 1), .func (.func 32) #[] #[]] w fun e w' => e = .returned (.int .i64 ((n + 1 + spn dgQ (l.drop (n + 1)) : Nat) : Int)) ∧ Below w.heap.size w w' by
          have := RD.out (n + 1) w (by omega)
          rwa [show ((n + 1 : Nat) : Int) = (n : Int) + 1 by omega] at this)
        obtain ⟨E, hE⟩ : ∃ E, n + 1 + spn dgQ (l.drop (n + 1)) = E := ⟨_, rfl⟩
        have HV := hide hm
        have HE := hide hE
        rw [hE] at RDm HV
        generalize bsQ l = s at *
        clear hex hm hc h101 hz RD hE
        by_cases hsp : 0 < spn dgQ (l.drop (n + 1))
        · have hgt : (n : Int) + 1 < (E : Int) := by have := HE.out; omega
          have HW := hide (show expQ l n = E by rw [HV.out, if_pos hsp])
          clear hsp
          go_enter Tryz.func103, Tryz.ntmps103
          go_wp2_with fail
          refine RDm.out.mono ?_
          rintro e w1 ⟨rfl, hb⟩
          have Hb := hide hb
          clear hb
          go_wp2
          go_ret
          rw [HW.out]
          exact ⟨rfl, Hb.out⟩
        · have hgt : ¬ (n : Int) + 1 < (E : Int) := by have := HE.out; omega
          have HW := hide (show expQ l n = n by rw [HV.out, if_neg hsp])
          clear hsp
          go_enter Tryz.func103, Tryz.ntmps103
          go_wp2_with fail
          refine RDm.out.mono ?_
          rintro e w1 ⟨rfl, hb⟩
          have Hb := hide hb
          clear hb
          go_wp2
          go_ret
          rw [HW.out]
          exact ⟨rfl, Hb.out⟩
      · have hq1 : (n : Int) + 1 < ((bsQ l).size : Int) := by rw [hz]; omega
        have hq0 : (0 : Int) ≤ (n : Int) + 1 := by omega
        have hqn : ((n : Int) + 1).toNat = n + 1 := by omega
        have his1 : n + 1 < (bsQ l).size := by omega
        obtain ⟨d, hd⟩ : ∃ d, l[n + 1]'h1 = d := ⟨_, rfl⟩
        have hsd : (bsQ l)[n + 1]'his1 = d := by rw [bsQ_get]; exact hd
        rw [hd] at h2
        clear hd
        by_cases h43 : d = 43
        · subst h43
          have hm : expQ l n = if 0 < spn dgQ (l.drop (n + 2)) then n + 2 + spn dgQ (l.drop (n + 2)) else n := hex (n + 2) (by rw [h2]; simp)
          have RDm := hide (show Calls Tryz.prog 31 #[.string (bsQ l), .int .i64 ((n : Int) + 1 + 1), .func (.func 32) #[] #[]] w fun e w' => e = .returned (.int .i64 ((n + 2 + spn dgQ (l.drop (n + 2)) : Nat) : Int)) ∧ Below w.heap.size w w' by
            have := RD.out (n + 2) w (by omega)
            rwa [show ((n + 2 : Nat) : Int) = (n : Int) + 1 + 1 by omega] at this)
          obtain ⟨E, hE⟩ : ∃ E, n + 2 + spn dgQ (l.drop (n + 2)) = E := ⟨_, rfl⟩
          have HV := hide hm
          have HE := hide hE
          rw [hE] at RDm HV
          generalize bsQ l = s at *
          clear hex hm hc h101 hz RD hE
          by_cases hsp : 0 < spn dgQ (l.drop (n + 2))
          · have hgt : (n : Int) + 1 + 1 < (E : Int) := by have := HE.out; omega
            have HW := hide (show expQ l n = E by rw [HV.out, if_pos hsp])
            clear hsp
            go_enter Tryz.func103, Tryz.ntmps103
            go_wp2_with fail
            refine RDm.out.mono ?_
            rintro e w1 ⟨rfl, hb⟩
            have Hb := hide hb
            clear hb
            go_wp2
            go_ret
            rw [HW.out]
            exact ⟨rfl, Hb.out⟩
          · have hgt : ¬ (n : Int) + 1 + 1 < (E : Int) := by have := HE.out; omega
            have HW := hide (show expQ l n = n by rw [HV.out, if_neg hsp])
            clear hsp
            go_enter Tryz.func103, Tryz.ntmps103
            go_wp2_with fail
            refine RDm.out.mono ?_
            rintro e w1 ⟨rfl, hb⟩
            have Hb := hide hb
            clear hb
            go_wp2
            go_ret
            rw [HW.out]
            exact ⟨rfl, Hb.out⟩
        · by_cases h45 : d = 45
          · subst h45
            have hm : expQ l n = if 0 < spn dgQ (l.drop (n + 2)) then n + 2 + spn dgQ (l.drop (n + 2)) else n := hex (n + 2) (by rw [h2]; simp)
            have RDm := hide (show Calls Tryz.prog 31 #[.string (bsQ l), .int .i64 ((n : Int) + 1 + 1), .func (.func 32) #[] #[]] w fun e w' => e = .returned (.int .i64 ((n + 2 + spn dgQ (l.drop (n + 2)) : Nat) : Int)) ∧ Below w.heap.size w w' by
              have := RD.out (n + 2) w (by omega)
              rwa [show ((n + 2 : Nat) : Int) = (n : Int) + 1 + 1 by omega] at this)
            obtain ⟨E, hE⟩ : ∃ E, n + 2 + spn dgQ (l.drop (n + 2)) = E := ⟨_, rfl⟩
            have HV := hide hm
            have HE := hide hE
            rw [hE] at RDm HV
            generalize bsQ l = s at *
            clear hex hm hc h101 hz RD hE
            by_cases hsp : 0 < spn dgQ (l.drop (n + 2))
            · have hgt : (n : Int) + 1 + 1 < (E : Int) := by have := HE.out; omega
              have HW := hide (show expQ l n = E by rw [HV.out, if_pos hsp])
              clear hsp
              go_enter Tryz.func103, Tryz.ntmps103
              go_wp2_with fail
              refine RDm.out.mono ?_
              rintro e w1 ⟨rfl, hb⟩
              have Hb := hide hb
              clear hb
              go_wp2
              go_ret
              rw [HW.out]
              exact ⟨rfl, Hb.out⟩
            · have hgt : ¬ (n : Int) + 1 + 1 < (E : Int) := by have := HE.out; omega
              have HW := hide (show expQ l n = n by rw [HV.out, if_neg hsp])
              clear hsp
              go_enter Tryz.func103, Tryz.ntmps103
              go_wp2_with fail
              refine RDm.out.mono ?_
              rintro e w1 ⟨rfl, hb⟩
              have Hb := hide hb
              clear hb
              go_wp2
              go_ret
              rw [HW.out]
              exact ⟨rfl, Hb.out⟩
          · have e43 : ((d.toNat : Int) == 43) = false := toNat_neQ (d := 43) h43
            have e45 : ((d.toNat : Int) == 45) = false := toNat_neQ (d := 45) h45
            have hm : expQ l n = if 0 < spn dgQ (l.drop (n + 1)) then n + 1 + spn dgQ (l.drop (n + 1)) else n := hex (n + 1) (by rw [h2]; simp [h43, h45])
            have RDm := hide (show Calls Tryz.prog 31 #[.string (bsQ l), .int .i64 ((n : Int) + 1), .func (.func 32) #[] #[]] w fun e w' => e = .returned (.int .i64 ((n + 1 + spn dgQ (l.drop (n + 1)) : Nat) : Int)) ∧ Below w.heap.size w w' by
              have := RD.out (n + 1) w (by omega)
              rwa [show ((n + 1 : Nat) : Int) = (n : Int) + 1 by omega] at this)
            obtain ⟨E, hE⟩ : ∃ E, n + 1 + spn dgQ (l.drop (n + 1)) = E := ⟨_, rfl⟩
            have HV := hide hm
            have HE := hide hE
            rw [hE] at RDm HV
            generalize bsQ l = s at *
            clear hex hm hc h101 hz RD hE
            by_cases hsp : 0 < spn dgQ (l.drop (n + 1))
            · have hgt : (n : Int) + 1 < (E : Int) := by have := HE.out; omega
              have HW := hide (show expQ l n = E by rw [HV.out, if_pos hsp])
              clear hsp
              go_enter Tryz.func103, Tryz.ntmps103
              go_wp2_with fail
              refine RDm.out.mono ?_
              rintro e w1 ⟨rfl, hb⟩
              have Hb := hide hb
              clear hb
              go_wp2
              go_ret
              rw [HW.out]
              exact ⟨rfl, Hb.out⟩
            · have hgt : ¬ (n : Int) + 1 < (E : Int) := by have := HE.out; omega
              have HW := hide (show expQ l n = n by rw [HV.out, if_neg hsp])
              clear hsp
              go_enter Tryz.func103, Tryz.ntmps103
              go_wp2_with fail
              refine RDm.out.mono ?_
              rintro e w1 ⟨rfl, hb⟩
              have Hb := hide hb
              clear hb
              go_wp2
              go_ret
              rw [HW.out]
              exact ⟨rfl, Hb.out⟩
    · have e1 : (((lowQ c).toNat : Int) == 101) = false := toNat_neQ (d := 101) h101
      have e2 : (((lowQ c).toNat : Int) != 101) = true := by rw [bne, e1]; rfl
      have HV := hide (expQ_no hlt (by rw [hc]; exact h101))
      generalize bsQ l = s at *
      clear hc h101 hz
      go_enter Tryz.func103, Tryz.ntmps103
      go_wp2
      go_ret
      rw [HV.out]
      exact ⟨rfl, Below.refl _ _⟩
  · have hi' : ((bsQ l).size : Int) ≤ (n : Int) := by rw [hz]; omega
    have HV := hide (expQ_nil (Nat.le_of_not_lt hlt))
    generalize bsQ l = s at *
    clear hz
    go_enter Tryz.func103, Tryz.ntmps103
    go_wp2
    go_ret
    rw [HV.out]
    exact ⟨rfl, Below.refl _ _⟩
end Go.Proofs.YtjlpekjfmgcbdaaGreatDoor

/- Contract of qlex's path. -/
set_option linter.unusedVariables false
set_option linter.unusedSimpArgs false
namespace Go.Proofs.YtjlpekjfmgcbdaaGreatDoor
open Go.RowKit Go.Shelf

theorem segQ_len {l : List UInt8} {p : List UInt8 × Nat} (h : segQ l = some p) : 1 ≤ p.2 ∧ p.2 ≤ l.length := by
  cases l with
  | nil => cases h
  | cons c r =>
    rw [segQ] at h
    split at h
    · rename_i hf
      cases h
      have h1 : spn inQ (c :: r) = spn inQ r + 1 := spn_yes (by unfold inQ; rw [hf]; rfl)
      have h2 := spn_le inQ (c :: r)
      exact ⟨by show 1 ≤ spn inQ (c :: r); omega, h2⟩
    · split at h
      · split at h
        · cases h
        · rename_i hn
          have h2 := spn_le prQ r
          split at h
          · cases h
            exact ⟨by show 1 ≤ r.length + 1; omega, Nat.le_refl _⟩
          · rename_i d r2 hd
            split at h
            · cases h
              have := congrArg List.length hd
              rw [List.length_drop, List.length_cons] at this
              exact ⟨by show 1 ≤ spn prQ r + 2; omega, by show spn prQ r + 2 ≤ r.length + 1; omega⟩
            · cases h
      · cases h
theorem pathF_fuel : ∀ (n m : Nat) (l : List UInt8), l.length < n → l.length < m → pathF n l = pathF m l
  | 0, m, l, h, _ => absurd h (by omega)
  | n + 1, 0, l, _, h => absurd h (by omega)
  | n + 1, m + 1, l, hn, hm => by
    unfold pathF
    cases hs : segQ l with
    | none => rfl
    | some p =>
      obtain ⟨h1, h2⟩ := segQ_len hs
      simp only [Option.bind_some]
      split
      · rename_i hh
        have hlt : p.2 < l.length := by
          rcases Nat.lt_or_ge p.2 l.length with h | h
          · exact h
          · rw [List.drop_eq_nil_of_le h] at hh; cases hh
        rw [pathF_fuel n m (l.drop (p.2 + 1)) (by rw [List.length_drop]; omega) (by rw [List.length_drop]; omega)]
      · rfl
def pathW (R : Option (List UInt8 × Nat)) : Wq := match R with | some p => foundQ 0 p.1 p.2 | none => wrongQ 3
def pathR (l : List UInt8) : Option (List UInt8 × Nat) := pathF (l.length + 1) l
theorem pathR_step (l : List UInt8) : pathR l = (segQ l).bind fun p => if (l.drop p.2).head? = some 46 then (pathR (l.drop (p.2 + 1))).map fun q => (p.1 ++ 46 :: q.1, p.2 + 1 + q.2) else some p := by
  unfold pathR
  conv => lhs; unfold pathF
  cases hs : segQ l with
  | none => rfl
  | some p =>
    obtain ⟨h1, h2⟩ := segQ_len hs
    simp only [Option.bind_some]
    split
    · rename_i hh
      have hlt : p.2 < l.length := by
        rcases Nat.lt_or_ge p.2 l.length with h | h
        · exact h
        · rw [List.drop_eq_nil_of_le h] at hh; cases hh
      rw [pathF_fuel l.length ((l.drop (p.2 + 1)).length + 1) (l.drop (p.2 + 1)) (by rw [List.length_drop]; omega) (by omega)]
    · rfl
theorem catQ {P : Program} (a b : List UInt8) (h : a.length + b.length ≤ 70368744177664) (w : World) : (Op.stringOp .add (bsQ a) (bsQ b)).run P w = .ok (.string (bsQ (a ++ b))) w := by
  rw [run_string_add_sum w _ _ (by rw [bsQ_size, bsQ_size]; omega)]
  congr 2
theorem bsQ_mid (l : List UInt8) (i j : Nat) : (bsQ l).extract i j = bsQ ((l.drop i).take (j - i)) := by
  apply ByteArray.ext
  apply Array.toList_inj.1
  rw [Lib.extract_data]
  rfl
theorem wrongQ_any' (er : Int) (w : World) : Calls Tryz.prog 86 #[.int .i64 er] w fun e w' => e = .returned (.agg #[.int .i64 0, .string ⟨#[]⟩, .int .i64 0, .int .i64 0, .int .i64 er]) ∧ Below w.heap.size w w' := wrongQ_any er w
/-- a result's cells, not written yet -/
abbrev ZW (W : World) (g : Nat) : Prop := Row W g 44 #[.int .i64 0, .string ⟨#[]⟩, .int .i64 0, .int .i64 0, .int .i64 0]
theorem ZW.put {W : World} {g : Nat} (h : ZW W g) (a b c d e : Value) : Row (((((W.setCell ⟨g, 0, none⟩ a).setCell ⟨g, 1, none⟩ b).setCell ⟨g, 2, none⟩ c).setCell ⟨g, 3, none⟩ d).setCell ⟨g, 4, none⟩ e) g 44 #[a, b, c, d, e] :=
  ((((h.set_ 0 a).set_ 1 b).set_ 2 c).set_ 3 d).set_ 4 e
theorem below5 {W V : World} {B g : Nat} (hb : Below B W V) (hg : B ≤ g) (a b c d e : Value) : Below B W (((((V.setCell ⟨g, 0, none⟩ a).setCell ⟨g, 1, none⟩ b).setCell ⟨g, 2, none⟩ c).setCell ⟨g, 3, none⟩ d).setCell ⟨g, 4, none⟩ e) :=
  ((((hb.setCell (p := ⟨g, 0, none⟩) hg a).setCell (p := ⟨g, 1, none⟩) hg b).setCell (p := ⟨g, 2, none⟩) hg c).setCell (p := ⟨g, 3, none⟩) hg d).setCell (p := ⟨g, 4, none⟩) hg e
theorem path_next {l T seg : List UInt8} {a n : Nat} {R : Option (List UInt8 × Nat)} (hR : R = (pathR (l.drop a)).map fun q => (T ++ q.1, a + q.2)) (hs : segQ (l.drop a) = some (seg, n)) :
    R = if (l.drop (a + n)).head? = some 46 then (pathR (l.drop (a + n + 1))).map (fun q => ((T ++ seg ++ [46]) ++ q.1, (a + n + 1) + q.2)) else some (T ++ seg, a + n) := by
  rw [hR, pathR_step, hs]
  simp only [Option.bind_some, List.drop_drop]
  split
  · rw [show a + (n + 1) = a + n + 1 by omega]
    cases pathR (l.drop (a + n + 1)) with
    | none => rfl
    | some q =>
      simp only [Option.map_some]
      rw [show T ++ (seg ++ 46 :: q.1) = T ++ seg ++ [46] ++ q.1 by simp, show a + (n + 1 + q.2) = a + n + 1 + q.2 by omega]
  · rfl
set_option maxRecDepth 20000 in
set_option maxHeartbeats 8000000 in
theorem pathQ_any (l : List UInt8) (w : World) (hl : l.length ≤ 50000) :
    Calls Tryz.prog 81 #[.string (bsQ l)] w fun e w' => e = .returned (wordV (pathQ l)) ∧ Below w.heap.size w w' := by
  have hz := bsQ_size l
  have hg : ∀ (i : Nat) (h : i < (bsQ l).size) (h2 : i < l.length), (bsQ l)[i]'h = l[i] := fun i h h2 => bsQ_get l i h
  have hx : ∀ i j, (bsQ l).extract i j = bsQ ((l.drop i).take (j - i)) := bsQ_mid l
  have RI := hide (fun (i : Nat) (W : World) (h : i ≤ 1000000) => runInside l i W (by omega) h)
  have RP := hide (fun (i : Nat) (W : World) (h : i ≤ 1000000) => runPrinted l i W (by omega) h)
  obtain ⟨R, hR⟩ : ∃ R, pathR l = R := ⟨_, rfl⟩
  have hpq : pathQ l = pathW R := by rw [← hR]; rfl
  have HR := hide hR
  have HPQ := hide hpq
  clear hR hpq
  generalize bsQ l = s at *
  have Hz := hide hz
  have Hg := hide hg
  have Hx := hide hx
  clear hz hg hx
  go_enter Tryz.func81, Tryz.ntmps81
  go_upto_region 2 with fail
  go_loopg [3, 4] (l.length + 2) (fun g v3 v4 wx => ∃ (a : Nat) (T : List UInt8), v3 = .string (bsQ T) ∧ v4 = .int .i64 (a : Int) ∧ a ≤ l.length + 1 ∧ g = l.length + 2 - a ∧ T.length ≤ 2 * a ∧ R = (pathR (l.drop a)).map (fun q => (T ++ q.1, a + q.2)) ∧ Below w.heap.size w wx ∧ ZW wx w.heap.size)
  case atStart =>
    refine ⟨0, [], rfl, rfl, Nat.zero_le _, rfl, Nat.zero_le _, ?_, (Below.refl _ _).alloc (Nat.le_refl _) _, Row.new _ _ _⟩
    rw [← HR.out]
    show pathR l = (pathR l).map fun q => ([] ++ q.1, 0 + q.2)
    cases pathR l with
    | none => rfl
    | some q => show some q = some (q.1, 0 + q.2); rw [Nat.zero_add]
  case round =>
    obtain ⟨a, T, rfl, rfl, ha, hga, hT, hRa, hb, hrow⟩ := hrel
    have H := hide (And.intro hb hrow)
    have HRa := hide hRa
    have Hga := hide hga
    clear hb hrow hRa hga
    by_cases hlt : a < l.length
    · have ha' : (a : Int) < (s.size : Int) := by have := Hz.out; omega
      have ha0 : (0 : Int) ≤ (a : Int) := by omega
      have has : a < s.size := by have := Hz.out; omega
      obtain ⟨c, hc⟩ : ∃ c, l[a]'hlt = c := ⟨_, rfl⟩
      have hsc : s[a]'has = c := by rw [Hg.out a has hlt]; exact hc
      have hdr : l.drop a = c :: l.drop (a + 1) := by rw [List.drop_eq_getElem_cons hlt, hc]
      have FI := hide (firstQ_any c wr)
      have HD := hide hdr
      clear hc hdr
      cases hfi : fiQ c with
      | true =>
        rw [hfi] at FI
        have RIa := hide (RI.out a wr (by omega))
        have hsp1 : spn inQ (l.drop a) = spn inQ (l.drop (a + 1)) + 1 := by rw [HD.out]; exact spn_yes (by unfold inQ; rw [hfi]; rfl)
        have hsp2 := spn_le inQ (l.drop a)
        rw [List.length_drop] at hsp2
        have hseg : segQ (l.drop a) = some ((l.drop a).take (spn inQ (l.drop a)), spn inQ (l.drop a)) := by rw [HD.out, segQ, if_pos hfi]
        have hnx := path_next HRa.out hseg
        obtain ⟨seg, hsg⟩ : ∃ seg, (l.drop a).take (spn inQ (l.drop a)) = seg := ⟨_, rfl⟩
        have hsgl : seg.length ≤ spn inQ (l.drop a) := by rw [← hsg]; exact List.length_take_le _ _
        rw [hsg] at hnx
        obtain ⟨m, hm⟩ : ∃ m, a + spn inQ (l.drop a) = m := ⟨_, rfl⟩
        have x1 : s.extract a m = bsQ seg := by rw [Hx.out, ← hm, Nat.add_sub_cancel_left, hsg]
        rw [hm] at RIa hnx
        have hma : a + 1 ≤ m ∧ m ≤ l.length ∧ seg.length ≤ m - a := by omega
        have HNx := hide hnx
        have HTl := hide (show (T ++ seg).length ≤ 2 * m by rw [List.length_append]; omega)
        have y1 : ∀ W : World, (Op.stringOp .add (bsQ T) (bsQ seg)).run Tryz.prog W = .ok (.string (bsQ (T ++ seg))) W := fun W => catQ T seg (by omega) W
        have ham : (a : Int) ≤ (m : Int) := by omega
        have hms2 : (m : Int) ≤ (s.size : Int) := by have := Hz.out; omega
        clear hsp1 hsp2 hseg hnx hsg hsgl hm hfi
        by_cases hml : m < l.length
        · have hm1 : ¬ (s.size : Int) ≤ (m : Int) := by have := Hz.out; omega
          have hm2 : (m : Int) < (s.size : Int) := by have := Hz.out; omega
          have hms : m < s.size := by have := Hz.out; omega
          have hm0 : (0 : Int) ≤ (m : Int) := by omega
          obtain ⟨d, hd⟩ : ∃ d, l[m]'hml = d := ⟨_, rfl⟩
          have hsd : s[m]'hms = d := by rw [Hg.out m hms hml]; exact hd
          have hhd : (l.drop m).head? = some d := by rw [List.drop_eq_getElem_cons hml, hd]; rfl
          have HHd := hide hhd
          clear hd hhd
          by_cases hd46 : d = 46
          · subst hd46
            have HN := hide (show R = (pathR (l.drop (m + 1))).map (fun q => ((T ++ seg ++ [46]) ++ q.1, (m + 1) + q.2)) by rw [HNx.out, if_pos HHd.out])
            have y46 : ∀ W : World, (Op.stringOp .add (bsQ (T ++ seg)) ⟨#[46]⟩).run Tryz.prog W = .ok (.string (bsQ (T ++ seg ++ [46]))) W := fun W => catQ (T ++ seg) [46] (by have := HTl.out; rw [List.length_singleton]; omega) W
            have hwm : IntKind.i64.wrap ((m : Int) + 1) = (m : Int) + 1 := IntWalk.i64_in _ (by omega)
            go_wp2_with fail
            refine FI.out.mono ?_
            rintro e wr ⟨rfl, rfl⟩
            go_wp2_with fail
            refine RIa.out.mono ?_
            rintro e w2 ⟨rfl, hb2⟩
            have H2 := hide (And.intro (H.out.1.trans (hb2.mono H.out.1.size)) (show ZW w2 w.heap.size from H.out.2.below hb2 H.out.2.lt))
            clear hb2
            go_wp2
            go_roundg (l.length + 2 - (m + 1))
            case measure => have := Hga.out; omega
            case rel => exact ⟨m + 1, T ++ seg ++ [46], by first | rfl | (simp only [List.append_assoc]) | simp, by go_num, by omega, by first | rfl | omega, by have := HTl.out; rw [List.length_append, List.length_singleton]; omega, HN.out, H2.out.1, H2.out.2⟩
          · have e46 : ((d.toNat : Int) == 46) = false := toNat_neQ (d := 46) hd46
            have e46b : ((d.toNat : Int) != 46) = true := by rw [bne, e46]; rfl
            have HN := hide (show R = some (T ++ seg, m) by rw [HNx.out, if_neg (by rw [HHd.out]; intro e; exact hd46 (Option.some.inj e))])
            clear hd46
            go_wp2_with fail
            refine FI.out.mono ?_
            rintro e wr ⟨rfl, rfl⟩
            go_wp2_with fail
            refine RIa.out.mono ?_
            rintro e w2 ⟨rfl, hb2⟩
            have H2 := hide (And.intro (H.out.1.trans (hb2.mono H.out.1.size)) (show ZW w2 w.heap.size from H.out.2.below hb2 H.out.2.lt))
            clear hb2
            go_wp2_with fail
            refine (foundQ_any 0 _ (T ++ seg) _).mono ?_
            rintro e w9 ⟨rfl, hb9⟩
            have r9 : ZW w9 w.heap.size := H2.out.2.below hb9 H2.out.2.lt
            have B9 := hide (H2.out.1.trans (hb9.mono H2.out.1.size))
            have R9 := hide r9
            have c0 := r9.cell 0
            have c1 := r9.cell 1
            have c2 := r9.cell 2
            have c3 := r9.cell 3
            have c4 := r9.cell 4
            have f0 := r9.frozen 0
            have f1 := r9.frozen 1
            have f2 := r9.frozen 2
            have f3 := r9.frozen 3
            have f4 := r9.frozen 4
            clear r9 hb9
            go_wp2
            refine bodyPost_ret (v := .agg #[.int .i64 0, .string (bsQ (T ++ seg)), .int .i64 0, .int .i64 (m : Int), .int .i64 0]) (results_cellQ rfl _ _ w.heap.size 44 _ _ _ rfl (R9.out.put _ _ _ _ _) Tryz.underlying44 rfl (by kernel_rfl)) rfl ?_
            rw [HPQ.out, HN.out]
            exact ⟨rfl, below5 B9.out (Nat.le_refl _) _ _ _ _ _⟩
        · have hm1 : (s.size : Int) ≤ (m : Int) := by have := Hz.out; omega
          have hm2 : ¬ (m : Int) < (s.size : Int) := by have := Hz.out; omega
          have HN := hide (show R = some (T ++ seg, m) by rw [HNx.out, if_neg (by rw [List.drop_eq_nil_of_le (by omega)]; intro e; cases e)])
          go_wp2_with fail
          refine FI.out.mono ?_
          rintro e wr ⟨rfl, rfl⟩
          go_wp2_with fail
          refine RIa.out.mono ?_
          rintro e w2 ⟨rfl, hb2⟩
          have H2 := hide (And.intro (H.out.1.trans (hb2.mono H.out.1.size)) (show ZW w2 w.heap.size from H.out.2.below hb2 H.out.2.lt))
          clear hb2
          go_wp2_with fail
          refine (foundQ_any 0 _ (T ++ seg) _).mono ?_
          rintro e w9 ⟨rfl, hb9⟩
          have r9 : ZW w9 w.heap.size := H2.out.2.below hb9 H2.out.2.lt
          have B9 := hide (H2.out.1.trans (hb9.mono H2.out.1.size))
          have R9 := hide r9
          have c0 := r9.cell 0
          have c1 := r9.cell 1
          have c2 := r9.cell 2
          have c3 := r9.cell 3
          have c4 := r9.cell 4
          have f0 := r9.frozen 0
          have f1 := r9.frozen 1
          have f2 := r9.frozen 2
          have f3 := r9.frozen 3
          have f4 := r9.frozen 4
          clear r9 hb9
          go_wp2
          refine bodyPost_ret (v := .agg #[.int .i64 0, .string (bsQ (T ++ seg)), .int .i64 0, .int .i64 (m : Int), .int .i64 0]) (results_cellQ rfl _ _ w.heap.size 44 _ _ _ rfl (R9.out.put _ _ _ _ _) Tryz.underlying44 rfl (by kernel_rfl)) rfl ?_
          rw [HPQ.out, HN.out]
          exact ⟨rfl, below5 B9.out (Nat.le_refl _) _ _ _ _ _⟩
      | false =>
        rw [hfi] at FI
        by_cases h92 : c = 92
        · subst h92
          have hsp := spn_le prQ (l.drop (a + 1))
          rw [List.length_drop] at hsp
          obtain ⟨n1, hn1⟩ : ∃ n1, spn prQ (l.drop (a + 1)) = n1 := ⟨_, rfl⟩
          have RPa := hide (show Calls Tryz.prog 31 #[.string s, .int .i64 ((a : Int) + 1), .func (.func 101) #[] #[]] wr fun e w' => e = .returned (.int .i64 ((a + 1 + n1 : Nat) : Int)) ∧ Below wr.heap.size wr w' by
            have := RP.out (a + 1) wr (by omega)
            rw [hn1] at this
            rwa [show ((a + 1 : Nat) : Int) = (a : Int) + 1 by omega] at this)
          have hwa : IntKind.i64.wrap ((a : Int) + 1) = (a : Int) + 1 := IntWalk.i64_in _ (by omega)
          obtain ⟨m1, hm1⟩ : ∃ m1, a + 1 + n1 = m1 := ⟨_, rfl⟩
          rw [hm1] at RPa
          have Hm1 := hide (And.intro hm1 (And.intro hn1 hsp))
          rw [hn1] at hsp
          clear hm1 hn1
          by_cases hz1 : n1 = 0
          · have ee : ((m1 : Int) == (a : Int) + 1) = true := by rw [beq_iff_eq]; have := Hm1.out.1; omega
            have hn : R = none := by
              rw [HRa.out, pathR_step, HD.out]
              have : segQ (92 :: l.drop (a + 1)) = none := by rw [segQ, if_neg (by rw [hfi]; decide), if_pos rfl, if_pos (by rw [Hm1.out.2.1]; exact hz1)]
              rw [this]; rfl
            have Hn := hide hn
            clear hn hz1 hfi
            go_wp2_with fail
            refine FI.out.mono ?_
            rintro e wr ⟨rfl, rfl⟩
            go_wp2_with fail
            refine RPa.out.mono ?_
            rintro e w2 ⟨rfl, hb2⟩
            have H2 := hide (And.intro (H.out.1.trans (hb2.mono H.out.1.size)) (show ZW w2 w.heap.size from H.out.2.below hb2 H.out.2.lt))
            clear hb2
            go_wp2_with fail
            refine (wrongQ_any' 3 _).mono ?_
            rintro e w9 ⟨rfl, hb9⟩
            have r9 : ZW w9 w.heap.size := H2.out.2.below hb9 H2.out.2.lt
            have B9 := hide (H2.out.1.trans (hb9.mono H2.out.1.size))
            have R9 := hide r9
            have c0 := r9.cell 0
            have c1 := r9.cell 1
            have c2 := r9.cell 2
            have c3 := r9.cell 3
            have c4 := r9.cell 4
            have f0 := r9.frozen 0
            have f1 := r9.frozen 1
            have f2 := r9.frozen 2
            have f3 := r9.frozen 3
            have f4 := r9.frozen 4
            clear r9 hb9
            go_wp2
            refine bodyPost_ret (v := .agg #[.int .i64 0, .string ⟨#[]⟩, .int .i64 0, .int .i64 0, .int .i64 3]) (results_cellQ rfl _ _ w.heap.size 44 _ _ _ rfl (R9.out.put _ _ _ _ _) Tryz.underlying44 rfl (by kernel_rfl)) rfl ?_
            rw [HPQ.out, Hn.out]
            exact ⟨rfl, below5 B9.out (Nat.le_refl _) _ _ _ _ _⟩
          · have ee : ((m1 : Int) == (a : Int) + 1) = false := beq_eq_false_iff_ne.2 (by have := Hm1.out.1; omega)
            have ham : (a : Int) ≤ (m1 : Int) := by have := Hm1.out.1; omega
            by_cases hml1 : m1 < l.length
            · have hq2 : (m1 : Int) < (s.size : Int) := by have := Hz.out; omega
              have hqs : m1 < s.size := by have := Hz.out; omega
              have hq0 : (0 : Int) ≤ (m1 : Int) := by omega
              have hms2 : (m1 : Int) ≤ (s.size : Int) := by omega
              obtain ⟨d1, hd1⟩ : ∃ d, l[m1]'hml1 = d := ⟨_, rfl⟩
              have hsd1 : s[m1]'hqs = d1 := by rw [Hg.out m1 hqs hml1]; exact hd1
              have hr1 : (l.drop (a + 1)).drop n1 = d1 :: l.drop (m1 + 1) := by
                rw [List.drop_drop, Hm1.out.1, List.drop_eq_getElem_cons hml1, hd1]
              have HR1 := hide hr1
              have BL := hide (fun W : World => blankQ_any d1 W)
              clear hd1 hr1
              cases hbl : blQ d1 with
              | false =>
                rw [hbl] at BL
                have hn : R = none := by
                  rw [HRa.out, pathR_step, HD.out]
                  have : segQ (92 :: l.drop (a + 1)) = none := by
                    rw [segQ, if_neg (by rw [hfi]; decide), if_pos rfl, Hm1.out.2.1, if_neg hz1, HR1.out]
                    simp only
                    rw [if_neg (by rw [hbl]; decide)]
                  rw [this]; rfl
                have Hn := hide hn
                clear hn hbl hfi hz1
                go_wp2_with fail
                refine FI.out.mono ?_
                rintro e wr ⟨rfl, rfl⟩
                go_wp2_with fail
                refine RPa.out.mono ?_
                rintro e w2 ⟨rfl, hb2⟩
                have H2 := hide (And.intro (H.out.1.trans (hb2.mono H.out.1.size)) (show ZW w2 w.heap.size from H.out.2.below hb2 H.out.2.lt))
                clear hb2
                go_wp2_with fail
                refine (BL.out _).mono ?_
                rintro e w2 ⟨rfl, rfl⟩
                go_wp2_with fail
                refine (wrongQ_any' 3 _).mono ?_
                rintro e w9 ⟨rfl, hb9⟩
                have r9 : ZW w9 w.heap.size := H2.out.2.below hb9 H2.out.2.lt
                have B9 := hide (H2.out.1.trans (hb9.mono H2.out.1.size))
                have R9 := hide r9
                have c0 := r9.cell 0
                have c1 := r9.cell 1
                have c2 := r9.cell 2
                have c3 := r9.cell 3
                have c4 := r9.cell 4
                have f0 := r9.frozen 0
                have f1 := r9.frozen 1
                have f2 := r9.frozen 2
                have f3 := r9.frozen 3
                have f4 := r9.frozen 4
                clear r9 hb9
                go_wp2
                refine bodyPost_ret (v := .agg #[.int .i64 0, .string ⟨#[]⟩, .int .i64 0, .int .i64 0, .int .i64 3]) (results_cellQ rfl _ _ w.heap.size 44 _ _ _ rfl (R9.out.put _ _ _ _ _) Tryz.underlying44 rfl (by kernel_rfl)) rfl ?_
                rw [HPQ.out, Hn.out]
                exact ⟨rfl, below5 B9.out (Nat.le_refl _) _ _ _ _ _⟩
              | true =>
                rw [hbl] at BL
                obtain ⟨raw, hraw⟩ : ∃ raw, (l.drop a).take (m1 - a) = raw := ⟨_, rfl⟩
                have hraw2 : raw = 92 :: (l.drop (a + 1)).take n1 := by
                  rw [← hraw, HD.out, show m1 - a = n1 + 1 by have := Hm1.out.1; omega]; rfl
                have hrl : raw.length ≤ n1 + 1 := by rw [hraw2, List.length_cons]; have := List.length_take_le n1 (l.drop (a + 1)); omega
                have x1 : s.extract a m1 = bsQ raw := by rw [Hx.out, hraw]
                have y1 : ∀ W : World, (Op.stringOp .add (bsQ T) (bsQ raw)).run Tryz.prog W = .ok (.string (bsQ (T ++ raw))) W := fun W => catQ T raw (by omega) W
                have y32 : ∀ W : World, (Op.stringOp .add (bsQ (T ++ raw)) ⟨#[32]⟩).run Tryz.prog W = .ok (.string (bsQ (T ++ raw ++ [32]))) W := fun W => catQ (T ++ raw) [32] (by rw [List.length_append, List.length_singleton]; omega) W
                have hseg : segQ (l.drop a) = some (raw ++ (if (l.drop (m1 + 1)).head? = some 46 then [32] else []), n1 + 2) := by
                  rw [HD.out, segQ, if_neg (by rw [hfi]; decide), if_pos rfl, Hm1.out.2.1, if_neg hz1, HR1.out]
                  simp only
                  rw [if_pos hbl, hraw2]
                have hnx := path_next HRa.out hseg
                rw [show a + (n1 + 2) = m1 + 1 by have := Hm1.out.1; omega] at hnx
                have hwm1 : IntKind.i64.wrap ((m1 : Int) + 1) = (m1 : Int) + 1 := IntWalk.i64_in _ (by omega)
                have HTr := hide (show (T ++ raw).length + 1 ≤ 2 * (m1 + 1) by rw [List.length_append]; have := Hm1.out.1; omega)
                have Hnx0 := hide hnx
                clear hseg hraw hraw2 hrl hbl hnx hfi hz1
                by_cases hmm : m1 + 1 < l.length
                · have hm1' : ¬ (s.size : Int) ≤ (m1 : Int) + 1 := by have := Hz.out; omega
                  have hm2 : (m1 : Int) + 1 < (s.size : Int) := by have := Hz.out; omega
                  have hms : m1 + 1 < s.size := by have := Hz.out; omega
                  have hm0 : (0 : Int) ≤ (m1 : Int) + 1 := by omega
                  have hmt : ((m1 : Int) + 1).toNat = m1 + 1 := by omega
                  obtain ⟨d, hd⟩ : ∃ d, l[m1 + 1]'hmm = d := ⟨_, rfl⟩
                  have hsd : s[m1 + 1]'hms = d := by rw [Hg.out (m1 + 1) hms hmm]; exact hd
                  have hhd : (l.drop (m1 + 1)).head? = some d := by rw [List.drop_eq_getElem_cons hmm, hd]; rfl
                  have HHd := hide hhd
                  clear hd hhd
                  by_cases hd46 : d = 46
                  · subst hd46
                    have HN := hide (show R = (pathR (l.drop (m1 + 1 + 1))).map (fun q => ((T ++ raw ++ [32] ++ [46]) ++ q.1, (m1 + 1 + 1) + q.2)) by rw [Hnx0.out, if_pos HHd.out, if_pos HHd.out, ← List.append_assoc T raw [32]])
                    have y46 : ∀ W : World, (Op.stringOp .add (bsQ (T ++ raw ++ [32])) ⟨#[46]⟩).run Tryz.prog W = .ok (.string (bsQ (T ++ raw ++ [32] ++ [46]))) W := fun W => catQ (T ++ raw ++ [32]) [46] (by have := HTr.out; rw [List.length_append, List.length_singleton, List.length_singleton]; omega) W
                    have hwm : IntKind.i64.wrap ((m1 : Int) + 1 + 1) = (m1 : Int) + 1 + 1 := IntWalk.i64_in _ (by omega)
                    obtain ⟨T2, hT2⟩ : ∃ T2, T ++ raw ++ [32] ++ [46] = T2 := ⟨_, rfl⟩
                    obtain ⟨T3, hT3⟩ : ∃ T3, T ++ raw ++ [32] = T3 := ⟨_, rfl⟩
                    obtain ⟨T4, hT4⟩ : ∃ T4, T ++ raw = T4 := ⟨_, rfl⟩
                    rw [hT2] at y46 HN
                    rw [hT3] at y46 y32
                    rw [hT4] at y32 y1
                    have HT2 := hide (show T2.length ≤ 2 * (m1 + 1 + 1) by rw [← hT2, List.length_append, List.length_append, List.length_singleton, List.length_singleton]; have := HTr.out; omega)
                    clear hT2 hT3 hT4
                    go_wp2_with fail
                    refine FI.out.mono ?_
                    rintro e wr ⟨rfl, rfl⟩
                    go_wp2_with fail
                    refine RPa.out.mono ?_
                    rintro e w2 ⟨rfl, hb2⟩
                    have H2 := hide (And.intro (H.out.1.trans (hb2.mono H.out.1.size)) (show ZW w2 w.heap.size from H.out.2.below hb2 H.out.2.lt))
                    clear hb2
                    go_wp2_with fail
                    refine (BL.out _).mono ?_
                    rintro e w2 ⟨rfl, rfl⟩
                    go_wp2
                    go_roundg (l.length + 2 - (m1 + 1 + 1))
                    case measure => have := Hga.out; have := Hm1.out.1; omega
                    case rel => exact ⟨m1 + 1 + 1, T2, rfl, by go_num, by omega, by first | rfl | omega, HT2.out, HN.out, H2.out.1, H2.out.2⟩
                  · have e46 : ((d.toNat : Int) == 46) = false := toNat_neQ (d := 46) hd46
                    have e46b : ((d.toNat : Int) != 46) = true := by rw [bne, e46]; rfl
                    have HN := hide (show R = some (T ++ raw, m1 + 1) by rw [Hnx0.out, if_neg (by rw [HHd.out]; intro e; exact hd46 (Option.some.inj e)), if_neg (by rw [HHd.out]; intro e; exact hd46 (Option.some.inj e)), List.append_nil])
                    clear hd46
                    go_wp2_with fail
                    refine FI.out.mono ?_
                    rintro e wr ⟨rfl, rfl⟩
                    go_wp2_with fail
                    refine RPa.out.mono ?_
                    rintro e w2 ⟨rfl, hb2⟩
                    have H2 := hide (And.intro (H.out.1.trans (hb2.mono H.out.1.size)) (show ZW w2 w.heap.size from H.out.2.below hb2 H.out.2.lt))
                    clear hb2
                    go_wp2_with fail
                    refine (BL.out _).mono ?_
                    rintro e w2 ⟨rfl, rfl⟩
                    go_wp2_with fail
                    refine (foundQ_any 0 _ (T ++ raw) _).mono ?_
                    rintro e w9 ⟨rfl, hb9⟩
                    have r9 : ZW w9 w.heap.size := H2.out.2.below hb9 H2.out.2.lt
                    have B9 := hide (H2.out.1.trans (hb9.mono H2.out.1.size))
                    have R9 := hide r9
                    have c0 := r9.cell 0
                    have c1 := r9.cell 1
                    have c2 := r9.cell 2
                    have c3 := r9.cell 3
                    have c4 := r9.cell 4
                    have f0 := r9.frozen 0
                    have f1 := r9.frozen 1
                    have f2 := r9.frozen 2
                    have f3 := r9.frozen 3
                    have f4 := r9.frozen 4
                    clear r9 hb9
                    go_wp2
                    refine bodyPost_ret (v := .agg #[.int .i64 0, .string (bsQ (T ++ raw)), .int .i64 0, .int .i64 ((m1 : Int) + 1), .int .i64 0]) (results_cellQ rfl _ _ w.heap.size 44 _ _ _ rfl (R9.out.put _ _ _ _ _) Tryz.underlying44 rfl (by kernel_rfl)) rfl ?_
                    rw [HPQ.out, HN.out]
                    exact ⟨rfl, below5 B9.out (Nat.le_refl _) _ _ _ _ _⟩
                · have hm1' : (s.size : Int) ≤ (m1 : Int) + 1 := by have := Hz.out; omega
                  have hm2 : ¬ (m1 : Int) + 1 < (s.size : Int) := by have := Hz.out; omega
                  have hnil : l.drop (m1 + 1) = [] := List.drop_eq_nil_of_le (by omega)
                  have HN := hide (show R = some (T ++ raw, m1 + 1) by rw [Hnx0.out, hnil, if_neg (by intro e; cases e), if_neg (by intro e; cases e), List.append_nil])
                  clear hnil
                  go_wp2_with fail
                  refine FI.out.mono ?_
                  rintro e wr ⟨rfl, rfl⟩
                  go_wp2_with fail
                  refine RPa.out.mono ?_
                  rintro e w2 ⟨rfl, hb2⟩
                  have H2 := hide (And.intro (H.out.1.trans (hb2.mono H.out.1.size)) (show ZW w2 w.heap.size from H.out.2.below hb2 H.out.2.lt))
                  clear hb2
                  go_wp2_with fail
                  refine (BL.out _).mono ?_
                  rintro e w2 ⟨rfl, rfl⟩
                  go_wp2_with fail
                  refine (foundQ_any 0 _ (T ++ raw) _).mono ?_
                  rintro e w9 ⟨rfl, hb9⟩
                  have r9 : ZW w9 w.heap.size := H2.out.2.below hb9 H2.out.2.lt
                  have B9 := hide (H2.out.1.trans (hb9.mono H2.out.1.size))
                  have R9 := hide r9
                  have c0 := r9.cell 0
                  have c1 := r9.cell 1
                  have c2 := r9.cell 2
                  have c3 := r9.cell 3
                  have c4 := r9.cell 4
                  have f0 := r9.frozen 0
                  have f1 := r9.frozen 1
                  have f2 := r9.frozen 2
                  have f3 := r9.frozen 3
                  have f4 := r9.frozen 4
                  clear r9 hb9
                  go_wp2
                  refine bodyPost_ret (v := .agg #[.int .i64 0, .string (bsQ (T ++ raw)), .int .i64 0, .int .i64 ((m1 : Int) + 1), .int .i64 0]) (results_cellQ rfl _ _ w.heap.size 44 _ _ _ rfl (R9.out.put _ _ _ _ _) Tryz.underlying44 rfl (by kernel_rfl)) rfl ?_
                  rw [HPQ.out, HN.out]
                  exact ⟨rfl, below5 B9.out (Nat.le_refl _) _ _ _ _ _⟩
            · have hq2 : ¬ (m1 : Int) < (s.size : Int) := by have := Hz.out; omega
              have hml : m1 = l.length := by have := Hm1.out.1; omega
              have hms2 : (m1 : Int) ≤ (s.size : Int) := by have := Hz.out; omega
              have hm1' : (s.size : Int) ≤ (m1 : Int) := by have := Hz.out; omega
              have x1 : s.extract a m1 = bsQ (l.drop a) := by rw [Hx.out, List.take_of_length_le (by rw [List.length_drop]; omega)]
              have y1 : ∀ W : World, (Op.stringOp .add (bsQ T) (bsQ (l.drop a))).run Tryz.prog W = .ok (.string (bsQ (T ++ l.drop a))) W := fun W => catQ T (l.drop a) (by rw [List.length_drop]; omega) W
              have hr1 : (l.drop (a + 1)).drop n1 = [] := by rw [List.drop_drop, Hm1.out.1]; exact List.drop_eq_nil_of_le (by omega)
              have hseg : segQ (l.drop a) = some (l.drop a, (l.drop (a + 1)).length + 1) := by
                rw [HD.out, segQ, if_neg (by rw [hfi]; decide), if_pos rfl, Hm1.out.2.1, if_neg hz1, hr1]
              have hnx := path_next HRa.out hseg
              rw [show a + ((l.drop (a + 1)).length + 1) = m1 by rw [List.length_drop]; omega] at hnx
              have HN := hide (show R = some (T ++ l.drop a, m1) by rw [hnx, if_neg (by rw [List.drop_eq_nil_of_le (by omega)]; intro e; cases e)])
              generalize l.drop a = seg at *
              have hml' := hide hml
              clear hseg hnx hr1 hfi hz1 hml
              go_wp2_with fail
              refine FI.out.mono ?_
              rintro e wr ⟨rfl, rfl⟩
              go_wp2_with fail
              refine RPa.out.mono ?_
              rintro e w2 ⟨rfl, hb2⟩
              have H2 := hide (And.intro (H.out.1.trans (hb2.mono H.out.1.size)) (show ZW w2 w.heap.size from H.out.2.below hb2 H.out.2.lt))
              clear hb2
              go_wp2_with fail
              refine (foundQ_any 0 _ (T ++ seg) _).mono ?_
              rintro e w9 ⟨rfl, hb9⟩
              have r9 : ZW w9 w.heap.size := H2.out.2.below hb9 H2.out.2.lt
              have B9 := hide (H2.out.1.trans (hb9.mono H2.out.1.size))
              have R9 := hide r9
              have c0 := r9.cell 0
              have c1 := r9.cell 1
              have c2 := r9.cell 2
              have c3 := r9.cell 3
              have c4 := r9.cell 4
              have f0 := r9.frozen 0
              have f1 := r9.frozen 1
              have f2 := r9.frozen 2
              have f3 := r9.frozen 3
              have f4 := r9.frozen 4
              clear r9 hb9
              go_wp2
              refine bodyPost_ret (v := .agg #[.int .i64 0, .string (bsQ (T ++ seg)), .int .i64 0, .int .i64 (m1 : Int), .int .i64 0]) (results_cellQ rfl _ _ w.heap.size 44 _ _ _ rfl (R9.out.put _ _ _ _ _) Tryz.underlying44 rfl (by kernel_rfl)) rfl ?_
              rw [HPQ.out, HN.out]
              exact ⟨rfl, below5 B9.out (Nat.le_refl _) _ _ _ _ _⟩
        · have e92 : ((c.toNat : Int) == 92) = false := toNat_neQ (d := 92) h92
          have hn : R = none := by
            rw [HRa.out, pathR_step, HD.out]
            have : segQ (c :: l.drop (a + 1)) = none := by rw [segQ, if_neg (by rw [hfi]; decide), if_neg h92]
            rw [this]; rfl
          have Hn := hide hn
          clear hfi h92 hn
          go_wp2_with fail
          refine FI.out.mono ?_
          rintro e wr ⟨rfl, rfl⟩
          go_wp2_with fail
          refine (wrongQ_any' 3 _).mono ?_
          rintro e w9 ⟨rfl, hb9⟩
          have r9 : ZW w9 w.heap.size := H.out.2.below hb9 H.out.2.lt
          have B9 := hide (H.out.1.trans (hb9.mono H.out.1.size))
          have R9 := hide r9
          have c0 := r9.cell 0
          have c1 := r9.cell 1
          have c2 := r9.cell 2
          have c3 := r9.cell 3
          have c4 := r9.cell 4
          have f0 := r9.frozen 0
          have f1 := r9.frozen 1
          have f2 := r9.frozen 2
          have f3 := r9.frozen 3
          have f4 := r9.frozen 4
          clear r9 hb9
          go_wp2
          refine bodyPost_ret (v := .agg #[.int .i64 0, .string ⟨#[]⟩, .int .i64 0, .int .i64 0, .int .i64 3]) (results_cellQ rfl _ _ w.heap.size 44 _ _ _ rfl (R9.out.put _ _ _ _ _) Tryz.underlying44 rfl (by kernel_rfl)) rfl ?_
          rw [HPQ.out, Hn.out]
          exact ⟨rfl, below5 B9.out (Nat.le_refl _) _ _ _ _ _⟩
    · have ha' : ¬ (a : Int) < (s.size : Int) := by have := Hz.out; omega
      have hn : R = none := by
        rw [HRa.out, List.drop_eq_nil_of_le (by omega), pathR_step]; rfl
      have Hn := hide hn
      clear hn
      go_wp2_with fail
      refine (wrongQ_any' 3 _).mono ?_
      rintro e w9 ⟨rfl, hb9⟩
      have r9 : ZW w9 w.heap.size := H.out.2.below hb9 H.out.2.lt
      have B9 := hide (H.out.1.trans (hb9.mono H.out.1.size))
      have R9 := hide r9
      have c0 := r9.cell 0
      have c1 := r9.cell 1
      have c2 := r9.cell 2
      have c3 := r9.cell 3
      have c4 := r9.cell 4
      have f0 := r9.frozen 0
      have f1 := r9.frozen 1
      have f2 := r9.frozen 2
      have f3 := r9.frozen 3
      have f4 := r9.frozen 4
      clear r9 hb9
      go_wp2
      refine bodyPost_ret (v := .agg #[.int .i64 0, .string ⟨#[]⟩, .int .i64 0, .int .i64 0, .int .i64 3]) (results_cellQ rfl _ _ w.heap.size 44 _ _ _ rfl (R9.out.put _ _ _ _ _) Tryz.underlying44 rfl (by kernel_rfl)) rfl ?_
      rw [HPQ.out, Hn.out]
      exact ⟨rfl, below5 B9.out (Nat.le_refl _) _ _ _ _ _⟩
end Go.Proofs.YtjlpekjfmgcbdaaGreatDoor

/- Contracts of qlex's bases and of looking into its map. -/
set_option linter.unusedVariables false
set_option linter.unusedSimpArgs false
namespace Go.Proofs.YtjlpekjfmgcbdaaGreatDoor
open Go.RowKit Go.Shelf
theorem putQ {P : Program} (w : World) (mty kt et : TypeId) (d : TypeDesc) (r clock : Nat) (es : Array MapEntry) (x val : Value)
    (hm : P.underlying mty = some (.map kt et)) (hk : P.underlying kt = some d) (hx : MapKept.IsKey d x) (hb : w.heap[r]? = some (.map es clock)) (hf : Instr.findNow d x es.toList 0 = some none) :
    ∃ w', (Instr.mapUpdate mty (.map (some r)) x val).run P w = .ok () w' ∧ w'.heap[r]? = some (.map (es.push { key := x, val := val, born := clock }) (clock + 1)) ∧ ∀ B, B ≤ r → RowKit.Below B w w' := by
  have hc : (Instr.checkKey false 10000 kt x).run P w = .ok () w := MapKept.run_checkKey (k := x) hk hx false 9999
  refine ⟨{ w with heap := w.heap.setIfInBounds r (.map (es.push { key := x, val := val, born := clock }) (clock + 1)) }, by simp [Instr.mapUpdate, run_underlying hm, MapKept.run_getObj_map hb, hc, MapKept.run_findKey hk hf, MapKept.run_setObj_map _ hb, Result.andThen], (MapKept.heap_set hb).1, fun B hB => ⟨rfl, rfl, rfl, by simp, fun k hk2 => (MapKept.heap_set hb).2 k (by omega)⟩⟩
theorem lookQ {P : Program} (w : World) (mty kt et : TypeId) (d : TypeDesc) (r clock : Nat) (es : Array MapEntry) (x : Value) (i : Nat) (v : Value) (ok : Bool)
    (hm : P.underlying mty = some (.map kt et)) (hk : P.underlying kt = some d) (hx : MapKept.IsKey d x) (hb : w.heap[r]? = some (.map es clock)) (hf : Instr.findNow d x es.toList 0 = some (some (i, v))) :
    (Instr.lookup mty (.map (some r)) x ok).run P w = .ok (if ok then .tuple #[v, .bool true] else v) w := by
  have hc : (Instr.checkKey es.isEmpty 10000 kt x).run P w = .ok () w := MapKept.run_checkKey (k := x) hk hx es.isEmpty 9999
  cases ok <;> simp [Instr.lookup, run_underlying hm, MapKept.run_getObj_map hb, hc, MapKept.run_findKey hk hf]
theorem lookQ_none {P : Program} (w : World) (mty kt et : TypeId) (d : TypeDesc) (r clock : Nat) (es : Array MapEntry) (x : Value) (z : Value) (ok : Bool)
    (hm : P.underlying mty = some (.map kt et)) (hk : P.underlying kt = some d) (hx : MapKept.IsKey d x) (hb : w.heap[r]? = some (.map es clock)) (hf : Instr.findNow d x es.toList 0 = some none)
    (hz : (zeroValue et).run P w = .ok z w) :
    (Instr.lookup mty (.map (some r)) x ok).run P w = .ok (if ok then .tuple #[z, .bool false] else z) w := by
  have hc : (Instr.checkKey es.isEmpty 10000 kt x).run P w = .ok () w := MapKept.run_checkKey (k := x) hk hx es.isEmpty 9999
  cases ok <;> simp [Instr.lookup, run_underlying hm, MapKept.run_getObj_map hb, hc, MapKept.run_findKey hk hf, hz, Result.andThen]
def basesE : Array MapEntry := #[{ key := .int .u8 98, val := .int .i64 1, born := 0 }, { key := .int .u8 111, val := .int .i64 3, born := 1 }, { key := .int .u8 104, val := .int .i64 4, born := 2 }, { key := .int .u8 100, val := .int .i64 0, born := 3 }]
def BasesAt (w : World) (r : Nat) : Prop := w.heap[r]? = some (.map basesE 4)
set_option maxHeartbeats 1000000 in
theorem bases_any (w : World) : Calls Tryz.prog 38 #[] w fun e w' => e = .returned (.map (some w.heap.size)) ∧ BasesAt w' w.heap.size ∧ Below w.heap.size w w' := by
  have hmm := @run_makeMap Tryz.prog
  have hb0 : (w.alloc (.map #[] 0)).heap[w.heap.size]? = some (.map #[] 0) := (MapKept.heap_alloc w _).1
  obtain ⟨W1, r1, hb1, b1⟩ := putQ _ _ _ _ _ _ _ _ (.int .u8 98) (.int .i64 1) Tryz.underlying54 Tryz.underlying5 rfl hb0 rfl
  obtain ⟨W2, r2, hb2, b2⟩ := putQ _ _ _ _ _ _ _ _ (.int .u8 111) (.int .i64 3) Tryz.underlying54 Tryz.underlying5 rfl hb1 rfl
  obtain ⟨W3, r3, hb3, b3⟩ := putQ _ _ _ _ _ _ _ _ (.int .u8 104) (.int .i64 4) Tryz.underlying54 Tryz.underlying5 rfl hb2 rfl
  obtain ⟨W4, r4, hb4, b4⟩ := putQ _ _ _ _ _ _ _ _ (.int .u8 100) (.int .i64 0) Tryz.underlying54 Tryz.underlying5 rfl hb3 rfl
  have B := (((((Below.refl w.heap.size w).alloc (Nat.le_refl _) _).trans (b1 _ (Nat.le_refl _))).trans (b2 _ (Nat.le_refl _))).trans (b3 _ (Nat.le_refl _))).trans (b4 _ (Nat.le_refl _))
  go_enter Tryz.func38, Tryz.ntmps38
  go_wp2
  go_ret
  exact ⟨rfl, hb4, B⟩
theorem zeroQ (w : World) : (zeroValue 3).run Tryz.prog w = .ok (.int .i64 0) w := by kernel_rfl
theorem look_base (w : World) (r : Nat) (h : BasesAt w r) (b : UInt8) (ok : Bool) :
    (Instr.lookup 54 (.map (some r)) (.int .u8 b.toNat) ok).run Tryz.prog w = .ok (if ok then .tuple #[.int .i64 (((baseQ b).getD 0 : Nat) : Int), .bool (baseQ b).isSome] else .int .i64 (((baseQ b).getD 0 : Nat) : Int)) w := by
  by_cases h1 : b = 98
  · subst h1; exact lookQ w _ _ _ _ r _ _ _ 0 _ ok Tryz.underlying54 Tryz.underlying5 rfl h rfl
  by_cases h2 : b = 111
  · subst h2; exact lookQ w _ _ _ _ r _ _ _ 1 _ ok Tryz.underlying54 Tryz.underlying5 rfl h rfl
  by_cases h3 : b = 104
  · subst h3; exact lookQ w _ _ _ _ r _ _ _ 2 _ ok Tryz.underlying54 Tryz.underlying5 rfl h rfl
  by_cases h4 : b = 100
  · subst h4; exact lookQ w _ _ _ _ r _ _ _ 3 _ ok Tryz.underlying54 Tryz.underlying5 rfl h rfl
  have hn : baseQ b = none := by unfold baseQ; rw [if_neg h1, if_neg h2, if_neg h3, if_neg h4]
  rw [hn]
  refine lookQ_none w _ _ _ _ r _ _ _ _ ok Tryz.underlying54 Tryz.underlying5 rfl h ?_ (zeroQ w)
  have g (c : UInt8) (k : Nat) (hk : c.toNat = k) (h : ¬ b = c) : ((b.toNat : Int) == (k : Int)) = false := beq_eq_false_iff_ne.2 fun e => h (UInt8.toNat_inj.1 (by omega))
  have e1 := g _ 98 rfl h1
  have e2 := g _ 111 rfl h2
  have e3 := g _ 104 rfl h3
  have e4 := g _ 100 rfl h4
  simp only [Int.cast_ofNat_Int] at e1 e2 e3 e4
  simp [basesE, Instr.findNow, Instr.sameNow, e1, e2, e3, e4]
end Go.Proofs.YtjlpekjfmgcbdaaGreatDoor

/- Contract of qlex's ofBase. -/
set_option linter.unusedVariables false
set_option linter.unusedSimpArgs false
namespace Go.Proofs.YtjlpekjfmgcbdaaGreatDoor
open Go.RowKit Go.Shelf
theorem hexQ_range (c : UInt8) : -1 ≤ hexQ c ∧ hexQ c ≤ 15 := all_bytes (p := fun c => -1 ≤ hexQ c ∧ hexQ c ≤ 15) (by decide +kernel) c
theorem baseQ_cases (b : UInt8) : (baseQ b).getD 0 = 0 ∨ (baseQ b).getD 0 = 1 ∨ (baseQ b).getD 0 = 3 ∨ (baseQ b).getD 0 = 4 := by
  unfold baseQ
  by_cases h1 : b = 98
  · rw [if_pos h1]; exact .inr (.inl rfl)
  rw [if_neg h1]
  by_cases h2 : b = 111
  · rw [if_pos h2]; exact .inr (.inr (.inl rfl))
  rw [if_neg h2]
  by_cases h3 : b = 104
  · rw [if_pos h3]; exact .inr (.inr (.inr rfl))
  rw [if_neg h3]
  by_cases h4 : b = 100
  · rw [if_pos h4]; exact .inl rfl
  · rw [if_neg h4]; exact .inl rfl
theorem ofQ_hex {b c : UInt8} (h1 : ¬ lowQ c = 120) (h2 : ¬ lowQ c = 122) (hb : ¬ b = 100) : ofQ b c = decide (0 ≤ hexQ c ∧ hexQ c < (2 ^ (baseQ b).getD 0 : Nat)) := by
  unfold ofQ
  rw [if_neg (by rintro (h | h); exact h1 h; exact h2 h), if_neg hb]
set_option maxHeartbeats 4000000 in
theorem ofBaseQ_any (b c : UInt8) (w : World) : Calls Tryz.prog 63 #[.int .u8 (b.toNat : Int), .int .u8 (c.toNat : Int)] w fun e w' => e = .returned (.bool (ofQ b c)) ∧ Below w.heap.size w w' := by
  have hor := low_or c
  have C1 := hide (digitQ_any c)
  have C2 := hide (hexQ_any c)
  have C3 := hide bases_any
  by_cases h1 : lowQ c = 120
  · have HV := hide (show ofQ b c = true by unfold ofQ; rw [if_pos (.inl h1)])
    rw [h1] at hor
    clear h1
    go_enter Tryz.func63, Tryz.ntmps63
    go_wp2
    go_ret
    exact ⟨retQ_b HV.out, Below.refl _ _⟩
  by_cases h2 : lowQ c = 122
  · have HV := hide (show ofQ b c = true by unfold ofQ; rw [if_pos (.inr h2)])
    rw [h2] at hor
    clear h1 h2
    go_enter Tryz.func63, Tryz.ntmps63
    go_wp2
    go_ret
    exact ⟨retQ_b HV.out, Below.refl _ _⟩
  have e1 : (((lowQ c).toNat : Int) == 120) = false := toNat_neQ (d := 120) h1
  have e2 : (((lowQ c).toNat : Int) == 122) = false := toNat_neQ (d := 122) h2
  by_cases hb : b = 100
  · have HV := hide (show ofQ b c = dgQ c by unfold ofQ; rw [if_neg (by rintro (h | h); exact h1 h; exact h2 h), if_pos hb])
    subst hb
    clear h1 h2
    go_enter Tryz.func63, Tryz.ntmps63
    go_wp2_with fail
    refine (C1.out _).mono ?_
    rintro e w1 ⟨rfl, rfl⟩
    go_wp2
    go_ret
    exact ⟨retQ_b HV.out, Below.refl _ _⟩
  have e3 : ((b.toNat : Int) == 100) = false := toNat_neQ (d := 100) hb
  have HO := hide (ofQ_hex h1 h2 hb)
  have hr := hexQ_range c
  by_cases hp : 0 ≤ hexQ c
  · have K := hide (look_base)
    rcases baseQ_cases b with k | k | k | k
    all_goals
      rw [k] at HO
      have L := hide (fun (W : World) (r : Nat) (h : BasesAt W r) => show (Instr.lookup 54 (.map (some r)) (.int .u8 b.toNat) false).run Tryz.prog W = .ok (.int .i64 _) W by have := look_base W r h b false; rw [k] at this; exact this)
      clear k h1 h2 hb
      generalize hexQ c = x at *
      go_enter Tryz.func63, Tryz.ntmps63
      go_wp2_with fail
      refine (C2.out _).mono ?_
      rintro e w1 ⟨rfl, rfl⟩
      go_wp2_with fail
      refine (C3.out _).mono ?_
      rintro e w1 ⟨rfl, hB, b1⟩
      have L1 := L.out _ _ hB
      go_wp2
      all_goals go_ret
      all_goals refine ⟨retQ_b (HO.out.trans ?_), b1⟩
      all_goals exact (decide_eq_decide.2 ⟨fun h => by have := h.2; omega, fun h => ⟨hp, by omega⟩⟩)
  · have HV := hide (show ofQ b c = false by rw [HO.out]; exact decide_eq_false (fun h => hp h.1))
    generalize hexQ c = x at *
    clear h1 h2 hb
    go_enter Tryz.func63, Tryz.ntmps63
    go_wp2_with fail
    refine (C2.out _).mono ?_
    rintro e w1 ⟨rfl, rfl⟩
    go_wp2
    go_ret
    exact ⟨retQ_b HV.out, Below.refl _ _⟩
end Go.Proofs.YtjlpekjfmgcbdaaGreatDoor

/- Contract of qlex's constant. -/
set_option linter.unusedVariables false
set_option linter.unusedSimpArgs false
namespace Go.Proofs.YtjlpekjfmgcbdaaGreatDoor
open Go.RowKit Go.Shelf
theorem const1_tests (b : UInt8) (w : World) (p : Addr) (hp : w.cell? p = some (.int .u8 b.toNat)) (hb : p.block < w.heap.size) : Tests w 62 #[.pointer (some p)] (ofQ b) := by
  refine ⟨fun W c hB => ?_, fun W c => callFuncQ_body (by kernel_rfl) W⟩
  have hc : W.cell? p = some (.int .u8 b.toNat) := by rw [hB.cell hb]; exact hp
  have C := hide (ofBaseQ_any b c W)
  show Calls Tryz.prog _ #[.int .u8 (c.toNat : Int), .pointer (some p)] W _
  clear hp hB
  go_enter Tryz.func62, Tryz.ntmps62
  go_wp2_with fail
  refine C.out.mono ?_
  rintro e w1 ⟨rfl, b1⟩
  go_wp2
  go_ret
  exact ⟨rfl, b1⟩
theorem constQ_short {l : List UInt8} {n : Nat} (h : l.length ≤ n + 2) : constQ l n = 0 := by
  unfold constQ
  split
  · next b t e =>
    have : (l.drop n).length = t.length + 2 := by rw [e]; rfl
    rw [List.length_drop] at this
    rw [if_pos (.inl (List.length_eq_zero_iff.1 (by omega)))]
  · rfl
theorem dropQ_two {l : List UInt8} {n : Nat} (h : n + 1 < l.length) : l.drop n = l[n] :: l[n+1] :: l.drop (n + 2) := by
  rw [List.drop_eq_getElem_cons (by omega), List.drop_eq_getElem_cons h]
theorem constQ_tick {l : List UInt8} {n : Nat} (h : n < l.length) (hc : l[n] ≠ 39) : constQ l n = 0 := by
  unfold constQ
  rw [List.drop_eq_getElem_cons h]
  split
  · next b t e =>
    rw [List.cons.injEq] at e
    exact absurd e.1 hc
  · rfl
theorem constQ_base {l : List UInt8} {n : Nat} (h : n + 1 < l.length) (hb : baseQ (lowQ l[n+1]) = none ∨ ltQ l[n+1] = false) : constQ l n = 0 := by
  unfold constQ
  rw [dropQ_two h]
  split
  · next b t e =>
    rw [List.cons.injEq, List.cons.injEq] at e
    rw [e.2.1] at hb
    rw [if_pos (.inr hb)]
  · rfl
theorem constQ_some {l : List UInt8} {n : Nat} (h : n + 2 < l.length) (h1 : l[n] = 39) (hb : (baseQ (lowQ l[n+1])).isSome = true) (hl : ltQ l[n+1] = true) :
    constQ l n = if spn (ofQ (lowQ l[n+1])) (l.drop (n + 2)) = 0 then 0 else n + 2 + spn (ofQ (lowQ l[n+1])) (l.drop (n + 2)) := by
  unfold constQ
  rw [dropQ_two (by omega), h1]
  simp only
  rw [if_neg]
  rintro (h3 | h3 | h3)
  · rw [List.drop_eq_nil_iff] at h3; omega
  · rw [h3] at hb; cases hb
  · rw [h3] at hl; cases hl
theorem arm_one {w w1 : World} {v : Value} {t : TypeId} (b1 : Below (w.alloc (.cells #[v] t)).drew.heap.size (w.alloc (.cells #[v] t)).drew w1) :
    w1.cell? ⟨w.heap.size, 0, none⟩ = some v ∧ Below w.heap.size w w1 ∧ w.heap.size < w1.heap.size := by
  have h : (w.alloc (.cells #[v] t)).drew.heap.size = w.heap.size + 1 := by simp
  refine ⟨?_, ?_, ?_⟩
  · rw [b1.cell (by rw [h]; exact Nat.lt_succ_self _)]
    simp
  · exact ((Below.refl w.heap.size w).alloc (Nat.le_refl _) _).drew.trans (b1.mono (by rw [h]; exact Nat.le_succ _))
  · have := b1.size; rw [h] at this; exact this
set_option maxRecDepth 20000 in
set_option maxHeartbeats 4000000 in
theorem constQ_any (l : List UInt8) (n : Nat) (w : World) (hl : l.length ≤ 100000) (hn : n ≤ 100000) :
    Calls Tryz.prog 33 #[.string (bsQ l), .int .i64 (n : Int)] w fun e w' => e = .returned (.int .i64 (constQ l n : Int)) ∧ Below w.heap.size w w' := by
  have hz := bsQ_size l
  have hg : ∀ (i : Nat) (h : i < (bsQ l).size) (h2 : i < l.length), (bsQ l)[i]'h = l[i] := fun i h h2 => bsQ_get l i h
  have R := hide (fun (b : UInt8) (W : World) (p : Addr) (h : W.cell? p = some (.int .u8 b.toNat)) (hb : p.block < W.heap.size) => runQ_any l (n + 2) 62 #[.pointer (some p)] (ofQ b) W (by omega) (by omega) (const1_tests b W p h hb))
  have hw2 : IntKind.i64.wrap ((n : Int) + 2) = (n : Int) + 2 := IntWalk.i64_in _ (by omega)
  have hw1 : IntKind.i64.wrap ((n : Int) + 1) = (n : Int) + 1 := IntWalk.i64_in _ (by omega)
  by_cases h0 : l.length ≤ n + 2
  · have HV := hide (constQ_short h0)
    generalize bsQ l = s at *
    have hge : (s.size : Int) ≤ (n : Int) + 2 := by omega
    clear hz hg h0
    go_enter Tryz.func33, Tryz.ntmps33
    go_wp2
    go_ret
    exact ⟨retQ_i (by rw [HV.out]; rfl), Below.refl _ _⟩
  have hnl : n < l.length := by omega
  have hnl1 : n + 1 < l.length := by omega
  by_cases h1 : l[n]'hnl = 39
  rotate_left
  · have HV := hide (constQ_tick hnl h1)
    obtain ⟨c, hc⟩ : ∃ c, l[n]'hnl = c := ⟨_, rfl⟩
    rw [hc] at h1
    have e1 : ((c.toNat : Int) == 39) = false := toNat_neQ (d := 39) h1
    have e2 : ((c.toNat : Int) != 39) = true := by rw [bne, e1]; rfl
    have hge : ¬ ((bsQ l).size : Int) ≤ (n : Int) + 2 := by omega
    have hlt : n < (bsQ l).size := by omega
    have hsc : (bsQ l)[n]'hlt = c := by rw [hg n hlt (by omega), hc]
    generalize bsQ l = s at *
    have hi0 : (0 : Int) ≤ (n : Int) := by omega
    have hi' : (n : Int) < (s.size : Int) := by omega
    clear hz hg h0 h1 hc
    go_enter Tryz.func33, Tryz.ntmps33
    go_wp2
    go_ret
    exact ⟨retQ_i (by rw [HV.out]; rfl), Below.refl _ _⟩
  obtain ⟨d, hd⟩ : ∃ d, l[n + 1]'hnl1 = d := ⟨_, rfl⟩
  have hge : ¬ ((bsQ l).size : Int) ≤ (n : Int) + 2 := by omega
  have hlt : n < (bsQ l).size := by omega
  have hlt1 : n + 1 < (bsQ l).size := by omega
  have hsc : (bsQ l)[n]'hlt = 39 := by rw [hg n hlt (by omega), h1]
  have hsd : (bsQ l)[n + 1]'hlt1 = d := by rw [hg (n + 1) hlt1 (by omega), hd]
  have hor := low_or d
  have LT := hide (letterQ_any d)
  have C3 := hide bases_any
  have hi0 : (0 : Int) ≤ (n : Int) := by omega
  have hi' : (n : Int) < ((bsQ l).size : Int) := by omega
  have hi1 : (0 : Int) ≤ (n : Int) + 1 := by omega
  have hi1' : (n : Int) + 1 < ((bsQ l).size : Int) := by omega
  have hn1 : ((n : Int) + 1).toNat = n + 1 := by omega
  have L := hide (fun (W : World) (r : Nat) (h : BasesAt W r) => show (Instr.lookup 54 (.map (some r)) (.int .u8 (lowQ d).toNat) true).run Tryz.prog W = .ok (.tuple #[.int .i64 _, .bool _]) W from look_base W r h (lowQ d) true)
  generalize hk : (((baseQ (lowQ d)).getD 0 : Nat) : Int) = k at *
  clear hk
  cases hbs : (baseQ (lowQ d)).isSome with
  | false =>
    rw [hbs] at L
    have HV := hide (constQ_base (l := l) (n := n) hnl1 (.inl (by rw [hd]; exact Option.isSome_eq_false_iff.1 hbs |> Option.isNone_iff_eq_none.1)))
    generalize (lowQ d) = b at *
    generalize bsQ l = s at *
    clear hz hg h0 h1 hd hbs
    go_enter Tryz.func33, Tryz.ntmps33
    go_upto_region 4 with fail
    go_region_with (go_at_call 38; refine (C3.out _).mono ?_; rintro e w1 ⟨rfl, hB, b1⟩; have L1 := L.out w1 (w.heap.size + 1) (by simpa using hB); have hc5 := (arm_one b1).1; have Hb := hide (arm_one b1).2.1; have hsz := hide (arm_one b1).2.2; clear b1 hB)
    all_goals
      go_wp2_with fail
      go_ret
      exact ⟨retQ_i (by rw [HV.out]; rfl), Hb.out⟩
  | true =>
    rw [hbs] at L
    cases hlt2 : ltQ d with
    | false =>
      rw [hlt2] at LT
      have HV := hide (constQ_base (l := l) (n := n) hnl1 (.inr (by rw [hd]; exact hlt2)))
      generalize (lowQ d) = b at *
      generalize bsQ l = s at *
      clear hz hg h0 h1 hd hbs hlt2
      go_enter Tryz.func33, Tryz.ntmps33
      go_upto_region 4 with fail
      go_region_with (go_at_call 38; refine (C3.out _).mono ?_; rintro e w1 ⟨rfl, hB, b1⟩; have L1 := L.out w1 (w.heap.size + 1) (by simpa using hB); have hc5 := (arm_one b1).1; have Hb := hide (arm_one b1).2.1; have hsz := hide (arm_one b1).2.2; clear b1 hB)
      all_goals
        go_wp2_with fail
        refine (LT.out _).mono ?_
        rintro e w2 ⟨rfl, rfl⟩
        go_wp2_with fail
        go_ret
        exact ⟨retQ_i (by rw [HV.out]; rfl), Hb.out⟩
    | true =>
      rw [hlt2] at LT
      have HV := constQ_some (l := l) (n := n) (by omega) h1 (by rw [hd]; exact hbs) (by rw [hd]; exact hlt2)
      rw [hd] at HV
      have hk3 : spn (ofQ (lowQ d)) (l.drop (n + 2)) ≤ 100000 := Nat.le_trans (spn_le _ _) (by rw [List.length_drop]; omega)
      have R2 := hide (fun (W : World) (p : Addr) (h : W.cell? p = some (.int .u8 (lowQ d).toNat)) (hb : p.block < W.heap.size) => R.out (lowQ d) W p h hb)
      clear R
      generalize (lowQ d) = b at *
      generalize bsQ l = s at *
      generalize spn (ofQ b) (l.drop (n + 2)) = m at *
      have HV := hide HV
      clear hz hg h0 h1 hd hbs hlt2
      by_cases hm : m = 0
      · have em : (((n + 2 + m : Nat) : Int) == (n : Int) + 2) = true := by rw [beq_iff_eq]; omega
        go_enter Tryz.func33, Tryz.ntmps33
        go_upto_region 4 with fail
        go_region_with (go_at_call 38; refine (C3.out _).mono ?_; rintro e w1 ⟨rfl, hB, b1⟩; have L1 := L.out w1 (w.heap.size + 1) (by simpa using hB); have hc5 := (arm_one b1).1; have Hb := hide (arm_one b1).2.1; have hsz := hide (arm_one b1).2.2; clear b1 hB)
        all_goals
          go_wp2_with fail
          refine (LT.out _).mono ?_
          rintro e w2 ⟨rfl, rfl⟩
          go_wp2_with fail
          refine (R2.out w2 ⟨w.heap.size, 0, none⟩ hc5 hsz.out).mono ?_
          rintro e w2 ⟨rfl, b2⟩
          go_wp2_with fail
          go_ret
          exact ⟨retQ_i (by rw [HV.out, if_pos hm]; rfl), Hb.out.trans (b2.mono Hb.out.size)⟩
      · have em : (((n + 2 + m : Nat) : Int) == (n : Int) + 2) = false := by rw [beq_eq_false_iff_ne]; omega
        go_enter Tryz.func33, Tryz.ntmps33
        go_upto_region 4 with fail
        go_region_with (go_at_call 38; refine (C3.out _).mono ?_; rintro e w1 ⟨rfl, hB, b1⟩; have L1 := L.out w1 (w.heap.size + 1) (by simpa using hB); have hc5 := (arm_one b1).1; have Hb := hide (arm_one b1).2.1; have hsz := hide (arm_one b1).2.2; clear b1 hB)
        all_goals
          go_wp2_with fail
          refine (LT.out _).mono ?_
          rintro e w2 ⟨rfl, rfl⟩
          go_wp2_with fail
          refine (R2.out w2 ⟨w.heap.size, 0, none⟩ hc5 hsz.out).mono ?_
          rintro e w2 ⟨rfl, b2⟩
          go_wp2_with fail
          go_ret
          exact ⟨retQ_i (by rw [HV.out, if_neg hm]; omega), Hb.out.trans (b2.mono Hb.out.size)⟩
end Go.Proofs.YtjlpekjfmgcbdaaGreatDoor
