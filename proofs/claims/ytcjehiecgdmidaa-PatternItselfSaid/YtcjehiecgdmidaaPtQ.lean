/- Plain laws of patterns: how they are read. -/
import Derived.Test.YtcjehiecgdmidaaPtP
set_option linter.unusedVariables false
set_option linter.unusedSimpArgs false
namespace Go.Proofs.Ytcjehiecgdmidaa

/-- may a byte be one of a set's elements -/
def elB (c : UInt8) : Bool := decide (33 ≤ c.toNat ∧ c.toNat ≤ 126) && !(c == 46 || c == 92 || c == 91 || c == 93)
/-- is the element at the front a range -/
def rngB (b : List UInt8) : Bool := decide (3 ≤ b.length) && decide (b[1]? = some 45)
def hiB (b : List UInt8) : UInt8 := if rngB b then b.getD 2 0 else b.headD 0
def stepB (b : List UInt8) : Nat := if rngB b then 3 else 1
/-- is the element at the front a good one -/
def goodB (b : List UInt8) : Bool := elB (b.headD 0) && elB (hiB b) && decide ((b.headD 0).toNat ≤ (hiB b).toNat) && !(!rngB b && b.headD 0 == 45)
/-- a set's body: the bytes so far, and those of its elements -/
def setF : Nat → List UInt8 → (UInt8 → Bool) → Option (UInt8 → Bool)
  | 0, b, f => if b = [] then some f else none
  | n + 1, b, f => if b = [] then some f else if goodB b then setF n (b.drop (stepB b)) (fun c => f c || decide ((b.headD 0).toNat ≤ c.toNat ∧ c.toNat ≤ (hiB b).toNat)) else none
/-- a text before and behind a byte -/
def cutB (x : UInt8) (s : List UInt8) : Option (List UInt8 × List UInt8) := if x ∈ s then some (s.takeWhile (· != x), s.drop ((s.takeWhile (· != x)).length + 1)) else none
def noIt : It := ⟨false, fun _ => false, false, 0⟩
/-- a set behind its bracket -/
def setV (s : List UInt8) : Option (It × List UInt8) :=
  let inv := decide (s.head? = some 33)
  let s1 := if inv then s.tail else s
  (cutB 93 s1).bind fun p => if p.1 = [] then none else (setF p.1.length p.1 fun _ => false).map fun f => (⟨false, (if inv then fun c => !f c else f), false, 0⟩, p.2)
/-- an item -/
def nextV : List UInt8 → Option (It × List UInt8)
  | [] => none
  | c :: t => if c.toNat < 33 ∨ 126 < c.toNat ∨ c = 46 ∨ c = 92 ∨ c = 93 then none
    else if c = 91 then setV t
    else if c = 42 then some (⟨true, fun _ => false, false, 0⟩, t)
    else if c = 63 then some (⟨false, fun _ => true, false, 0⟩, t)
    else some (⟨false, fun x => x == c, true, c⟩, t)
def wildF : Nat → List UInt8 → Option (List It)
  | 0, s => if s = [] then some [] else none
  | n + 1, s => if s = [] then some [] else (nextV s).bind fun p => (wildF n p.2).map (p.1 :: ·)
def wildV (s : List UInt8) : Option (List It) := if s = [] ∨ 64 < s.length then none else wildF s.length s

/-- the only name that a part matches -/
def It.isPlain (x : It) : Bool := x.plain
def Pt.fixed : Pt → Option (List UInt8)
  | .any => none
  | .lit n => some n
  | .wild w => if w.all It.isPlain then some (w.map It.self) else none
/-- the names at the front that are fixed -/
def prefixV : List Pt → List (List UInt8)
  | [] => []
  | x :: xs => match x.fixed with
    | some n => n :: prefixV xs
    | none => []
/-- items that are as read: what is plain matches its own byte alone -/
def It.fit (x : It) : Prop := x.plain = true → x.star = false ∧ ∀ c, x.set c = (c == x.self)
def Pt.fit : Pt → Prop
  | .wild w => ∀ x ∈ w, x.fit
  | _ => True
theorem mW_plain : ∀ (w : List It) (s : List UInt8), (∀ x ∈ w, x.fit) → w.all It.isPlain = true → (mW w s = true ↔ s = w.map It.self)
  | [], s, _, _ => by
    show s.isEmpty = true ↔ s = []
    exact List.isEmpty_iff
  | x :: xs, s, hf, hp => by
    rw [List.all_cons, Bool.and_eq_true] at hp
    obtain ⟨h1, h2⟩ := hf x (List.mem_cons_self ..) hp.1
    have ih := fun t => mW_plain xs t (fun y hy => hf y (List.mem_cons_of_mem _ hy)) hp.2
    cases s with
    | nil => rw [mW_none xs h1]; exact ⟨fun h => (by cases h), fun h => (by cases h)⟩
    | cons c t =>
      rw [mW_cons xs c t h1, Bool.and_eq_true, h2, ih t, List.map_cons, beq_iff_eq]
      constructor
      · rintro ⟨rfl, rfl⟩; rfl
      · intro h; injection h with h3 h4; exact ⟨h3, h4⟩
theorem fixed_ok {x : Pt} {n : List UInt8} (hf : x.fit) (h : x.fixed = some n) (s : List UInt8) : x.isAny = false ∧ (x.ok s = true ↔ s = n) := by
  cases x with
  | any => cases h
  | lit m => cases h; exact ⟨rfl, decide_eq_true_iff⟩
  | wild w =>
    have h2 : (if w.all It.isPlain then some (w.map It.self) else none) = some n := h
    by_cases hp : w.all It.isPlain = true
    · rw [if_pos hp] at h2
      cases h2
      exact ⟨rfl, mW_plain w s hf hp⟩
    · rw [if_neg hp] at h2; cases h2
/-- each path that is matched begins with the fixed names -/
theorem prefix_of : ∀ (ps : List Pt) (p : List (List UInt8)), (∀ x ∈ ps, x.fit) → mP ps p = true → (prefixV ps).length ≤ p.length ∧ prefixV ps = p.take (prefixV ps).length
  | [], p, _, _ => ⟨Nat.zero_le _, rfl⟩
  | x :: xs, p, hf, hm => by
    cases hx : x.fixed with
    | none => unfold prefixV; rw [hx]; exact ⟨Nat.zero_le _, rfl⟩
    | some n =>
      have hfx := hf x (List.mem_cons_self ..)
      cases p with
      | nil => rw [mP_none _ (fixed_ok hfx hx []).1] at hm; cases hm
      | cons m t =>
        rw [mP_cons _ _ _ (fixed_ok hfx hx m).1, Bool.and_eq_true, (fixed_ok hfx hx m).2] at hm
        obtain ⟨rfl, hm2⟩ := hm
        obtain ⟨h1, h2⟩ := prefix_of xs t (fun y hy => hf y (List.mem_cons_of_mem _ hy)) hm2
        unfold prefixV
        rw [hx]
        simp only [List.length_cons, List.take_succ_cons]
        exact ⟨by omega, by rw [← h2]⟩
/-- where all parts are fixed the fixed names are matched -/
theorem prefix_all : ∀ (ps : List Pt), (∀ x ∈ ps, x.fit) → (∀ x ∈ ps, x.fixed ≠ none) → mP ps (prefixV ps) = true
  | [], _, _ => rfl
  | x :: xs, hf, ha => by
    cases hx : x.fixed with
    | none => exact absurd hx (ha x (List.mem_cons_self ..))
    | some n =>
      have hfx := hf x (List.mem_cons_self ..)
      unfold prefixV
      rw [hx]
      simp only
      rw [mP_cons _ _ _ (fixed_ok hfx hx n).1, (fixed_ok hfx hx n).2.2 rfl, Bool.true_and]
      exact prefix_all xs (fun y hy => hf y (List.mem_cons_of_mem _ hy)) (fun y hy => ha y (List.mem_cons_of_mem _ hy))
theorem nextV_fit {s t : List UInt8} {x : It} (h : nextV s = some (x, t)) : x.fit := by
  cases s with
  | nil => cases h
  | cons c r =>
    rw [nextV] at h
    by_cases h1 : c.toNat < 33 ∨ 126 < c.toNat ∨ c = 46 ∨ c = 92 ∨ c = 93
    · rw [if_pos h1] at h; cases h
    · rw [if_neg h1] at h
      by_cases h2 : c = 91
      · rw [if_pos h2] at h
        unfold setV at h
        simp only at h
        cases hc : cutB 93 (if decide (r.head? = some 33) = true then r.tail else r) with
        | none => rw [hc] at h; cases h
        | some p =>
          rw [hc] at h
          simp only [Option.bind_some] at h
          by_cases h3 : p.1 = []
          · rw [if_pos h3] at h; cases h
          · rw [if_neg h3] at h
            cases hs : setF p.1.length p.1 fun _ => false with
            | none => rw [hs] at h; cases h
            | some f => rw [hs] at h; cases h; intro hp; cases hp
      · rw [if_neg h2] at h
        by_cases h3 : c = 42
        · rw [if_pos h3] at h; cases h; intro hp; cases hp
        · rw [if_neg h3] at h
          by_cases h4 : c = 63
          · rw [if_pos h4] at h; cases h; intro hp; cases hp
          · rw [if_neg h4] at h; cases h; intro _; exact ⟨rfl, fun _ => rfl⟩
theorem wildF_fit : ∀ (n : Nat) (s : List UInt8) (w : List It), wildF n s = some w → ∀ x ∈ w, x.fit
  | 0, s, w, h => by
    unfold wildF at h
    split at h
    · cases h; intro x hx; cases hx
    · cases h
  | n + 1, s, w, h => by
    unfold wildF at h
    split at h
    · cases h; intro x hx; cases hx
    · cases hn : nextV s with
      | none => rw [hn] at h; cases h
      | some p =>
        rw [hn] at h
        simp only [Option.bind_some] at h
        cases hr : wildF n p.2 with
        | none => rw [hr] at h; cases h
        | some w2 =>
          rw [hr] at h
          cases h
          intro x hx
          rcases List.mem_cons.1 hx with rfl | hx
          · exact nextV_fit (t := p.2) hn
          · exact wildF_fit n p.2 w2 hr x hx
theorem wildV_fit {s : List UInt8} {w : List It} (h : wildV s = some w) : ∀ x ∈ w, x.fit := by
  unfold wildV at h
  split at h
  · cases h
  · exact wildF_fit _ _ _ h
end Go.Proofs.Ytcjehiecgdmidaa
