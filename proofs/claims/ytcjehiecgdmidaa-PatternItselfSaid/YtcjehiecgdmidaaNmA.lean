/- Contracts of both packages: printable, index, Escaped, Valid, bound, Width. -/
import Derived.Test.YtcjehiecgdmidaaDec
import Derived.Test.YtcjehiecgdmidaaNmQ
import Derived.Deep.QuietTactic
import Derived.BigQuiet
set_option linter.unusedVariables false
namespace Go.Proofs.Ytcjehiecgdmidaa
open Go.RowKit Go.Shelf Go.Sort

theorem size_list (s : ByteArray) : s.data.toList.length = s.size := (Lib.size_eq s).symm
theorem hd_at (s : ByteArray) (h : 0 < s.size) : s.data.toList.head? = some (s[0]'h) := by
  rw [List.head?_eq_getElem?]; exact Lib.data_getElem? s 0 h
theorem empty_of {s : ByteArray} (h : ¬ 0 < s.size) : s = ⟨#[]⟩ := ByteArray.ext (Array.eq_empty_of_size_eq_zero (by have : s.data.size = s.size := rfl; omega))
theorem toList_pos {s : ByteArray} (h : 0 < s.size) : ¬ s.toList = [] ∧ s.toList.isEmpty = false := by
  have h0 : ¬ s.toList = [] := by
    rw [Lib.toList_data]; intro e; rw [Lib.size_eq, e] at h; exact absurd h (by simp)
  refine ⟨h0, ?_⟩
  cases hh : s.toList with
  | nil => exact absurd hh h0
  | cons => rfl
theorem u8_eq (c : UInt8) (n : Nat) (hn : n < 256) : c = UInt8.ofNat n ↔ (c.toNat : Int) = n := by
  constructor
  · intro h; rw [h, UInt8.toNat_ofNat', Nat.mod_eq_of_lt (by omega)]
  · intro h; apply UInt8.toNat_inj.1; rw [UInt8.toNat_ofNat', Nat.mod_eq_of_lt (by omega)]; omega
theorem allPr_of (s : ByteArray) (h : ∀ j, ∀ hj : j < s.size, prB (s[j]'hj) = true) : allPr s.data.toList = true := by
  unfold allPr
  rw [List.all_eq_true]
  intro c hc
  obtain ⟨j, hj, rfl⟩ := List.mem_iff_getElem.1 hc
  exact h j (by simpa using hj)
theorem allPr_not (s : ByteArray) (j : Nat) (hj : j < s.size) (h : prB (s[j]'hj) = false) : allPr s.data.toList = false := by
  unfold allPr
  rw [List.all_eq_false]
  exact ⟨s[j]'hj, List.mem_of_getElem? (Lib.data_getElem? s j hj), by rw [h]; decide⟩
theorem prB_true {c : UInt8} (h : prB c = true) : (33 : Int) ≤ (c.toNat : Int) ∧ (c.toNat : Int) ≤ 126 := by have := of_decide_eq_true h; omega
theorem prB_false {c : UInt8} (h : prB c = false) : (c.toNat : Int) < 33 ∨ (33 ≤ (c.toNat : Int) ∧ 126 < (c.toNat : Int)) := by have := of_decide_eq_false h; omega
/-- the first place of a byte, or -1 -/
def idxI (x : Int) (l : List UInt8) : Int := match l.findIdx? (fun c => (c.toNat : Int) == x) with | some k => (k : Int) | none => -1
theorem idxI_found (s : ByteArray) (x : Int) (k : Nat) (hk : k < s.size) (hno : ∀ j, j < k → ∀ hj : j < s.size, ((s[j]'hj).toNat : Int) ≠ x) (he : ((s[k]'hk).toNat : Int) = x) : idxI x s.data.toList = k := by
  unfold idxI
  rw [show s.data.toList.findIdx? (fun c => (c.toNat : Int) == x) = some k from by
    rw [List.findIdx?_eq_some_iff_getElem]
    refine ⟨by rw [size_list]; exact hk, ?_, fun j hj => ?_⟩
    · rw [Array.getElem_toList]; exact beq_iff_eq.2 he
    · rw [Array.getElem_toList]
      intro h; exact hno j hj (by omega) (beq_iff_eq.1 h)]
theorem idxI_none (s : ByteArray) (x : Int) (hno : ∀ j, ∀ hj : j < s.size, ((s[j]'hj).toNat : Int) ≠ x) : idxI x s.data.toList = -1 := by
  unfold idxI
  rw [show s.data.toList.findIdx? (fun c => (c.toNat : Int) == x) = none from by
    rw [List.findIdx?_eq_none_iff]
    intro c hc
    obtain ⟨j, hj, rfl⟩ := List.mem_iff_getElem.1 hc
    rw [size_list] at hj
    exact beq_eq_false_iff_ne.2 (hno j hj)]
theorem idxI_cases (x : Int) (l : List UInt8) : (idxI x l = -1 ∧ ∀ c ∈ l, (c.toNat : Int) ≠ x) ∨ ∃ k : Nat, idxI x l = k ∧ ∃ h : k < l.length, ((l[k]'h).toNat : Int) = x ∧ ∀ j (hj : j < k), ((l[j]'(by omega)).toNat : Int) ≠ x := by
  unfold idxI
  cases h : l.findIdx? (fun c => (c.toNat : Int) == x) with
  | none =>
    left
    rw [List.findIdx?_eq_none_iff] at h
    exact ⟨rfl, fun c hc => by have := h c hc; simpa using this⟩
  | some k =>
    right
    rw [List.findIdx?_eq_some_iff_getElem] at h
    obtain ⟨h1, h2, h3⟩ := h
    exact ⟨k, rfl, h1, by simpa using h2, fun j hj => by have := h3 j hj; simpa using this⟩
theorem idxI_lt (x : Int) (l : List UInt8) : idxI x l < 0 ↔ ∀ c ∈ l, (c.toNat : Int) ≠ x := by
  rcases idxI_cases x l with ⟨h, hn⟩ | ⟨k, h, hk, he, _⟩
  · rw [h]; exact ⟨fun _ => hn, fun _ => by decide⟩
  · rw [h]
    exact ⟨fun h => by omega, fun h => absurd he (h _ (List.getElem_mem hk))⟩
theorem vN_idx {l : List UInt8} (h : l.head? ≠ some 92) : vN l = (decide (1 ≤ l.length ∧ l.length ≤ 32) && (allPr l && (decide (l.head? ≠ some 36) && decide (idxI 92 l < 0 ∧ idxI 46 l < 0 ∧ idxI 91 l < 0 ∧ idxI 93 l < 0)))) := by
  rw [vN_plain h]
  congr 3
  rw [Bool.eq_iff_iff, decide_eq_true_eq, List.all_eq_true, idxI_lt, idxI_lt, idxI_lt, idxI_lt]
  constructor
  · intro hh
    have key : ∀ n : Nat, n = 92 ∨ n = 46 ∨ n = 91 ∨ n = 93 → ∀ c ∈ l, ((c.toNat : Nat) : Int) ≠ n := fun n hn c hc e => by
      have := hh c hc
      have hc' := (u8_eq c n (by omega)).2 e
      rw [hc'] at this
      rcases hn with rfl | rfl | rfl | rfl <;> exact absurd this (by decide)
    exact ⟨key 92 (by simp), key 46 (by simp), key 91 (by simp), key 93 (by simp)⟩
  · rintro ⟨h1, h2, h3, h4⟩ c hc
    have g := fun (n : Nat) (hn : n < 256) (h : ∀ c ∈ l, (c.toNat : Int) ≠ n) => show (c == UInt8.ofNat n) = false from beq_eq_false_iff_ne.2 fun e => h c hc ((u8_eq c n hn).1 e)
    have g1 := g 92 (by decide) h1
    have g2 := g 46 (by decide) h2
    have g3 := g 91 (by decide) h3
    have g4 := g 93 (by decide) h4
    unfold okC
    rw [show (92 : UInt8) = UInt8.ofNat 92 from rfl, show (46 : UInt8) = UInt8.ofNat 46 from rfl, show (91 : UInt8) = UInt8.ofNat 91 from rfl, show (93 : UInt8) = UInt8.ofNat 93 from rfl, g1, g2, g3, g4]; rfl

set_option maxHeartbeats 2000000 in
theorem printable_any (s : ByteArray) (w : World) (hs : s.size ≤ 1099511627776) :
    Calls Try.prog 33 #[.string s] w fun e w' => e = .returned (.bool (allPr s.data.toList)) ∧ w' = w := by
  go_enter Try.func33, Try.ntmps33
  go_wp2
  go_loop [6] (fun v => ∃ i : Nat, v = .int .i64 i ∧ i ≤ s.size ∧ ∀ j, j < i → ∀ hj : j < s.size, prB (s[j]'hj) = true) (fun v => s.size - (intOf v).toNat)
  case atStart => exact ⟨0, rfl, Nat.zero_le _, fun j h => absurd h (by omega)⟩
  case round =>
    obtain ⟨i, rfl, hi0, hpr⟩ := hrel
    have Hpr := hide hpr
    clear hpr
    by_cases hi : i < s.size
    · cases hp : prB (s[i]'hi) with
      | true =>
        obtain ⟨p1, p2⟩ := prB_true hp
        have Hp := hide hp
        clear hp
        go_wp2
        go_round
        case rel =>
          refine ⟨i + 1, by go_num, by omega, fun j hj hj' => ?_⟩
          rcases Nat.lt_or_ge j i with h | h
          · exact Hpr.out j h hj'
          · obtain rfl : j = i := by omega
            exact Hp.out
        case measure => simp [intOf]; omega
      | false =>
        have p := prB_false hp
        have Hf := hide (allPr_not s i hi hp)
        clear hp
        rcases p with p | ⟨p, p'⟩
        all_goals
          go_wp2
          go_ret
          exact ⟨ret_b Hf.out, rfl⟩
    · obtain rfl : i = s.size := Nat.le_antisymm hi0 (Nat.le_of_not_lt hi)
      have Hall := hide (allPr_of s fun j hj => Hpr.out j hj hj)
      go_wp2
      go_ret
      exact ⟨ret_b Hall.out, rfl⟩

/-- the tests of the first byte and of the length, as a walk reads them -/
structure Front (s : ByteArray) (esc : Bool) : Prop where
  pos : 0 < s.size
  e : ((s[0]'pos).toNat : Int) = 92 ∧ esc = true ∨ (((s[0]'pos).toNat : Int) == 92) = false ∧ esc = false
theorem front (s : ByteArray) (h : 0 < s.size) : ∃ b, Front s b ∧ (b = true ↔ s.data.toList.head? = some 92) := by
  by_cases hc : ((s[0]'h).toNat : Int) = 92
  · exact ⟨true, ⟨h, .inl ⟨hc, rfl⟩⟩, fun _ => by rw [hd_at s h]; congr 1; exact (u8_eq _ 92 (by decide)).2 hc, fun _ => rfl⟩
  · refine ⟨false, ⟨h, .inr ⟨beq_eq_false_iff_ne.2 hc, rfl⟩⟩, (fun e => by cases e), fun e => ?_⟩
    rw [hd_at s h] at e
    exact absurd ((u8_eq _ 92 (by decide)).1 (Option.some.inj e)) hc
theorem dollar (s : ByteArray) (h : 0 < s.size) : (((s[0]'h).toNat : Int) == 36) = decide (s.data.toList.head? = some 36) := by
  rw [Bool.eq_iff_iff, beq_iff_eq, decide_eq_true_eq, hd_at s h]
  constructor
  · intro e; congr 1; exact (u8_eq _ 36 (by decide)).2 e
  · intro e; exact (u8_eq _ 36 (by decide)).1 (Option.some.inj e)

end Go.Proofs.Ytcjehiecgdmidaa
