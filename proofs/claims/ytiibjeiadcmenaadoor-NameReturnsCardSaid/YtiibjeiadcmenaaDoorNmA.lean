/- Contracts of both packages: printable, index, Escaped, Valid, bound, Width. -/
import Derived.Test.YtiibjeiadcmenaaDoorDec
import Derived.Test.YtiibjeiadcmenaaDoorNmQ
import Derived.Deep.QuietTactic
import Derived.BigQuiet
set_option linter.unusedVariables false
namespace Go.Proofs.YtiibjeiadcmenaaDoor
open Go.RowKit Go.Shelf Go.Sort

theorem size_list (s : ByteArray) : s.data.toList.length = s.size := (Lib.size_eq s).symm
theorem hd_at (s : ByteArray) (h : 0 < s.size) : s.data.toList.head? = some (s[0]'h) := by
  rw [List.head?_eq_getElem?]; exact Lib.data_getElem? s 0 h
theorem empty_of {s : ByteArray} (h : ¬ 0 < s.size) : s = ⟨#[]⟩ := ByteArray.ext (Array.eq_empty_of_size_eq_zero (by have : s.data.size = s.size := rfl; omega))
theorem toList_pos {s : ByteArray} (h : 0 < s.size) : ¬ s.toList = [] ∧ s.toList.isEmpty = false := by
  have h0 : ¬ s.toList = [] := by
    rw [Lib.toList_data]; intro e; rw [Lib.size_eq, e] at h; exact absurd h (by simp)
  refine ⟨h0, ?_⟩
  cases hh : s.toList with
  | nil => exact absurd hh h0
  | cons => rfl
theorem u8_eq (c : UInt8) (n : Nat) (hn : n < 256) : c = UInt8.ofNat n ↔ (c.toNat : Int) = n := by
  constructor
  · intro h; rw [h, UInt8.toNat_ofNat', Nat.mod_eq_of_lt (by omega)]
  · intro h; apply UInt8.toNat_inj.1; rw [UInt8.toNat_ofNat', Nat.mod_eq_of_lt (by omega)]; omega
theorem allPr_of (s : ByteArray) (h : ∀ j, ∀ hj : j < s.size, prB (s[j]'hj) = true) : allPr s.data.toList = true := by
  unfold allPr
  rw [List.all_eq_true]
  intro c hc
  obtain ⟨j, hj, rfl⟩ := List.mem_iff_getElem.1 hc
  exact h j (by simpa using hj)
theorem allPr_not (s : ByteArray) (j : Nat) (hj : j < s.size) (h : prB (s[j]'hj) = false) : allPr s.data.toList = false := by
  unfold allPr
  rw [List.all_eq_false]
  exact ⟨s[j]'hj, List.mem_of_getElem? (Lib.data_getElem? s j hj), by rw [h]; decide⟩
theorem prB_true {c : UInt8} (h : prB c = true) : (33 : Int) ≤ (c.toNat : Int) ∧ (c.toNat : Int) ≤ 126 := by have := of_decide_eq_true h; omega
theorem prB_false {c : UInt8} (h : prB c = false) : (c.toNat : Int) < 33 ∨ (33 ≤ (c.toNat : Int) ∧ 126 < (c.toNat : Int)) := by have := of_decide_eq_false h; omega
/-- the first place of a byte, or -1 -/
def idxI (x : Int) (l : List UInt8) : Int := match l.findIdx? (fun c => (c.toNat : Int) == x) with | some k => (k : Int) | none => -1
theorem idxI_found (s : ByteArray) (x : Int) (k : Nat) (hk : k < s.size) (hno : ∀ j, j < k → ∀ hj : j < s.size, ((s[j]'hj).toNat : Int) ≠ x) (he : ((s[k]'hk).toNat : Int) = x) : idxI x s.data.toList = k := by
  unfold idxI
  rw [show s.data.toList.findIdx? (fun c => (c.toNat : Int) == x) = some k from by
    rw [List.findIdx?_eq_some_iff_getElem]
    refine ⟨by rw [size_list]; exact hk, ?_, fun j hj => ?_⟩
    · rw [Array.getElem_toList]; exact beq_iff_eq.2 he
    · rw [Array.getElem_toList]
      intro h; exact hno j hj (by omega) (beq_iff_eq.1 h)]
theorem idxI_none (s : ByteArray) (x : Int) (hno : ∀ j, ∀ hj : j < s.size, ((s[j]'hj).toNat : Int) ≠ x) : idxI x s.data.toList = -1 := by
  unfold idxI
  rw [show s.data.toList.findIdx? (fun c => (c.toNat : Int) == x) = none from by
    rw [List.findIdx?_eq_none_iff]
    intro c hc
    obtain ⟨j, hj, rfl⟩ := List.mem_iff_getElem.1 hc
    rw [size_list] at hj
    exact beq_eq_false_iff_ne.2 (hno j hj)]
theorem idxI_cases (x : Int) (l : List UInt8) : (idxI x l = -1 ∧ ∀ c ∈ l, (c.toNat : Int) ≠ x) ∨ ∃ k : Nat, idxI x l = k ∧ ∃ h : k < l.length, ((l[k]'h).toNat : Int) = x ∧ ∀ j (hj : j < k), ((l[j]'(by omega)).toNat : Int) ≠ x := by
  unfold idxI
  cases h : l.findIdx? (fun c => (c.toNat : Int) == x) with
  | none =>
    left
    rw [List.findIdx?_eq_none_iff] at h
    exact ⟨rfl, fun c hc => by have := h c hc; simpa using this⟩
  | some k =>
    right
    rw [List.findIdx?_eq_some_iff_getElem] at h
    obtain ⟨h1, h2, h3⟩ := h
    exact ⟨k, rfl, h1, by simpa using h2, fun j hj => by have := h3 j hj; simpa using this⟩
theorem idxI_lt (x : Int) (l : List UInt8) : idxI x l < 0 ↔ ∀ c ∈ l, (c.toNat : Int) ≠ x := by
  rcases idxI_cases x l with ⟨h, hn⟩ | ⟨k, h, hk, he, _⟩
  · rw [h]; exact ⟨fun _ => hn, fun _ => by decide⟩
  · rw [h]
    exact ⟨fun h => by omega, fun h => absurd he (h _ (List.getElem_mem hk))⟩
theorem vN_idx {l : List UInt8} (h : l.head? ≠ some 92) : vN l = (decide (1 ≤ l.length ∧ l.length ≤ 32) && (allPr l && (decide (l.head? ≠ some 36) && decide (idxI 92 l < 0 ∧ idxI 46 l < 0 ∧ idxI 91 l < 0 ∧ idxI 93 l < 0)))) := by
  rw [vN_plain h]
  congr 3
  rw [Bool.eq_iff_iff, decide_eq_true_eq, List.all_eq_true, idxI_lt, idxI_lt, idxI_lt, idxI_lt]
  constructor
  · intro hh
    have key : ∀ n : Nat, n = 92 ∨ n = 46 ∨ n = 91 ∨ n = 93 → ∀ c ∈ l, ((c.toNat : Nat) : Int) ≠ n := fun n hn c hc e => by
      have := hh c hc
      have hc' := (u8_eq c n (by omega)).2 e
      rw [hc'] at this
      rcases hn with rfl | rfl | rfl | rfl <;> exact absurd this (by decide)
    exact ⟨key 92 (by simp), key 46 (by simp), key 91 (by simp), key 93 (by simp)⟩
  · rintro ⟨h1, h2, h3, h4⟩ c hc
    have g := fun (n : Nat) (hn : n < 256) (h : ∀ c ∈ l, (c.toNat : Int) ≠ n) => show (c == UInt8.ofNat n) = false from beq_eq_false_iff_ne.2 fun e => h c hc ((u8_eq c n hn).1 e)
    have g1 := g 92 (by decide) h1
    have g2 := g 46 (by decide) h2
    have g3 := g 91 (by decide) h3
    have g4 := g 93 (by decide) h4
    unfold okC
    rw [show (92 : UInt8) = UInt8.ofNat 92 from rfl, show (46 : UInt8) = UInt8.ofNat 46 from rfl, show (91 : UInt8) = UInt8.ofNat 91 from rfl, show (93 : UInt8) = UInt8.ofNat 93 from rfl, g1, g2, g3, g4]; rfl

set_option maxHeartbeats 2000000 in
theorem printable_any (s : ByteArray) (w : World) (hs : s.size ≤ 1099511627776) :
    Calls Tryd.prog 34 #[.string s] w fun e w' => e = .returned (.bool (allPr s.data.toList)) ∧ w' = w := by
  go_enter Tryd.func34, Tryd.ntmps34
  go_wp2
  go_loop [6] (fun v => ∃ i : Nat, v = .int .i64 i ∧ i ≤ s.size ∧ ∀ j, j < i → ∀ hj : j < s.size, prB (s[j]'hj) = true) (fun v => s.size - (intOf v).toNat)
  case atStart => exact ⟨0, rfl, Nat.zero_le _, fun j h => absurd h (by omega)⟩
  case round =>
    obtain ⟨i, rfl, hi0, hpr⟩ := hrel
    have Hpr := hide hpr
    clear hpr
    by_cases hi : i < s.size
    · cases hp : prB (s[i]'hi) with
      | true =>
        obtain ⟨p1, p2⟩ := prB_true hp
        have Hp := hide hp
        clear hp
        go_wp2
        go_round
        case rel =>
          refine ⟨i + 1, by go_num, by omega, fun j hj hj' => ?_⟩
          rcases Nat.lt_or_ge j i with h | h
          · exact Hpr.out j h hj'
          · obtain rfl : j = i := by omega
            exact Hp.out
        case measure => simp [intOf]; omega
      | false =>
        have p := prB_false hp
        have Hf := hide (allPr_not s i hi hp)
        clear hp
        rcases p with p | ⟨p, p'⟩
        all_goals
          go_wp2
          go_ret
          exact ⟨ret_b Hf.out, rfl⟩
    · obtain rfl : i = s.size := Nat.le_antisymm hi0 (Nat.le_of_not_lt hi)
      have Hall := hide (allPr_of s fun j hj => Hpr.out j hj hj)
      go_wp2
      go_ret
      exact ⟨ret_b Hall.out, rfl⟩

theorem refPrintable_u8 (c : UInt8) (w : World) :
    Calls Tryd.prog 55 #[.int .u8 c.toNat] w fun e w' => e = .returned (.bool (prB c)) ∧ w' = w := by
  go_enter Tryd.func55, Tryd.ntmps55
  go_wp2
  all_goals go_ret
  all_goals refine ⟨ret_b ?_, rfl⟩
  all_goals (rw [Bool.eq_iff_iff]; simp [prB]; omega)

set_option maxHeartbeats 2000000 in
theorem refPrintable_any (s : ByteArray) (w : World) (hs : s.size ≤ 1099511627776) :
    Calls Tryd.prog 43 #[.string s] w fun e w' => e = .returned (.bool (allPr s.data.toList)) ∧ w' = w := by
  go_enter Tryd.func43, Tryd.ntmps43
  go_wp2
  go_loop [3] (fun v => ∃ i : Nat, v = .int .i64 i ∧ i ≤ s.size ∧ ∀ j, j < i → ∀ hj : j < s.size, prB (s[j]'hj) = true) (fun v => s.size - (intOf v).toNat)
  case atStart => exact ⟨0, rfl, Nat.zero_le _, fun j h => absurd h (by omega)⟩
  case round =>
    obtain ⟨i, rfl, hi0, hpr⟩ := hrel
    have Hpr := hide hpr
    clear hpr
    by_cases hi : i < s.size
    · go_wp2_with fail
      refine (refPrintable_u8 _ _).mono ?_
      rintro e w1 ⟨rfl, rfl⟩
      cases hp : prB (s[i]'hi) with
      | true =>
        have Hp := hide hp
        clear hp
        go_wp2
        go_round
        case rel =>
          refine ⟨i + 1, by go_num, by omega, fun j hj hj' => ?_⟩
          rcases Nat.lt_or_ge j i with h | h
          · exact Hpr.out j h hj'
          · obtain rfl : j = i := by omega
            exact Hp.out
        case measure => simp [intOf]; omega
      | false =>
        have Hf := hide (allPr_not s i hi hp)
        clear hp
        go_wp2
        go_ret
        exact ⟨ret_b Hf.out, rfl⟩
    · obtain rfl : i = s.size := Nat.le_antisymm hi0 (Nat.le_of_not_lt hi)
      have Hall := hide (allPr_of s fun j hj => Hpr.out j hj hj)
      go_wp2
      go_ret
      exact ⟨ret_b Hall.out, rfl⟩

set_option maxHeartbeats 2000000 in
theorem index_any (s : ByteArray) (x : Int) (w : World) (hs : s.size ≤ 1099511627776) :
    Calls Tryd.prog 40 #[.string s, .int .u8 x, .int .i64 0] w fun e w' => e = .returned (.int .i64 (idxI x s.data.toList)) ∧ w' = w := by
  go_enter Tryd.func40, Tryd.ntmps40
  go_wp2
  go_loop [7] (fun v => ∃ i : Nat, v = .int .i64 i ∧ i ≤ s.size ∧ ∀ j, j < i → ∀ hj : j < s.size, ((s[j]'hj).toNat : Int) ≠ x) (fun v => s.size - (intOf v).toNat)
  case atStart => exact ⟨0, rfl, Nat.zero_le _, fun j h => absurd h (by omega)⟩
  case round =>
    obtain ⟨i, rfl, hi0, hno⟩ := hrel
    have Hno := hide hno
    clear hno
    by_cases hi : i < s.size
    · by_cases he : ((s[i]'hi).toNat : Int) = x
      · have Hf := hide (idxI_found s x i hi Hno.out he)
        have e1 : (((s[i]'hi).toNat : Int) == x) = true := beq_iff_eq.2 he
        clear he
        go_wp2
        go_ret
        exact ⟨by rw [Hf.out]; rfl, rfl⟩
      · have e1 : (((s[i]'hi).toNat : Int) == x) = false := beq_eq_false_iff_ne.2 he
        have He := hide he
        clear he
        go_wp2
        go_round
        case rel =>
          refine ⟨i + 1, by go_num, by omega, fun j hj hj' => ?_⟩
          rcases Nat.lt_or_ge j i with h | h
          · exact Hno.out j h hj'
          · obtain rfl : j = i := by omega
            exact He.out
        case measure => simp [intOf]; omega
    · obtain rfl : i = s.size := Nat.le_antisymm hi0 (Nat.le_of_not_lt hi)
      have Hf := hide (idxI_none s x fun j hj => Hno.out j hj hj)
      go_wp2
      go_ret
      exact ⟨by rw [Hf.out]; rfl, rfl⟩

/-- the tests of the first byte and of the length, as a walk reads them -/
structure Front (s : ByteArray) (esc : Bool) : Prop where
  pos : 0 < s.size
  e : ((s[0]'pos).toNat : Int) = 92 ∧ esc = true ∨ (((s[0]'pos).toNat : Int) == 92) = false ∧ esc = false
theorem front (s : ByteArray) (h : 0 < s.size) : ∃ b, Front s b ∧ (b = true ↔ s.data.toList.head? = some 92) := by
  by_cases hc : ((s[0]'h).toNat : Int) = 92
  · exact ⟨true, ⟨h, .inl ⟨hc, rfl⟩⟩, fun _ => by rw [hd_at s h]; congr 1; exact (u8_eq _ 92 (by decide)).2 hc, fun _ => rfl⟩
  · refine ⟨false, ⟨h, .inr ⟨beq_eq_false_iff_ne.2 hc, rfl⟩⟩, (fun e => by cases e), fun e => ?_⟩
    rw [hd_at s h] at e
    exact absurd ((u8_eq _ 92 (by decide)).1 (Option.some.inj e)) hc
theorem dollar (s : ByteArray) (h : 0 < s.size) : (((s[0]'h).toNat : Int) == 36) = decide (s.data.toList.head? = some 36) := by
  rw [Bool.eq_iff_iff, beq_iff_eq, decide_eq_true_eq, hd_at s h]
  constructor
  · intro e; congr 1; exact (u8_eq _ 36 (by decide)).2 e
  · intro e; exact (u8_eq _ 36 (by decide)).1 (Option.some.inj e)

set_option maxHeartbeats 4000000 in
theorem refEscaped_any (s : ByteArray) (w : World) (hs : s.size ≤ 1099511627776) :
    Calls Tryd.prog 19 #[.string s] w fun e w' => e = .returned (.bool (escN s.data.toList)) ∧ w' = w := by
  have P := hide (fun W : World => refPrintable_any s W hs)
  have hl := size_list s
  by_cases h2 : 2 ≤ s.size
  · obtain ⟨b, ⟨h0, he⟩, hb⟩ := front s (by omega)
    by_cases h3 : s.size ≤ 32
    · have h3' : (s.size : Int) ≤ 32 := by omega
      rcases he with ⟨he, rfl⟩ | ⟨he, rfl⟩
      · have hE : escN s.data.toList = allPr s.data.toList := by
          unfold escN
          rw [vN_esc (hb.1 rfl), decide_eq_true (hb.1 rfl), hl, decide_eq_true h2, decide_eq_true ⟨h2, h3⟩]; rfl
        rw [hE]
        generalize allPr s.data.toList = pr at P ⊢
        clear hE hb hl
        go_enter Tryd.func19, Tryd.ntmps19
        go_wp2_with fail
        refine (P.out _).mono ?_
        rintro e w1 ⟨rfl, rfl⟩
        go_wp2
        go_ret
        exact ⟨rfl, rfl⟩
      · have hE : escN s.data.toList = false := by
          unfold escN
          rw [decide_eq_false (p := s.data.toList.head? = some 92) (fun h => by have := hb.2 h; cases this), Bool.false_and, Bool.and_false]
        rw [hE]
        clear hE hb hl
        go_enter Tryd.func19, Tryd.ntmps19
        go_wp2
        go_ret
        exact ⟨rfl, rfl⟩
    · have h3' : ¬ (s.size : Int) ≤ 32 := by omega
      have hE : escN s.data.toList = false := by
        cases h : escN s.data.toList with
        | false => rfl
        | true => have := (vN_len (escN_iff.1 h).2).2; omega
      rw [hE]
      clear hE hb hl he
      go_enter Tryd.func19, Tryd.ntmps19
      go_wp2
      go_ret
      exact ⟨rfl, rfl⟩
  · have h2' : ¬ (2 : Int) ≤ (s.size : Int) := by omega
    have hE : escN s.data.toList = false := by
      unfold escN; rw [decide_eq_false (by omega), Bool.false_and]
    rw [hE]
    clear hE hl
    go_enter Tryd.func19, Tryd.ntmps19
    go_wp2
    go_ret
    exact ⟨rfl, rfl⟩

set_option maxHeartbeats 8000000 in
theorem refValid_any (s : ByteArray) (w : World) (hs : s.size ≤ 1099511627776) :
    Calls Tryd.prog 18 #[.string s] w fun e w' => e = .returned (.bool (vN s.data.toList)) ∧ w' = w := by
  have E := hide (fun W : World => refEscaped_any s W hs)
  have P := hide (fun W : World => refPrintable_any s W hs)
  have hl := size_list s
  cases hE : escN s.data.toList with
  | true =>
    rw [hE] at E
    rw [(escN_iff.1 hE).2]
    clear hE hl
    go_enter Tryd.func18, Tryd.ntmps18
    go_wp2_with fail
    refine (E.out _).mono ?_
    rintro e w1 ⟨rfl, rfl⟩
    go_wp2
    go_ret
    exact ⟨rfl, rfl⟩
  | false =>
    rw [hE] at E
    by_cases h0 : 0 < s.size
    · obtain ⟨hn, hne⟩ := toList_pos h0
      have hne' : (!s.toList.isEmpty) = true := by rw [hne]; rfl
      by_cases h3 : s.size ≤ 32
      · have h3' : (s.size : Int) ≤ 32 := by omega
        cases hp : allPr s.data.toList with
        | false =>
          rw [hp] at P
          have hV : vN s.data.toList = false := by
            unfold vN; rw [hp, Bool.false_and, Bool.and_false]
          rw [hV]
          clear hV hp hl hE
          go_enter Tryd.func18, Tryd.ntmps18
          go_wp2_with fail
          refine (E.out _).mono ?_
          rintro e w1 ⟨rfl, rfl⟩
          go_wp2_with fail
          refine (P.out _).mono ?_
          rintro e w1 ⟨rfl, rfl⟩
          go_wp2
          go_ret
          exact ⟨rfl, rfl⟩
        | true =>
          rw [hp] at P
          have hd := dollar s h0
          have I := hide (fun (x : Int) (W : World) => index_any s x W hs)
          have hV : vN s.data.toList = (decide (s.data.toList.head? ≠ some 36) && decide (idxI 92 s.data.toList < 0 ∧ idxI 46 s.data.toList < 0 ∧ idxI 91 s.data.toList < 0 ∧ idxI 93 s.data.toList < 0)) := by
            by_cases hh : s.data.toList.head? = some 92
            · have hv : vN s.data.toList = false := by
                cases hv : vN s.data.toList with
                | false => rfl
                | true => rw [escN_iff.2 ⟨hh, hv⟩] at hE; cases hE
              have hi : ¬ idxI 92 s.data.toList < 0 := by
                rw [idxI_lt]
                intro h
                refine h 92 ?_ rfl
                cases hs' : s.data.toList with
                | nil => rw [hs'] at hh; cases hh
                | cons a t => rw [hs'] at hh; obtain rfl : a = 92 := Option.some.inj hh; simp
              rw [hv, decide_eq_false (p := idxI 92 s.data.toList < 0 ∧ idxI 46 s.data.toList < 0 ∧ idxI 91 s.data.toList < 0 ∧ idxI 93 s.data.toList < 0) (fun h => hi h.1), Bool.and_false]
            · rw [vN_idx hh, hl, hp, decide_eq_true ⟨h0, h3⟩]; rfl
          rw [hV]
          clear hV hp hl hE
          cases h36 : decide (s.data.toList.head? = some 36) with
          | true =>
            rw [h36] at hd
            have hr : (decide (s.data.toList.head? ≠ some 36)) = false := by
              rw [decide_eq_false_iff_not]; exact fun h => h (of_decide_eq_true h36)
            rw [hr, Bool.false_and]
            clear hr h36
            go_enter Tryd.func18, Tryd.ntmps18
            go_wp2_with fail
            refine (E.out _).mono ?_
            rintro e w1 ⟨rfl, rfl⟩
            go_wp2_with fail
            refine (P.out _).mono ?_
            rintro e w1 ⟨rfl, rfl⟩
            have hd2 : (((s[0]'h0).toNat : Int) != 36) = false := by simp only [bne, hd, Bool.not_true]
            go_wp2
            go_ret
            exact ⟨rfl, rfl⟩
          | false =>
            rw [h36] at hd
            have hr : (decide (s.data.toList.head? ≠ some 36)) = true := decide_eq_true (of_decide_eq_false h36)
            rw [hr, Bool.true_and]
            clear hr h36
            have hd2 : (((s[0]'h0).toNat : Int) != 36) = true := by simp only [bne, hd, Bool.not_false]
            have i1 : ∃ b, decide (idxI 92 s.data.toList < 0) = b := ⟨_, rfl⟩
            have hsplit : ∀ x : Int, idxI x s.data.toList < 0 ∨ ¬ idxI x s.data.toList < 0 := fun x => Decidable.em _
            by_cases j1 : idxI 92 s.data.toList < 0
            · by_cases j2 : idxI 46 s.data.toList < 0
              · by_cases j3 : idxI 91 s.data.toList < 0
                · have hfin : decide (idxI 92 s.data.toList < 0 ∧ idxI 46 s.data.toList < 0 ∧ idxI 91 s.data.toList < 0 ∧ idxI 93 s.data.toList < 0) = decide (idxI 93 s.data.toList < 0) := by
                    rw [Bool.eq_iff_iff, decide_eq_true_eq, decide_eq_true_eq]
                    exact ⟨fun h => h.2.2.2, fun h => ⟨j1, j2, j3, h⟩⟩
                  rw [hfin]
                  clear hfin i1 hsplit
                  go_enter Tryd.func18, Tryd.ntmps18
                  go_wp2_with fail
                  refine (E.out _).mono ?_
                  rintro e wx ⟨rfl, rfl⟩
                  go_wp2_with fail
                  refine (P.out _).mono ?_
                  rintro e wx ⟨rfl, rfl⟩
                  go_wp2_with fail
                  refine (I.out _ _).mono ?_
                  rintro e wx ⟨rfl, rfl⟩
                  go_wp2_with fail
                  refine (I.out _ _).mono ?_
                  rintro e wx ⟨rfl, rfl⟩
                  go_wp2_with fail
                  refine (I.out _ _).mono ?_
                  rintro e wx ⟨rfl, rfl⟩
                  go_wp2_with fail
                  refine (I.out _ _).mono ?_
                  rintro e wx ⟨rfl, rfl⟩
                  go_wp2
                  go_ret
                  exact ⟨rfl, rfl⟩
                · rw [decide_eq_false (fun h => j3 h.2.2.1)]
                  clear i1 hsplit
                  go_enter Tryd.func18, Tryd.ntmps18
                  go_wp2_with fail
                  refine (E.out _).mono ?_
                  rintro e wx ⟨rfl, rfl⟩
                  go_wp2_with fail
                  refine (P.out _).mono ?_
                  rintro e wx ⟨rfl, rfl⟩
                  go_wp2_with fail
                  refine (I.out _ _).mono ?_
                  rintro e wx ⟨rfl, rfl⟩
                  go_wp2_with fail
                  refine (I.out _ _).mono ?_
                  rintro e wx ⟨rfl, rfl⟩
                  go_wp2_with fail
                  refine (I.out _ _).mono ?_
                  rintro e wx ⟨rfl, rfl⟩
                  go_wp2
                  go_ret
                  exact ⟨rfl, rfl⟩
              · rw [decide_eq_false (fun h => j2 h.2.1)]
                clear i1 hsplit
                go_enter Tryd.func18, Tryd.ntmps18
                go_wp2_with fail
                refine (E.out _).mono ?_
                rintro e wx ⟨rfl, rfl⟩
                go_wp2_with fail
                refine (P.out _).mono ?_
                rintro e wx ⟨rfl, rfl⟩
                go_wp2_with fail
                refine (I.out _ _).mono ?_
                rintro e wx ⟨rfl, rfl⟩
                go_wp2_with fail
                refine (I.out _ _).mono ?_
                rintro e wx ⟨rfl, rfl⟩
                go_wp2
                go_ret
                exact ⟨rfl, rfl⟩
            · rw [decide_eq_false (fun h => j1 h.1)]
              clear i1 hsplit
              go_enter Tryd.func18, Tryd.ntmps18
              go_wp2_with fail
              refine (E.out _).mono ?_
              rintro e wx ⟨rfl, rfl⟩
              go_wp2_with fail
              refine (P.out _).mono ?_
              rintro e wx ⟨rfl, rfl⟩
              go_wp2_with fail
              refine (I.out _ _).mono ?_
              rintro e wx ⟨rfl, rfl⟩
              go_wp2
              go_ret
              exact ⟨rfl, rfl⟩
      · have h3' : ¬ (s.size : Int) ≤ 32 := by omega
        have hV : vN s.data.toList = false := by
          unfold vN; rw [decide_eq_false (by omega), Bool.false_and]
        rw [hV]
        clear hV hl hE
        go_enter Tryd.func18, Tryd.ntmps18
        go_wp2_with fail
        refine (E.out _).mono ?_
        rintro e wx ⟨rfl, rfl⟩
        go_wp2
        go_ret
        exact ⟨rfl, rfl⟩
    · obtain rfl := empty_of h0
      clear h0 hl hE hs
      go_enter Tryd.func18, Tryd.ntmps18
      go_wp2_with fail
      refine (E.out _).mono ?_
      rintro e wx ⟨rfl, rfl⟩
      go_wp2
      go_ret
      exact ⟨rfl, rfl⟩

theorem bound_any (n : Int) (w : World) :
    Calls Tryd.prog 36 #[.int .i64 n] w fun e w' => e = .returned (.bool (bdB n)) ∧ w' = w := by
  go_enter Tryd.func36, Tryd.ntmps36
  go_wp2
  all_goals go_ret
  all_goals refine ⟨ret_b ?_, rfl⟩
  all_goals (rw [Bool.eq_iff_iff]; simp [bdB]; omega)
theorem refBound_any (n : Int) (w : World) :
    Calls Tryd.prog 42 #[.int .i64 n] w fun e w' => e = .returned (.bool (bdB n)) ∧ w' = w := by
  go_enter Tryd.func42, Tryd.ntmps42
  go_wp2
  all_goals go_ret
  all_goals refine ⟨ret_b ?_, rfl⟩
  all_goals (rw [Bool.eq_iff_iff]; simp [bdB]; omega)
end Go.Proofs.YtiibjeiadcmenaaDoor
