/- Contracts of name.Valid, Escaped, Width, FormatRange and of the reference's. -/
import Derived.Test.YtcjehiecgdmidaaNmA
import Derived.Lib.IndexAny
set_option linter.unusedVariables false
set_option linter.unusedSimpArgs false
namespace Go.Proofs.Ytcjehiecgdmidaa
open Go.RowKit Go.Shelf Go.Sort

theorem indexAny_ge0 (ch : List UInt8) (l : List UInt8) : 0 ≤ Lib.indexAny l ch ↔ ∃ c ∈ l, ch.contains c = true := by
  induction l with
  | nil => exact ⟨fun h => absurd h (by show ¬ (0 : Int) ≤ -1; decide), fun ⟨c, hc, _⟩ => by cases hc⟩
  | cons b l ih =>
    have e : Lib.indexAny (b :: l) ch = if ch.contains b then 0 else if Lib.indexAny l ch == -1 then -1 else Lib.indexAny l ch + 1 := rfl
    have hg := Lib.indexAny_ge ch l
    rw [e]
    by_cases hb : ch.contains b = true
    · rw [if_pos hb]; exact ⟨fun _ => ⟨b, by simp, hb⟩, fun _ => by decide⟩
    · rw [if_neg hb]
      by_cases hm : Lib.indexAny l ch = -1
      · rw [if_pos (beq_iff_eq.2 hm)]
        refine ⟨fun h => absurd h (by decide), ?_⟩
        rintro ⟨c, hc, hcc⟩
        rcases List.mem_cons.1 hc with rfl | hc
        · exact absurd hcc hb
        · have := ih.2 ⟨c, hc, hcc⟩; omega
      · rw [if_neg (fun h => hm (beq_iff_eq.1 h))]
        constructor
        · intro _
          obtain ⟨c, hc, hcc⟩ := ih.1 (by omega)
          exact ⟨c, by simp [hc], hcc⟩
        · rintro ⟨c, hc, hcc⟩
          omega
theorem containsAny_ok (l : List UInt8) : Lib.containsAny l [92, 46, 91, 93] = !l.all okC := by
  unfold Lib.containsAny
  rw [Bool.eq_iff_iff, decide_eq_true_eq, indexAny_ge0, Bool.not_eq_true', List.all_eq_false]
  constructor
  · rintro ⟨c, hc, h⟩
    refine ⟨c, hc, ?_⟩
    simp at h
    rcases h with rfl | rfl | rfl | rfl <;> decide
  · rintro ⟨c, hc, h⟩
    refine ⟨c, hc, ?_⟩
    unfold okC at h
    simp at h
    simp
    by_cases h1 : c = 92
    · exact .inl h1
    · by_cases h2 : c = 46
      · exact .inr (.inl h2)
      · by_cases h3 : c = 91
        · exact .inr (.inr (.inl h3))
        · exact .inr (.inr (.inr (h h1 h2 h3)))
theorem pr_ascii {l : List UInt8} (h : allPr l = true) : ∀ (j : Nat) b, l[j]? = some b → b.toNat < 128 := fun j b hb => by
  have := List.all_eq_true.1 h b (List.mem_of_getElem? hb)
  have := of_decide_eq_true this
  omega

set_option maxHeartbeats 4000000 in
theorem Valid_any (s : ByteArray) (w : World) (hs : s.size ≤ 1099511627776) :
    Calls Try.prog 23 #[.string s] w fun e w' => e = .returned (.bool (vN s.data.toList)) ∧ Below w.heap.size w w' := by
  have P := hide (fun W : World => printable_any s W hs)
  have hl := size_list s
  by_cases h0 : 0 < s.size
  · obtain ⟨hn, hne⟩ := toList_pos h0
    by_cases h3 : s.size ≤ 32
    · have h3' : (s.size : Int) ≤ 32 := by omega
      cases hp : allPr s.data.toList with
      | false =>
        rw [hp] at P
        have hV : vN s.data.toList = false := by unfold vN; rw [hp, Bool.false_and, Bool.and_false]
        rw [hV]
        clear hV hp hl
        go_enter Try.func23, Try.ntmps23
        go_wp2_with fail
        refine (P.out _).mono ?_
        rintro e wx ⟨rfl, rfl⟩
        go_wp2
        go_ret
        exact ⟨rfl, Below.refl _ _⟩
      | true =>
        rw [hp] at P
        obtain ⟨b, ⟨hz, he⟩, hb⟩ := front s h0
        rcases he with ⟨he, rfl⟩ | ⟨he, rfl⟩
        · have hV : vN s.data.toList = decide (2 ≤ (s.size : Int)) := by
            rw [vN_esc (hb.1 rfl), hp, hl, Bool.and_true, Bool.eq_iff_iff, decide_eq_true_eq, decide_eq_true_eq]; omega
          rw [hV]
          clear hV hp hl hb
          go_enter Try.func23, Try.ntmps23
          go_wp2_with fail
          refine (P.out _).mono ?_
          rintro e wx ⟨rfl, rfl⟩
          go_wp2
          go_ret
          exact ⟨rfl, Below.refl _ _⟩
        · have hh : s.data.toList.head? ≠ some 92 := fun h => by have := hb.2 h; cases this
          have hV : vN s.data.toList = (decide (s.data.toList.head? ≠ some 36) && s.data.toList.all okC) := by
            rw [vN_plain hh, hp, hl, decide_eq_true ⟨h0, h3⟩]; rfl
          have hd := dollar s h0
          have C := hide (fun W : World => Try.strings_ContainsAny (zero_of_info (n := 256) (by kernel_rfl)).1 s ⟨#[92, 46, 91, 93]⟩ W (by omega) (by decide) (pr_ascii hp) (by
            intro j b hj
            have : b ∈ ([92, 46, 91, 93] : List UInt8) := List.mem_of_getElem? hj
            simp at this
            rcases this with rfl | rfl | rfl | rfl <;> decide))
          rw [show (⟨#[92, 46, 91, 93]⟩ : ByteArray).data.toList = [92, 46, 91, 93] from rfl, containsAny_ok] at C
          rw [hV]
          generalize s.data.toList.all okC = ok at C ⊢
          clear hV hp hl hb hh
          cases h36 : decide (s.data.toList.head? = some 36) with
          | true =>
            rw [h36] at hd
            have hr : (decide (s.data.toList.head? ≠ some 36)) = false := by
              rw [decide_eq_false_iff_not]; exact fun h => h (of_decide_eq_true h36)
            rw [hr, Bool.false_and]
            clear hr h36
            have hd2 : (((s[0]'h0).toNat : Int) != 36) = false := by simp only [bne, hd, Bool.not_true]
            go_enter Try.func23, Try.ntmps23
            go_wp2_with fail
            refine (P.out _).mono ?_
            rintro e wx ⟨rfl, rfl⟩
            go_wp2
            go_ret
            exact ⟨rfl, Below.refl _ _⟩
          | false =>
            rw [h36] at hd
            have hr : (decide (s.data.toList.head? ≠ some 36)) = true := decide_eq_true (of_decide_eq_false h36)
            rw [hr, Bool.true_and]
            clear hr h36
            have hd2 : (((s[0]'h0).toNat : Int) != 36) = true := by simp only [bne, hd, Bool.not_false]
            have B0 := hide (Below.refl w.heap.size w)
            go_enter Try.func23, Try.ntmps23
            go_wp2_with fail
            refine (P.out _).mono ?_
            rintro e wx ⟨rfl, rfl⟩
            go_wp2_with fail
            refine (C.out _).mono ?_
            rintro e w1 ⟨rfl, hb⟩
            have B1 := hide (B0.out.trans (hb.mono B0.out.size))
            clear hb
            go_wp2
            go_ret
            exact ⟨by cases ok <;> rfl, B1.out⟩
    · have h3' : ¬ (s.size : Int) ≤ 32 := by omega
      have h3'' : (32 : Int) < (s.size : Int) := by omega
      have hV : vN s.data.toList = false := by unfold vN; rw [decide_eq_false (by omega), Bool.false_and]
      rw [hV]
      clear hV hl
      go_enter Try.func23, Try.ntmps23
      go_wp2
      go_ret
      exact ⟨rfl, Below.refl _ _⟩
  · obtain rfl := empty_of h0
    clear h0 hl hs
    go_enter Try.func23, Try.ntmps23
    go_wp2
    go_ret
    exact ⟨rfl, Below.refl _ _⟩

set_option maxHeartbeats 4000000 in
theorem Escaped_any (s : ByteArray) (w : World) (hs : s.size ≤ 1099511627776) :
    Calls Try.prog 24 #[.string s] w fun e w' => e = .returned (.bool (escN s.data.toList)) ∧ Below w.heap.size w w' := by
  have V := hide (fun W : World => Valid_any s W hs)
  have hl := size_list s
  by_cases h2 : 2 ≤ s.size
  · obtain ⟨b, ⟨h0, he⟩, hb⟩ := front s (by omega)
    rcases he with ⟨he, rfl⟩ | ⟨he, rfl⟩
    · have hE : escN s.data.toList = vN s.data.toList := by
        unfold escN
        rw [decide_eq_true (hb.1 rfl), hl, decide_eq_true h2]; rfl
      rw [hE]
      generalize vN s.data.toList = v at V ⊢
      clear hE hb hl
      have B0 := hide (Below.refl w.heap.size w)
      go_enter Try.func24, Try.ntmps24
      go_wp2_with fail
      refine (V.out _).mono ?_
      rintro e w1 ⟨rfl, hb⟩
      have B1 := hide (B0.out.trans (hb.mono B0.out.size))
      clear hb
      go_wp2
      go_ret
      exact ⟨rfl, B1.out⟩
    · have hE : escN s.data.toList = false := by
        unfold escN
        rw [decide_eq_false (p := s.data.toList.head? = some 92) (fun h => by have := hb.2 h; cases this), Bool.false_and, Bool.and_false]
      rw [hE]
      clear hE hb hl
      go_enter Try.func24, Try.ntmps24
      go_wp2
      go_ret
      exact ⟨rfl, Below.refl _ _⟩
  · have h2' : ¬ (2 : Int) ≤ (s.size : Int) := by omega
    have hE : escN s.data.toList = false := by
      unfold escN; rw [decide_eq_false (by omega), Bool.false_and]
    rw [hE]
    clear hE hl
    go_enter Try.func24, Try.ntmps24
    go_wp2
    go_ret
    exact ⟨rfl, Below.refl _ _⟩

theorem ret_i {a b : Int} (h : a = b) : Ending.returned (.int .i64 a) = .returned (.int .i64 b) := by rw [h]
theorem bdB_bd {n : Int} (h : bdB n = true) : -32768 ≤ n ∧ n ≤ 32768 := of_decide_eq_true h
theorem bdB_no {n : Int} (h : bdB n = false) : n < -32768 ∨ 32768 < n := by have := of_decide_eq_false h; omega
/-- the text of a bit range -/
def fmtR (m n : Int) : ByteArray := if bdB m && bdB n then (if m = n then ⟨#[91]⟩ ++ decB m ++ ⟨#[93]⟩ else ⟨#[91]⟩ ++ decB m ++ ⟨#[58]⟩ ++ decB n ++ ⟨#[93]⟩) else ⟨#[]⟩
theorem decB_len (n : Int) (h : bdB n = true) : (decB n).size ≤ 21 := by
  obtain ⟨h1, h2⟩ := bdB_bd h
  have := Lib.itoa_length_le n (by omega) (by omega)
  show (Lib.itoa n).toArray.size ≤ 21
  simpa using this
theorem fmtR_cats (m n : Int) (hm : (decB m).size ≤ 21) (hn : (decB n).size ≤ 21) (W : World) :
    (Op.stringOp .add ⟨#[91]⟩ (decB m)).run Try.prog W = .ok (.string (⟨#[91]⟩ ++ decB m)) W ∧
    (Op.stringOp .add (⟨#[91]⟩ ++ decB m) ⟨#[93]⟩).run Try.prog W = .ok (.string (⟨#[91]⟩ ++ decB m ++ ⟨#[93]⟩)) W ∧
    (Op.stringOp .add (⟨#[91]⟩ ++ decB m) ⟨#[58]⟩).run Try.prog W = .ok (.string (⟨#[91]⟩ ++ decB m ++ ⟨#[58]⟩)) W ∧
    (Op.stringOp .add (⟨#[91]⟩ ++ decB m ++ ⟨#[58]⟩) (decB n)).run Try.prog W = .ok (.string (⟨#[91]⟩ ++ decB m ++ ⟨#[58]⟩ ++ decB n)) W ∧
    (Op.stringOp .add (⟨#[91]⟩ ++ decB m ++ ⟨#[58]⟩ ++ decB n) ⟨#[93]⟩).run Try.prog W = .ok (.string (⟨#[91]⟩ ++ decB m ++ ⟨#[58]⟩ ++ decB n ++ ⟨#[93]⟩)) W := by
  have z : ∀ c : UInt8, (⟨#[c]⟩ : ByteArray).size = 1 := fun _ => rfl
  refine ⟨cat_run _ _ ?_ W, cat_run _ _ ?_ W, cat_run _ _ ?_ W, cat_run _ _ ?_ W, cat_run _ _ ?_ W⟩ <;> simp only [ByteArray.size_append, z] <;> omega

theorem decB_neg (n : Int) (h : n < 0) : decB n = ⟨#[45]⟩ ++ decB (-n) := by
  obtain ⟨u, hu⟩ : ∃ u : Nat, n = -(u : Int) := ⟨(-n).toNat, by omega⟩
  subst hu
  apply Go.WideShapes.bytes_inj
  unfold decB
  rw [Int.neg_neg, Lib.itoa_neg u (by omega), Lib.itoa_nonneg]
  simp
end Go.Proofs.Ytcjehiecgdmidaa
