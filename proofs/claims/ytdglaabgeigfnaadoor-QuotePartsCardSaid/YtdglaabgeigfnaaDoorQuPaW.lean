/- The walk of the law QuoteParts. -/
import Derived.Test.YtdglaabgeigfnaaDoorQuK
set_option linter.unusedVariables false
namespace Go.Proofs.YtdglaabgeigfnaaDoor.quoteParts
open Go.RowKit Go.Shelf

theorem step1_app {x : List UInt8} {c : UInt8} {n : Nat} (y : List UInt8) (h : step1 x = some (c, n)) : step1 (x ++ y) = some (c, n) := by
  unfold step1 at h
  split at h
  · cases h
  · rename_i d r
    split at h
    · rename_i hd
      split at h
      · cases h
      · rename_i d2 r2
        show step1 (d :: d2 :: (r2 ++ y)) = _
        unfold step1; simp only; rw [if_pos hd]
        split at h
        · rename_i h2; rw [if_pos h2]; exact h
        · rename_i h2
          rw [if_neg h2]
          split at h
          · rename_i h3
            rw [if_pos h3]
            split at h
            · rename_i a b r3
              show (match hexV a, hexV b with | some x, some y => _ | _, _ => none) = _
              exact h
            · cases h
          · cases h
    · rename_i hd
      show step1 (d :: (r ++ y)) = _
      unfold step1; simp only; rw [if_neg hd]; exact h
theorem unq_app : ∀ (f : Nat) (x : List UInt8) (s : List UInt8) (y : List UInt8), x.length ≤ f → unq x = some s → unq (x ++ y) = (unq y).map (s ++ ·) := by
  intro f
  induction f with
  | zero =>
    intro x s y hx h
    obtain rfl : x = [] := List.eq_nil_of_length_eq_zero (by omega)
    cases h
    simp
  | succ f ih =>
    intro x s y hx h
    cases hs : step1 x with
    | none =>
      by_cases he : x = []
      · subst he; cases h; simp
      · rw [unq_stop hs he] at h; cases h
    | some p =>
      obtain ⟨c, n⟩ := p
      have hp := step1_pos hs
      rw [unq_step hs] at h
      obtain ⟨t, ht, rfl⟩ := Option.map_eq_some_iff.1 h
      have := ih (x.drop n) t y (by rw [List.length_drop]; omega) ht
      rw [unq_step (step1_app y hs), List.drop_append_of_le_length hp.2, this]
      cases unq y <;> simp
theorem quoteL_app (a b : List UInt8) : quoteL (a ++ b) = quoteL a ++ quoteL b := by unfold quoteL; rw [List.flatMap_append]
theorem unqRes_ok {l : List UInt8} (h : (unqRes l).2 = 0) : ∃ s, unq l = some s ∧ s.length ≤ 64 ∧ unqRes l = (⟨s.toArray⟩, 0) := by
  unfold unqRes at h ⊢
  cases hu : unq l with
  | none => rw [hu] at h; exact absurd h (by decide)
  | some s =>
    rw [hu] at h
    simp only at h ⊢
    by_cases h64 : 64 < s.length
    · rw [if_pos h64] at h; exact absurd h (by decide)
    · rw [if_neg h64]; exact ⟨s, rfl, by omega, rfl⟩
theorem unqRes_app (x y : List UInt8) (hx : (unqRes x).2 = 0) (hy : (unqRes y).2 = 0) :
    unqRes (x ++ y) = if 64 < (unqRes x).1.size + (unqRes y).1.size then (⟨#[]⟩, 9) else ((unqRes x).1 ++ (unqRes y).1, 0) := by
  obtain ⟨s, h1, h2, h3⟩ := unqRes_ok hx
  obtain ⟨t, k1, k2, k3⟩ := unqRes_ok hy
  have := unq_app x.length x s y (Nat.le_refl _) h1
  rw [k1] at this
  rw [h3, k3]
  unfold unqRes
  rw [this]
  simp only [Option.map_some, List.length_append]
  show (if 64 < s.length + t.length then _ else _) = if 64 < s.toArray.size + t.toArray.size then _ else _
  simp only [List.size_toArray]
  split
  · rfl
  · congr 1
theorem app_list (a b : ByteArray) : (a ++ b).data.toList = a.data.toList ++ b.data.toList := by rw [ByteArray.data_append, Array.toList_append]
theorem run_plus {P : Program} (a b : ByteArray) (h : a.size + b.size ≤ 70368744177664) (w : World) : (Op.stringOp .add a b).run P w = .ok (.string (a ++ b)) w := by
  rw [run_string_add_sum w _ _ (by omega)]

set_option maxHeartbeats 4000000 in
theorem walk (a b x y : ByteArray) (w : World) (w0 : a.size ≤ maxLen) (w1 : b.size ≤ maxLen) (w2 : x.size ≤ maxLen) (w3 : y.size ≤ maxLen) :
    Calls Tryd.prog 7 #[.string a, .string b, .string x, .string y] w fun e w' => e = .returned (.bool true) ∧ Below w.heap.size w w' := by
  unfold maxLen at w0 w1 w2 w3
  by_cases ha : (150 : Int) < (a.size : Int)
  · go_enter Tryd.func7, Tryd.ntmps7
    go_wp2_with fail
    refine (awake_any _).mono ?_
    rintro e w1 ⟨rfl, hB1⟩
    have B1 := hide hB1
    clear hB1
    go_wp2
    go_ret
    exact ⟨rfl, B1.out⟩
  by_cases hb : (150 : Int) < (b.size : Int)
  · go_enter Tryd.func7, Tryd.ntmps7
    go_wp2_with fail
    refine (awake_any _).mono ?_
    rintro e w1 ⟨rfl, hB1⟩
    have B1 := hide hB1
    clear hB1
    go_wp2
    go_ret
    exact ⟨rfl, B1.out⟩
  by_cases hx : (150 : Int) < (x.size : Int)
  · go_enter Tryd.func7, Tryd.ntmps7
    go_wp2_with fail
    refine (awake_any _).mono ?_
    rintro e w1 ⟨rfl, hB1⟩
    have B1 := hide hB1
    clear hB1
    go_wp2
    go_ret
    exact ⟨rfl, B1.out⟩
  by_cases hy : (150 : Int) < (y.size : Int)
  · go_enter Tryd.func7, Tryd.ntmps7
    go_wp2_with fail
    refine (awake_any _).mono ?_
    rintro e w1 ⟨rfl, hB1⟩
    have B1 := hide hB1
    clear hB1
    go_wp2
    go_ret
    exact ⟨rfl, B1.out⟩
  have QA := hide (fun W : World => Quote_any a W (by omega))
  have QB := hide (fun W : World => Quote_any b W (by omega))
  have QC := hide (fun W : World => Quote_any (a ++ b) W (by rw [ByteArray.size_append]; omega))
  have la := quoteL_len a.data.toList
  have lb := quoteL_len b.data.toList
  rw [← Lib.size_eq] at la lb
  rw [app_list, quoteL_app] at QC
  have hc1 := fun W => run_plus (P := Tryd.prog) a b (by omega) W
  have hc2 := fun W => run_cat (P := Tryd.prog) (quoteL a.data.toList) (quoteL b.data.toList) (by omega) W
  have hc3 := fun W => run_plus (P := Tryd.prog) x y (by omega) W
  generalize quoteL a.data.toList = qa at QA QC hc2 la
  generalize quoteL b.data.toList = qb at QB QC hc2 lb
  have UX := hide (fun W : World => Unquote_any x W (by omega))
  have UY := hide (fun W : World => Unquote_any y W (by omega))
  have UB := hide (fun W : World => Unquote_any (x ++ y) W (by rw [ByteArray.size_append]; omega))
  rw [app_list] at UB
  by_cases ex : (unqRes x.data.toList).2 = 0
  · by_cases ey : (unqRes y.data.toList).2 = 0
    · rw [unqRes_app _ _ ex ey] at UB
      obtain ⟨s, _, hs, e1⟩ := unqRes_ok ex
      obtain ⟨t, _, ht, e2⟩ := unqRes_ok ey
      rw [e1, e2] at UB
      rw [e1] at UX
      rw [e2] at UY
      have zs : (⟨s.toArray⟩ : ByteArray).size = s.length := by show s.toArray.size = _; simp
      have zt : (⟨t.toArray⟩ : ByteArray).size = t.length := by show t.toArray.size = _; simp
      simp only at UB UX UY
      rw [zs, zt] at UB
      have ls : (⟨s.toArray⟩ : ByteArray).size ≤ 64 := by omega
      have lt : (⟨t.toArray⟩ : ByteArray).size ≤ 64 := by omega
      rw [← zs, ← zt] at UB
      generalize (⟨s.toArray⟩ : ByteArray) = S at UX UB ls
      generalize (⟨t.toArray⟩ : ByteArray) = T at UY UB lt
      have hc4 := fun W => run_plus (P := Tryd.prog) S T (by omega) W
      clear e1 e2 zs zt ex ey hs ht
      by_cases hbig : (64 : Int) < (S.size : Int) + (T.size : Int)
      · rw [if_pos (by omega)] at UB
        go_enter Tryd.func7, Tryd.ntmps7
        go_wp2_with fail
        refine (awake_any _).mono ?_
        rintro e w1 ⟨rfl, hB1⟩
        have B1 := hide hB1
        clear hB1
        go_wp2_with fail
        refine (QA.out _).mono ?_
        rintro e w2 ⟨rfl, hB2⟩
        have B2 := hide hB2
        clear hB2
        go_wp2_with fail
        refine (QB.out _).mono ?_
        rintro e w3 ⟨rfl, hB3⟩
        have B3 := hide hB3
        clear hB3
        go_wp2_with fail
        refine (QC.out _).mono ?_
        rintro e w4 ⟨rfl, hB4⟩
        have B4 := hide hB4
        clear hB4
        go_wp2_with fail
        refine (UX.out _).mono ?_
        rintro e w5 ⟨rfl, hB5⟩
        have B5 := hide hB5
        clear hB5
        go_wp2_with fail
        refine (UY.out _).mono ?_
        rintro e w6 ⟨rfl, hB6⟩
        have B6 := hide hB6
        clear hB6
        go_wp2_with fail
        refine (UB.out _).mono ?_
        rintro e w7 ⟨rfl, hB7⟩
        have B7 := hide hB7
        clear hB7
        go_wp2
        go_ret
        exact ⟨rfl, ((((((B1.out.trans (B2.out.mono B1.out.size)).trans (B3.out.mono (by have := B1.out.size; have := B2.out.size; omega))).trans (B4.out.mono (by have := B1.out.size; have := B2.out.size; have := B3.out.size; omega))).trans (B5.out.mono (by have := B1.out.size; have := B2.out.size; have := B3.out.size; have := B4.out.size; omega))).trans (B6.out.mono (by have := B1.out.size; have := B2.out.size; have := B3.out.size; have := B4.out.size; have := B5.out.size; omega))).trans (B7.out.mono (by have := B1.out.size; have := B2.out.size; have := B3.out.size; have := B4.out.size; have := B5.out.size; have := B6.out.size; omega)))⟩
      · rw [if_neg (by omega)] at UB
        go_enter Tryd.func7, Tryd.ntmps7
        go_wp2_with fail
        refine (awake_any _).mono ?_
        rintro e w1 ⟨rfl, hB1⟩
        have B1 := hide hB1
        clear hB1
        go_wp2_with fail
        refine (QA.out _).mono ?_
        rintro e w2 ⟨rfl, hB2⟩
        have B2 := hide hB2
        clear hB2
        go_wp2_with fail
        refine (QB.out _).mono ?_
        rintro e w3 ⟨rfl, hB3⟩
        have B3 := hide hB3
        clear hB3
        go_wp2_with fail
        refine (QC.out _).mono ?_
        rintro e w4 ⟨rfl, hB4⟩
        have B4 := hide hB4
        clear hB4
        go_wp2_with fail
        refine (UX.out _).mono ?_
        rintro e w5 ⟨rfl, hB5⟩
        have B5 := hide hB5
        clear hB5
        go_wp2_with fail
        refine (UY.out _).mono ?_
        rintro e w6 ⟨rfl, hB6⟩
        have B6 := hide hB6
        clear hB6
        go_wp2_with fail
        refine (UB.out _).mono ?_
        rintro e w7 ⟨rfl, hB7⟩
        have B7 := hide hB7
        clear hB7
        go_wp2
        go_ret
        exact ⟨rfl, ((((((B1.out.trans (B2.out.mono B1.out.size)).trans (B3.out.mono (by have := B1.out.size; have := B2.out.size; omega))).trans (B4.out.mono (by have := B1.out.size; have := B2.out.size; have := B3.out.size; omega))).trans (B5.out.mono (by have := B1.out.size; have := B2.out.size; have := B3.out.size; have := B4.out.size; omega))).trans (B6.out.mono (by have := B1.out.size; have := B2.out.size; have := B3.out.size; have := B4.out.size; have := B5.out.size; omega))).trans (B7.out.mono (by have := B1.out.size; have := B2.out.size; have := B3.out.size; have := B4.out.size; have := B5.out.size; have := B6.out.size; omega)))⟩
    · obtain ⟨r, hr⟩ : ∃ r, unqRes (x.data.toList ++ y.data.toList) = r := ⟨_, rfl⟩
      rw [hr] at UB
      obtain ⟨s, _, hs, e1⟩ := unqRes_ok ex
      rw [e1] at UX
      simp only at UX
      generalize (⟨s.toArray⟩ : ByteArray) = S at UX
      generalize unqRes y.data.toList = v at UY ey
      have n1 : (v.2 == 0) = false := beq_eq_false_iff_ne.2 ey
      have n2 := bne_of n1
      clear e1 ex ey hs hr
      go_enter Tryd.func7, Tryd.ntmps7
      go_wp2_with fail
      refine (awake_any _).mono ?_
      rintro e w1 ⟨rfl, hB1⟩
      have B1 := hide hB1
      clear hB1
      go_wp2_with fail
      refine (QA.out _).mono ?_
      rintro e w2 ⟨rfl, hB2⟩
      have B2 := hide hB2
      clear hB2
      go_wp2_with fail
      refine (QB.out _).mono ?_
      rintro e w3 ⟨rfl, hB3⟩
      have B3 := hide hB3
      clear hB3
      go_wp2_with fail
      refine (QC.out _).mono ?_
      rintro e w4 ⟨rfl, hB4⟩
      have B4 := hide hB4
      clear hB4
      go_wp2_with fail
      refine (UX.out _).mono ?_
      rintro e w5 ⟨rfl, hB5⟩
      have B5 := hide hB5
      clear hB5
      go_wp2_with fail
      refine (UY.out _).mono ?_
      rintro e w6 ⟨rfl, hB6⟩
      have B6 := hide hB6
      clear hB6
      go_wp2_with fail
      refine (UB.out _).mono ?_
      rintro e w7 ⟨rfl, hB7⟩
      have B7 := hide hB7
      clear hB7
      go_wp2
      go_ret
      exact ⟨rfl, ((((((B1.out.trans (B2.out.mono B1.out.size)).trans (B3.out.mono (by have := B1.out.size; have := B2.out.size; omega))).trans (B4.out.mono (by have := B1.out.size; have := B2.out.size; have := B3.out.size; omega))).trans (B5.out.mono (by have := B1.out.size; have := B2.out.size; have := B3.out.size; have := B4.out.size; omega))).trans (B6.out.mono (by have := B1.out.size; have := B2.out.size; have := B3.out.size; have := B4.out.size; have := B5.out.size; omega))).trans (B7.out.mono (by have := B1.out.size; have := B2.out.size; have := B3.out.size; have := B4.out.size; have := B5.out.size; have := B6.out.size; omega)))⟩
  · obtain ⟨r, hr⟩ : ∃ r, unqRes (x.data.toList ++ y.data.toList) = r := ⟨_, rfl⟩
    rw [hr] at UB
    generalize unqRes y.data.toList = v at UY
    generalize unqRes x.data.toList = u at UX ex
    have n1 : (u.2 == 0) = false := beq_eq_false_iff_ne.2 ex
    have n2 := bne_of n1
    clear ex hr
    go_enter Tryd.func7, Tryd.ntmps7
    go_wp2_with fail
    refine (awake_any _).mono ?_
    rintro e w1 ⟨rfl, hB1⟩
    have B1 := hide hB1
    clear hB1
    go_wp2_with fail
    refine (QA.out _).mono ?_
    rintro e w2 ⟨rfl, hB2⟩
    have B2 := hide hB2
    clear hB2
    go_wp2_with fail
    refine (QB.out _).mono ?_
    rintro e w3 ⟨rfl, hB3⟩
    have B3 := hide hB3
    clear hB3
    go_wp2_with fail
    refine (QC.out _).mono ?_
    rintro e w4 ⟨rfl, hB4⟩
    have B4 := hide hB4
    clear hB4
    go_wp2_with fail
    refine (UX.out _).mono ?_
    rintro e w5 ⟨rfl, hB5⟩
    have B5 := hide hB5
    clear hB5
    go_wp2_with fail
    refine (UY.out _).mono ?_
    rintro e w6 ⟨rfl, hB6⟩
    have B6 := hide hB6
    clear hB6
    go_wp2_with fail
    refine (UB.out _).mono ?_
    rintro e w7 ⟨rfl, hB7⟩
    have B7 := hide hB7
    clear hB7
    go_wp2
    go_ret
    exact ⟨rfl, ((((((B1.out.trans (B2.out.mono B1.out.size)).trans (B3.out.mono (by have := B1.out.size; have := B2.out.size; omega))).trans (B4.out.mono (by have := B1.out.size; have := B2.out.size; have := B3.out.size; omega))).trans (B5.out.mono (by have := B1.out.size; have := B2.out.size; have := B3.out.size; have := B4.out.size; omega))).trans (B6.out.mono (by have := B1.out.size; have := B2.out.size; have := B3.out.size; have := B4.out.size; have := B5.out.size; omega))).trans (B7.out.mono (by have := B1.out.size; have := B2.out.size; have := B3.out.size; have := B4.out.size; have := B5.out.size; have := B6.out.size; omega)))⟩
end Go.Proofs.YtdglaabgeigfnaaDoor.quoteParts
