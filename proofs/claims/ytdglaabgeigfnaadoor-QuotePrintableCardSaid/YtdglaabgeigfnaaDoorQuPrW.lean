/- The walk of the law QuotePrintable. -/
import Derived.Test.YtdglaabgeigfnaaDoorQuReW
set_option linter.unusedVariables false
namespace Go.Proofs.YtdglaabgeigfnaaDoor.quotePrintable
open Go.RowKit Go.Shelf

theorem hexD_pr : ∀ n, n < 16 → prB (hexD n) = true := by decide +kernel
theorem quoteB_pr (c : UInt8) : ∀ x ∈ quoteB c, prB x = true := by
  have hlt := c.toNat_lt
  unfold quoteB
  by_cases hc : c = 92
  · rw [if_pos hc]; intro x hx; simp at hx; subst hx; rfl
  · rw [if_neg hc]
    cases hp : prB c with
    | true => rw [if_pos rfl]; intro x hx; simp at hx; subst hx; exact hp
    | false =>
      rw [if_neg (by decide)]; intro x hx
      simp only [List.mem_cons, List.not_mem_nil, or_false] at hx
      rcases hx with rfl | rfl | rfl | rfl
      · rfl
      · rfl
      · exact hexD_pr _ (by omega)
      · exact hexD_pr _ (by omega)
theorem quoteL_pr (l : List UInt8) : ∀ x ∈ quoteL l, prB x = true := by
  intro x hx
  unfold quoteL at hx
  obtain ⟨c, _, h⟩ := List.mem_flatMap.1 hx
  exact quoteB_pr c x h
theorem hexD_V (m : Nat) : m < 256 → ∀ x, hexV (UInt8.ofNat m) = some x → hexD x = UInt8.ofNat m ∧ x < 16 := by
  intro hm x hx
  have key : ∀ m, m < 256 → ((hexV (UInt8.ofNat m)).all fun x => decide (hexD x = UInt8.ofNat m ∧ x < 16)) = true := by decide +kernel
  have := key m hm
  rw [hx] at this
  exact of_decide_eq_true this
theorem hexD_of {a : UInt8} {x : Nat} (h : hexV a = some x) : hexD x = a ∧ x < 16 := by
  have := hexD_V a.toNat a.toNat_lt x (by rw [UInt8.ofNat_toNat]; exact h)
  rwa [UInt8.ofNat_toNat] at this
/-- one step's text is no longer than what was read, and is it if as long -/
theorem step1_short {l : List UInt8} {c : UInt8} {n : Nat} (h : step1 l = some (c, n)) : (quoteB c).length < n ∨ quoteB c = l.take n := by
  unfold step1 at h
  split at h
  · cases h
  · rename_i d r
    split at h
    · rename_i hd
      split at h
      · cases h
      · rename_i d2 r2
        split at h
        · rename_i h2
          cases h
          rw [hd, h2]; exact .inr rfl
        · split at h
          · rename_i h3
            split at h
            · rename_i a b r3
              split at h
              · rename_i x y hx hy
                cases h
                obtain ⟨e1, l1⟩ := hexD_of hx
                obtain ⟨e2, l2⟩ := hexD_of hy
                have hn : (UInt8.ofNat (16 * x + y)).toNat = 16 * x + y := by rw [UInt8.toNat_ofNat']; omega
                unfold quoteB
                by_cases hc : UInt8.ofNat (16 * x + y) = 92
                · rw [if_pos hc]; exact .inl (by decide)
                · rw [if_neg hc]
                  cases hp : prB (UInt8.ofNat (16 * x + y)) with
                  | true => rw [if_pos rfl]; exact .inl (show 1 < 4 by decide)
                  | false =>
                    rw [if_neg (by decide), hn, show (16 * x + y) / 16 = x by omega, show (16 * x + y) % 16 = y by omega, e1, e2, hd, h3]
                    exact .inr rfl
              · cases h
            · cases h
          · cases h
    · rename_i hd
      split at h
      · rename_i hp
        cases h
        unfold quoteB
        rw [if_neg hd, if_pos hp]; exact .inr rfl
      · cases h
theorem unq_short : ∀ (f : Nat) (l s : List UInt8), l.length ≤ f → unq l = some s → (quoteL s).length < l.length ∨ quoteL s = l := by
  intro f
  induction f with
  | zero =>
    intro l s hl h
    obtain rfl : l = [] := List.eq_nil_of_length_eq_zero (by omega)
    cases h
    exact .inr rfl
  | succ f ih =>
    intro l s hl h
    cases hs : step1 l with
    | none =>
      by_cases he : l = []
      · subst he; cases h; exact .inr rfl
      · rw [unq_stop hs he] at h; cases h
    | some p =>
      obtain ⟨c, n⟩ := p
      have hp := step1_pos hs
      rw [unq_step hs] at h
      obtain ⟨t, ht, rfl⟩ := Option.map_eq_some_iff.1 h
      have h1 := ih (l.drop n) t (by rw [List.length_drop]; omega) ht
      have h2 := step1_short hs
      have e : quoteL (c :: t) = quoteB c ++ quoteL t := rfl
      have hl2 : l.length = n + (l.drop n).length := by rw [List.length_drop]; omega
      rcases h2 with h2 | h2
      · left
        rw [e, List.length_append]
        rcases h1 with h1 | h1
        · omega
        · rw [h1]; omega
      · rcases h1 with h1 | h1
        · left
          rw [e, List.length_append, h2, List.length_take]; omega
        · right
          rw [e, h2, h1, List.take_append_drop]
theorem unqRes_ok {l : List UInt8} (h : (unqRes l).2 = 0) : ∃ s, unq l = some s ∧ s.length ≤ 64 ∧ unqRes l = (⟨s.toArray⟩, 0) := by
  unfold unqRes at h ⊢
  cases hu : unq l with
  | none => rw [hu] at h; exact absurd h (by decide)
  | some s =>
    rw [hu] at h
    simp only at h ⊢
    by_cases h64 : 64 < s.length
    · rw [if_pos h64] at h; exact absurd h (by decide)
    · rw [if_neg h64]; exact ⟨s, rfl, by omega, rfl⟩
theorem unqRes_err {l : List UInt8} (h : ¬ (unqRes l).2 = 0) : (unqRes l).1 = ⟨#[]⟩ := by
  unfold unqRes at h ⊢
  cases hu : unq l with
  | none => rfl
  | some s =>
    rw [hu] at h
    simp only at h ⊢
    by_cases h64 : 64 < s.length
    · rw [if_pos h64]
    · rw [if_neg h64] at h; exact absurd rfl h

set_option maxHeartbeats 4000000 in
theorem walk (a0 a1 : ByteArray) (w : World) (w0 : a0.size ≤ maxLen) (w1 : a1.size ≤ maxLen) :
    Calls Tryd.prog 6 #[.string a0, .string a1] w fun e w' => e = .returned (.bool true) ∧ Below w.heap.size w w' := by
  unfold maxLen at w0 w1
  by_cases h0 : (300 : Int) < (a0.size : Int)
  · go_enter Tryd.func6, Tryd.ntmps6
    go_wp2_with fail
    refine (awake_any _).mono ?_
    rintro e w1 ⟨rfl, hB1⟩
    have B1 := hide hB1
    clear hB1
    go_wp2
    go_ret
    exact ⟨rfl, B1.out⟩
  by_cases h1 : (300 : Int) < (a1.size : Int)
  · go_enter Tryd.func6, Tryd.ntmps6
    go_wp2_with fail
    refine (awake_any _).mono ?_
    rintro e w1 ⟨rfl, hB1⟩
    have B1 := hide hB1
    clear hB1
    go_wp2
    go_ret
    exact ⟨rfl, B1.out⟩
  have Q := hide (fun W : World => Quote_any a0 W (by omega))
  have la := quoteL_len a0.data.toList
  rw [← Lib.size_eq] at la
  have hpr : ∀ j, ∀ hj : j < (⟨(quoteL a0.data.toList).toArray⟩ : ByteArray).size, prB ((⟨(quoteL a0.data.toList).toArray⟩ : ByteArray)[j]'hj) = true := fun j hj => by
    have h := Lib.data_getElem? (⟨(quoteL a0.data.toList).toArray⟩ : ByteArray) j hj
    exact quoteL_pr _ _ (List.mem_of_getElem? h)
  have hqz : (⟨(quoteL a0.data.toList).toArray⟩ : ByteArray).size ≤ 1200 := by show (quoteL a0.data.toList).toArray.size ≤ _; simp only [List.size_toArray]; omega
  generalize (⟨(quoteL a0.data.toList).toArray⟩ : ByteArray) = q at Q hpr hqz
  have HP := hide hpr
  have U := hide (fun W : World => Unquote_any a1 W (by omega))
  have HS : Hid ((unqRes a1.data.toList).2 = 0 → ∃ s : List UInt8, s.length ≤ 64 ∧ unqRes a1.data.toList = (⟨s.toArray⟩, 0) ∧ ((quoteL s).length < a1.size ∨ (⟨(quoteL s).toArray⟩ : ByteArray) = a1)) := hide (fun h => by
    obtain ⟨s, h1, h2, h3⟩ := unqRes_ok h
    refine ⟨s, h2, h3, ?_⟩
    rcases unq_short _ a1.data.toList s (Nat.le_refl _) h1 with h | h
    · left; rw [Lib.size_eq]; exact h
    · right; rw [h])
  have HE := hide (fun h => unqRes_err (l := a1.data.toList) h)
  generalize unqRes a1.data.toList = u at U HS HE
  clear hpr la
  go_enter Tryd.func6, Tryd.ntmps6
  go_wp2_with fail
  refine (awake_any _).mono ?_
  rintro e w1 ⟨rfl, hB1⟩
  have B1 := hide hB1
  clear hB1
  go_wp2_with fail
  refine (Q.out _).mono ?_
  rintro e w2 ⟨rfl, hB2⟩
  have B2 := hide hB2
  clear hB2
  go_wp2
  go_loop [23] (fun v => ∃ k : Nat, v = .int .i64 k ∧ k ≤ q.size) (fun v => q.size - (intOf v).toNat)
  case atStart => exact ⟨0, rfl, Nat.zero_le _⟩
  case round =>
    obtain ⟨k, rfl, hk⟩ := hrel
    by_cases hlt : k < q.size
    · obtain ⟨p1, p2⟩ := prB_true (HP.out k hlt)
      go_wp2
      go_round
      case rel => exact ⟨k + 1, by go_num, by omega⟩
      case measure => simp [intOf]; omega
    · obtain rfl : k = q.size := Nat.le_antisymm hk (Nat.le_of_not_lt hlt)
      clear hlt
      by_cases he : u.2 = 0
      · obtain ⟨s, hs64, hu, hor⟩ := HS.out he
        subst hu
        have zs : (⟨s.toArray⟩ : ByteArray).size = s.length := by show s.toArray.size = _; simp
        have Q2 := hide (fun W : World => Quote_any ⟨s.toArray⟩ W (by rw [zs]; omega))
        rw [show (⟨s.toArray⟩ : ByteArray).data.toList = s from rfl] at Q2
        have zq : (⟨(quoteL s).toArray⟩ : ByteArray).size = (quoteL s).length := by show (quoteL s).toArray.size = _; simp
        rw [← zq] at hor
        generalize (⟨(quoteL s).toArray⟩ : ByteArray) = r at Q2 hor
        generalize (⟨s.toArray⟩ : ByteArray) = S at Q2 U
        rcases hor with hor | hor
        · have g1 : (r.size : Int) < (a1.size : Int) := by omega
          have g2 : (r.size : Int) ≤ (a1.size : Int) := by omega
          clear zs zq hor he
          go_wp2_with fail
          refine (U.out _).mono ?_
          rintro e w3 ⟨rfl, hB3⟩
          have B3 := hide hB3
          clear hB3
          go_wp2_with fail
          refine (Q2.out _).mono ?_
          rintro e w4 ⟨rfl, hB4⟩
          have B4 := hide hB4
          clear hB4
          go_wp2_with fail
          refine (Q2.out _).mono ?_
          rintro e w5 ⟨rfl, hB5⟩
          have B5 := hide hB5
          clear hB5
          go_wp2
          go_ret
          exact ⟨rfl, ((((B1.out.trans (B2.out.mono B1.out.size)).trans (B3.out.mono (by have := B1.out.size; have := B2.out.size; omega))).trans (B4.out.mono (by have := B1.out.size; have := B2.out.size; have := B3.out.size; omega))).trans (B5.out.mono (by have := B1.out.size; have := B2.out.size; have := B3.out.size; have := B4.out.size; omega)))⟩
        · subst hor
          have g1 : ¬ (r.size : Int) < (r.size : Int) := by omega
          clear zs zq he
          go_wp2_with fail
          refine (U.out _).mono ?_
          rintro e w3 ⟨rfl, hB3⟩
          have B3 := hide hB3
          clear hB3
          go_wp2_with fail
          refine (Q2.out _).mono ?_
          rintro e w4 ⟨rfl, hB4⟩
          have B4 := hide hB4
          clear hB4
          go_wp2_with fail
          refine (Q2.out _).mono ?_
          rintro e w5 ⟨rfl, hB5⟩
          have B5 := hide hB5
          clear hB5
          go_wp2_with fail
          refine (Q2.out _).mono ?_
          rintro e w6 ⟨rfl, hB6⟩
          have B6 := hide hB6
          clear hB6
          go_wp2
          go_ret
          exact ⟨rfl, (((((B1.out.trans (B2.out.mono B1.out.size)).trans (B3.out.mono (by have := B1.out.size; have := B2.out.size; omega))).trans (B4.out.mono (by have := B1.out.size; have := B2.out.size; have := B3.out.size; omega))).trans (B5.out.mono (by have := B1.out.size; have := B2.out.size; have := B3.out.size; have := B4.out.size; omega))).trans (B6.out.mono (by have := B1.out.size; have := B2.out.size; have := B3.out.size; have := B4.out.size; have := B5.out.size; omega)))⟩
      · have hemp := HE.out he
        obtain ⟨u1, u2⟩ := u
        simp only at hemp he
        subst hemp
        have n1 : (u2 == 0) = false := beq_eq_false_iff_ne.2 he
        have n2 := bne_of n1
        clear he
        go_wp2_with fail
        refine (U.out _).mono ?_
        rintro e w3 ⟨rfl, hB3⟩
        have B3 := hide hB3
        clear hB3
        go_wp2
        go_ret
        exact ⟨rfl, ((B1.out.trans (B2.out.mono B1.out.size)).trans (B3.out.mono (by have := B1.out.size; have := B2.out.size; omega)))⟩
end Go.Proofs.YtdglaabgeigfnaaDoor.quotePrintable
