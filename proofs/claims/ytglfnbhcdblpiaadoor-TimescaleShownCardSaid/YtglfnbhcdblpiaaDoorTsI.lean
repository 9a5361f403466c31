/- Contract of the reference's Parse. -/
import Derived.Test.YtglfnbhcdblpiaaDoorTsH
set_option linter.unusedVariables false
namespace Go.Proofs.YtglfnbhcdblpiaaDoor
open Go.RowKit Go.Shelf Go.Sort

theorem units_at (x : Nat) (h : x < 6) {w : World} {b : Nat} (hr : Row w b 9 ((List.range 6).map fun i => Value.string (uname i)).toArray) : w.cell? ⟨b, x, none⟩ = some (.string (uname x)) := by
  rw [hr.cell, List.getElem?_toArray, List.getElem?_map, List.getElem?_range h]; rfl

set_option maxRecDepth 20000 in
set_option maxHeartbeats 2000000 in
theorem refParse_any (text : ByteArray) (w : World) :
    Calls Tryd.prog 12 #[.string text] w fun e w' => e = .returned (.tuple #[.int .i64 (parseS text).1, .int .i64 (parseS text).2]) ∧ Below w.heap.size w w' := by
  go_enter Tryd.func12, Tryd.ntmps12
  go_wp2
  go_loopw [4] (fun v wr => ∃ (c : Int) (k : Nat), v = .int .i64 c ∧ c = (k : Int) - 15 ∧ k ≤ 18 ∧ (∀ j, j < k → hitB text j = false) ∧ Below w.heap.size w wr) (fun v _ => (3 - intOf v).toNat)
  case atStart => exact ⟨-15, 0, rfl, by omega, Nat.zero_le _, fun j hj => absurd hj (Nat.not_lt_zero _), Below.refl _ _⟩
  case round =>
    obtain ⟨c, k, rfl, hc, hk, hno, hb⟩ := hrel
    have Hno := hide hno
    have HB := hide hb
    clear hno hb
    by_cases hlt : k < 18
    · have hc1 : -15 ≤ c := by omega
      have hc2 : c ≤ 2 := by omega
      have S := hide (fun W : World => split_any c W hc1 hc2)
      obtain ⟨u1, _, _, _⟩ := unitIx_spec c hc1 hc2
      obtain ⟨f1, f2⟩ := fac_le c hc1 hc2
      have hh : hitB text k = (decide (text = formatS c) || decide (text = compactS c)) := by rw [hc]; rfl
      rw [format_eq c hc1 hc2, show compactS c = decB (facS c) ++ uname (unitIx c) from rfl] at hh
      have z1 := decB_size (facS c) (by omega) (by omega)
      have z2 := uname_size (unitIx c)
      have d1 := fun W => cat_run (P := Tryd.prog) (decB (facS c)) ⟨#[32]⟩ (by show _ + 1 ≤ _; omega) W
      have d2 := fun W => cat_run (P := Tryd.prog) (decB (facS c) ++ ⟨#[32]⟩) (uname (unitIx c)) (by rw [ByteArray.size_append]; show _ + 1 + _ ≤ _; omega) W
      have d3 := fun W => cat_run (P := Tryd.prog) (decB (facS c)) (uname (unitIx c)) (by omega) W
      clear z1 z2
      have D := hide (fun W : World => Decimal_i (facS c) W (by omega) (by omega))
      generalize facS c = f at *
      generalize unitIx c = x at *
      have U := hide (fun (W : World) (b : Nat) (h : Row W b 9 ((List.range 6).map fun i => Value.string (uname i)).toArray) => units_at x u1 h)
      generalize uname x = nm at U d2 d3 hh
      have hA : ∃ A, decB f ++ ⟨#[32]⟩ ++ nm = A := ⟨_, rfl⟩
      obtain ⟨A, hA⟩ := hA
      have hB : ∃ B, decB f ++ nm = B := ⟨_, rfl⟩
      obtain ⟨B, hB⟩ := hB
      rw [hA] at d2 hh
      rw [hB] at d3 hh
      clear hA hB
      have HH := hide hh
      have HC := hide hc
      have hlt' := hide hlt
      clear hh hc hlt hk
      go_wp2_with fail
      refine (S.out _).mono ?_
      rintro e w0 ⟨rfl, rfl⟩
      go_wp2_with fail
      refine (D.out _).mono ?_
      rintro e w1 ⟨rfl, hb1⟩
      have H1 := hide (HB.out.trans (hb1.mono HB.out.size))
      clear hb1
      go_wp2_with fail
      refine (refUnits_any _).mono ?_
      rintro e w2 ⟨rfl, hrow, hb2⟩
      have g1 := U.out w2 _ hrow
      have H2 := hide (H1.out.trans (hb2.mono H1.out.size))
      clear hb2 hrow
      by_cases h1 : text = A
      · have hp : parseS text = (c, 0) := HC.out ▸ parse_hit hlt'.out (by rw [HH.out, decide_eq_true h1]; rfl) Hno.out
        have HP := hide hp
        clear hp
        subst h1
        go_wp2
        go_ret2
        exact ⟨by rw [HP.out]; rfl, H2.out⟩
      · have e2 : decide (text = A) = false := decide_eq_false h1
        have n1 : (text.toList == A.toList) = false := beq_eq_false_iff_ne.2 (toList_ne h1)
        go_wp2_with fail
        refine (D.out _).mono ?_
        rintro e w3 ⟨rfl, hb3⟩
        have H3 := hide (H2.out.trans (hb3.mono H2.out.size))
        clear hb3
        go_wp2_with fail
        refine (refUnits_any _).mono ?_
        rintro e w4 ⟨rfl, hrow, hb4⟩
        have g2 := U.out w4 _ hrow
        have H4 := hide (H3.out.trans (hb4.mono H3.out.size))
        clear hb4 hrow
        by_cases h2 : text = B
        · have hp : parseS text = (c, 0) := HC.out ▸ parse_hit hlt'.out (by rw [HH.out, decide_eq_true h2, Bool.or_true]) Hno.out
          have HP := hide hp
          clear hp
          subst h2
          go_wp2
          go_ret2
          exact ⟨by rw [HP.out]; rfl, H4.out⟩
        · have e4 : decide (text = B) = false := decide_eq_false h2
          have n2 : (text.toList == B.toList) = false := beq_eq_false_iff_ne.2 (toList_ne h2)
          have hkn : hitB text k = false := by rw [HH.out, e2, e4]; rfl
          have HK := hide hkn
          clear hkn
          go_wp2
          go_roundw
          case rel =>
            refine ⟨c + 1, k + 1, by go_num, by have := HC.out; omega, by have := hlt'.out; omega, fun j hj => ?_, H4.out⟩
            rcases Nat.lt_or_ge j k with h | h
            · exact Hno.out j h
            · obtain rfl : j = k := by omega
              exact HK.out
          case measure => simp [intOf]; omega
    · obtain rfl : k = 18 := by omega
      obtain rfl : c = 3 := by omega
      have HP := hide (parse_none Hno.out)
      go_wp2
      go_ret2
      exact ⟨by rw [HP.out]; rfl, HB.out⟩
end Go.Proofs.YtglfnbhcdblpiaaDoor
