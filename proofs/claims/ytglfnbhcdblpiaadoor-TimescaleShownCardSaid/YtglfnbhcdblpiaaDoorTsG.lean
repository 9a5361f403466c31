/- Contracts of the reference's Show, Format. -/
import Derived.Test.YtglfnbhcdblpiaaDoorTsF
set_option linter.unusedVariables false
namespace Go.Proofs.YtglfnbhcdblpiaaDoor
open Go.RowKit Go.Shelf Go.Sort

set_option maxHeartbeats 1000000 in
theorem refFormat_any (s : Int) (w : World) :
    Calls Tryd.prog 16 #[.int .i64 s] w fun e w' => e = .returned (.string (formatS s)) ∧ Below w.heap.size w w' := by
  have V := hide (fun W : World => refValid_any s W)
  cases hv : validB s with
  | false =>
    have hS : formatS s = ⟨#[]⟩ := by unfold formatS; rw [hv]; rfl
    rw [hv] at V
    rw [hS]
    clear hS hv
    go_enter Tryd.func16, Tryd.ntmps16
    go_wp2_with fail
    refine (V.out _).mono ?_
    rintro e w1 ⟨rfl, rfl⟩
    go_wp2
    go_ret
    exact ⟨rfl, Below.refl _ _⟩
  | true =>
    rw [hv] at V
    have hr : -15 ≤ s ∧ s ≤ 2 := by simpa [validB] using hv
    obtain ⟨u1, _, _, _⟩ := unitIx_spec s hr.1 hr.2
    obtain ⟨f1, f2⟩ := fac_le s hr.1 hr.2
    have hS : formatS s = decB (facS s) ++ ⟨#[32]⟩ ++ uname (unitIx s) := by unfold formatS; rw [hv, if_pos rfl]
    have S := hide (fun W : World => split_any s W hr.1 hr.2)
    rw [hS]
    have z1 := decB_size (facS s) (by omega) (by omega)
    have z2 := uname_size (unitIx s)
    have c1 := fun W => cat_run (P := Tryd.prog) (decB (facS s)) ⟨#[32]⟩ (by show _ + 1 ≤ _; omega) W
    have c2 := fun W => cat_run (P := Tryd.prog) (decB (facS s) ++ ⟨#[32]⟩) (uname (unitIx s)) (by rw [ByteArray.size_append]; show _ + 1 + _ ≤ _; omega) W
    clear z1 z2
    generalize facS s = f at *
    generalize unitIx s = x at *
    have hc : (((List.range 6).map fun i => Value.string (uname i)).toArray)[x]? = some (.string (uname x)) := by
      rw [List.getElem?_toArray, List.getElem?_map, List.getElem?_range u1]; rfl
    have HC := hide hc
    clear hc
    go_enter Tryd.func16, Tryd.ntmps16
    go_wp2_with fail
    refine (V.out _).mono ?_
    rintro e w1 ⟨rfl, rfl⟩
    go_wp2_with fail
    refine (S.out _).mono ?_
    rintro e w2 ⟨rfl, rfl⟩
    go_wp2_with fail
    refine (Decimal_i f _ (by omega) (by omega)).mono ?_
    rintro e w3 ⟨rfl, hb3⟩
    have H3 := hide hb3
    clear hb3
    go_wp2_with fail
    refine (refUnits_any _).mono ?_
    rintro e w4 ⟨rfl, hrow, hb4⟩
    have hcell : w4.cell? ⟨w3.heap.size, x, none⟩ = some (.string (uname x)) := by rw [hrow.cell]; exact HC.out
    have H4 := hide hb4
    clear hb4 hrow
    go_wp2
    go_ret
    exact ⟨rfl, H3.out.trans (H4.out.mono H3.out.size)⟩

set_option maxHeartbeats 1000000 in
theorem refShow_any (t s : Int) (w : World) (ht1 : -9223372036854775808 ≤ t) (ht2 : t ≤ 9223372036854775807) :
    Calls Tryd.prog 24 #[.int .i64 t, .int .i64 s] w fun e w' => e = .returned (.string (showS t s)) ∧ Below w.heap.size w w' := by
  have V := hide (fun W : World => refValid_any s W)
  cases hv : validB s with
  | false =>
    have hS : showS t s = ⟨#[]⟩ := by unfold showS; rw [hv]; rfl
    rw [hv] at V
    rw [hS]
    clear hS hv
    go_enter Tryd.func24, Tryd.ntmps24
    go_wp2_with fail
    refine (V.out _).mono ?_
    rintro e w1 ⟨rfl, rfl⟩
    go_wp2
    go_ret
    exact ⟨rfl, Below.refl _ _⟩
  | true =>
    rw [hv] at V
    have hr : -15 ≤ s ∧ s ≤ 2 := by simpa [validB] using hv
    by_cases hb : 0 ≤ t ∧ t ≤ 1099511627776
    · obtain ⟨u1, _, _, _⟩ := unitIx_spec s hr.1 hr.2
      obtain ⟨f1, f2⟩ := fac_le s hr.1 hr.2
      have hS : showS t s = decB (t * facS s) ++ ⟨#[32]⟩ ++ uname (unitIx s) := by unfold showS; rw [hv, Bool.true_and, decide_eq_true hb, if_pos rfl]
      have hm : t * facS s ≤ 999999999999999 ∧ 0 ≤ t * facS s := by
        refine ⟨Int.le_trans (Int.mul_le_mul hb.2 f2 (by omega) (by omega)) (by omega), Int.mul_nonneg hb.1 (by omega)⟩
      have hw2 : IntKind.i64.wrap (t * facS s) = t * facS s := IntWalk.i64_in _ (by omega)
      have h1 : ¬ t < 0 := by omega
      have h2 : ¬ 1099511627776 < t := by omega
      have S := hide (fun W : World => split_any s W hr.1 hr.2)
      rw [hS]
      have z1 := decB_size (t * facS s) hm.2 hm.1
      have z2 := uname_size (unitIx s)
      have c1 := fun W => cat_run (P := Tryd.prog) (decB (t * facS s)) ⟨#[32]⟩ (by show _ + 1 ≤ _; omega) W
      have c2 := fun W => cat_run (P := Tryd.prog) (decB (t * facS s) ++ ⟨#[32]⟩) (uname (unitIx s)) (by rw [ByteArray.size_append]; show _ + 1 + _ ≤ _; omega) W
      clear z1 z2
      generalize facS s = f at *
      generalize unitIx s = x at *
      have D := hide (fun W : World => Decimal_i (t * f) W hm.2 hm.1)
      clear hm hb hv hS
      have hc : (((List.range 6).map fun i => Value.string (uname i)).toArray)[x]? = some (.string (uname x)) := by
        rw [List.getElem?_toArray, List.getElem?_map, List.getElem?_range u1]; rfl
      have HC := hide hc
      clear hc
      go_enter Tryd.func24, Tryd.ntmps24
      go_wp2_with fail
      refine (V.out _).mono ?_
      rintro e w1 ⟨rfl, rfl⟩
      go_wp2_with fail
      refine (S.out _).mono ?_
      rintro e w2 ⟨rfl, rfl⟩
      go_wp2_with fail
      refine (D.out _).mono ?_
      rintro e w3 ⟨rfl, hb3⟩
      have H3 := hide hb3
      clear hb3
      go_wp2_with fail
      refine (refUnits_any _).mono ?_
      rintro e w4 ⟨rfl, hrow, hb4⟩
      have hcell : w4.cell? ⟨w3.heap.size, x, none⟩ = some (.string (uname x)) := by rw [hrow.cell]; exact HC.out
      have H4 := hide hb4
      clear hb4 hrow
      go_wp2
      go_ret
      exact ⟨rfl, H3.out.trans (H4.out.mono H3.out.size)⟩
    · have hS : showS t s = ⟨#[]⟩ := by unfold showS; rw [hv, Bool.true_and, decide_eq_false hb]; rfl
      rw [hS]
      clear hS hv
      go_enter Tryd.func24, Tryd.ntmps24
      by_cases h1 : t < 0
      · go_wp2_with fail
        refine (V.out _).mono ?_
        rintro e w1 ⟨rfl, rfl⟩
        go_wp2
        go_ret
        exact ⟨rfl, Below.refl _ _⟩
      · have h2 : 1099511627776 < t := by omega
        go_wp2_with fail
        refine (V.out _).mono ?_
        rintro e w1 ⟨rfl, rfl⟩
        go_wp2
        go_ret
        exact ⟨rfl, Below.refl _ _⟩
end Go.Proofs.YtglfnbhcdblpiaaDoor
