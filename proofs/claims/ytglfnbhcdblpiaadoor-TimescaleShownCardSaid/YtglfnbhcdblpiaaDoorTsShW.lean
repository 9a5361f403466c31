/- The walk of TimescaleShown. -/
import Derived.Test.YtglfnbhcdblpiaaDoorTsP
set_option linter.unusedVariables false
namespace Go.Proofs.YtglfnbhcdblpiaaDoor.timescaleShown
open Go.RowKit Go.Shelf Go.Sort

set_option maxRecDepth 20000 in
set_option maxHeartbeats 8000000 in
theorem walk (t a b : Int) (w : World) (wt : (Lit.int .i64 t).wf = true) (wa : (Lit.int .i64 a).wf = true) (wb : (Lit.int .i64 b).wf = true) (hg : Gl w) :
    Calls Tryd.prog 9 #[.int .i64 t, .int .i64 a, .int .i64 b] w fun e w' => e = .returned (.bool true) ∧ Below w.heap.size w w' := by
  have A := hide (awake_any w hg)
  have G := hide hg
  clear hg
  obtain ⟨t1, t2⟩ := i64_bounds wt
  have B0 := hide (Below.refl w.heap.size w)
  have VA := hide (fun W : World => Valid_any a W)
  have VB := hide (fun W : World => Valid_any b W)
  have S := hide (fun (W : World) (h : Gl W) => Show_any t a W t1 t2 h)
  have R := hide (fun (W : World) (h : Gl W) => Read_any (showS t a) b W (show_size t a) h)
  have C := hide (fun (W : World) => Convert_any t a b W)
  have hrs := read_show t a b
  have he := show_empty t a
  generalize readS (showS t a) b = r at R hrs
  obtain ⟨r1, r2⟩ := r
  generalize showS t a = text at S R he
  by_cases ht : 0 ≤ t ∧ t ≤ 1099511627776
  · obtain ⟨ht0, ht1⟩ := ht
    cases ha : validB a with
    | false =>
      have h9 : text = ⟨#[]⟩ := he.elim id fun h => by rw [ha] at h; cases h.1
      subst h9
      rw [ha] at VA
      clear hrs he ha
      go_enter Tryd.func9, Tryd.ntmps9
      go_wp2_with fail
      refine (A.out).mono ?_
      rintro e w1 ⟨rfl, hb⟩
      have B1 := hide (B0.out.trans (hb.mono B0.out.size))
      clear hb
      go_wp2_with fail
      refine (VA.out _).mono ?_
      rintro e wx ⟨rfl, rfl⟩
      go_wp2_with fail
      refine (S.out _ (G.out.below B1.out)).mono ?_
      rintro e w2 ⟨rfl, hb⟩
      have B2 := hide (B1.out.trans (hb.mono B1.out.size))
      clear hb
      go_wp2
      go_ret
      exact ⟨rfl, B2.out⟩
    | true =>
      rw [ha] at VA
      cases hb : validB b with
      | false =>
        rw [hb] at VB
        clear hrs he ha hb
        go_enter Tryd.func9, Tryd.ntmps9
        go_wp2_with fail
        refine (A.out).mono ?_
        rintro e w1 ⟨rfl, hb⟩
        have B1 := hide (B0.out.trans (hb.mono B0.out.size))
        clear hb
        go_wp2_with fail
        refine (VA.out _).mono ?_
        rintro e wx ⟨rfl, rfl⟩
        go_wp2_with fail
        refine (VB.out _).mono ?_
        rintro e wx ⟨rfl, rfl⟩
        go_wp2_with fail
        refine (S.out _ (G.out.below B1.out)).mono ?_
        rintro e w2 ⟨rfl, hb⟩
        have B2 := hide (B1.out.trans (hb.mono B1.out.size))
        clear hb
        have he : text.toList.isEmpty = true ∨ text.toList.isEmpty = false := by cases text.toList.isEmpty <;> simp
        rcases he with he | he
        · go_wp2
          go_ret
          exact ⟨rfl, B2.out⟩
        · go_wp2_with fail
          refine (VA.out _).mono ?_
          rintro e wx ⟨rfl, rfl⟩
          go_wp2
          go_ret
          exact ⟨rfl, B2.out⟩
      | true =>
        rw [hb] at VB
        have hq := hrs ha hb ht0 ht1
        rw [← hq] at C
        clear hrs he ha hb hq
        go_enter Tryd.func9, Tryd.ntmps9
        go_wp2_with fail
        refine (A.out).mono ?_
        rintro e w1 ⟨rfl, hb⟩
        have B1 := hide (B0.out.trans (hb.mono B0.out.size))
        clear hb
        go_wp2_with fail
        refine (VA.out _).mono ?_
        rintro e wx ⟨rfl, rfl⟩
        go_wp2_with fail
        refine (VB.out _).mono ?_
        rintro e wx ⟨rfl, rfl⟩
        go_wp2_with fail
        refine (S.out _ (G.out.below B1.out)).mono ?_
        rintro e w2 ⟨rfl, hb⟩
        have B2 := hide (B1.out.trans (hb.mono B1.out.size))
        clear hb
        go_wp2_with fail
        refine (R.out _ (G.out.below B2.out)).mono ?_
        rintro e w3 ⟨rfl, hb⟩
        have B3 := hide (B2.out.trans (hb.mono B2.out.size))
        clear hb
        go_wp2_with fail
        refine (C.out _).mono ?_
        rintro e w4 ⟨rfl, hb⟩
        have B4 := hide (B3.out.trans (hb.mono B3.out.size))
        clear hb
        go_wp2
        go_ret
        exact ⟨rfl, B4.out⟩
  · have h9 : text = ⟨#[]⟩ := he.elim id fun h => absurd ⟨h.2.1, h.2.2⟩ ht
    subst h9
    have ht' : t < 0 ∨ (0 ≤ t ∧ 1099511627776 < t) := by omega
    clear hrs he ht
    rcases ht' with h | ⟨h, h'⟩
    all_goals
      go_enter Tryd.func9, Tryd.ntmps9
      go_wp2_with fail
      refine (A.out).mono ?_
      rintro e w1 ⟨rfl, hb⟩
      have B1 := hide (B0.out.trans (hb.mono B0.out.size))
      clear hb
      go_wp2_with fail
      refine (S.out _ (G.out.below B1.out)).mono ?_
      rintro e w2 ⟨rfl, hb⟩
      have B2 := hide (B1.out.trans (hb.mono B1.out.size))
      clear hb
      go_wp2
      go_ret
      exact ⟨rfl, B2.out⟩
end Go.Proofs.YtglfnbhcdblpiaaDoor.timescaleShown
