/- The walk of TimescaleFloors. -/
import Derived.Test.YtglfnbhcdblpiaaDoorTsN
set_option linter.unusedVariables false
namespace Go.Proofs.YtglfnbhcdblpiaaDoor.timescaleFloors
open Go.RowKit Go.Shelf Go.Sort

theorem floor_bd (t a b : Int) (he : (floorS t a b).2 = 0) : 0 ≤ (floorS t a b).1 ∧ (floorS t a b).1 ≤ 1099511627776 := by
  rcases conv_cases t a b with ⟨_, e, _⟩ | ⟨_, e, _⟩ | ⟨_, e, _⟩ | ⟨_, e, h1, h2, h3, h4, h5⟩
  · rw [e] at he; simp at he
  · rw [e] at he; simp at he
  · rw [e] at he; simp at he
  · rw [e]; exact shift_fits t (a - b) h3 h5

set_option maxRecDepth 20000 in
set_option maxHeartbeats 8000000 in
theorem walk (t a b : Int) (w : World) (wt : (Lit.int .i64 t).wf = true) (wa : (Lit.int .i64 a).wf = true) (wb : (Lit.int .i64 b).wf = true) (hg : Gl w) :
    Calls Tryd.prog 7 #[.int .i64 t, .int .i64 a, .int .i64 b] w fun e w' => e = .returned (.bool true) ∧ Below w.heap.size w w' := by
  have A := hide (awake_any w hg)
  clear hg
  have B0 := hide (Below.refl w.heap.size w)
  have F := hide (fun W : World => Floor_any t a b W)
  have C := hide (fun W : World => Convert_any t a b W)
  have L := hide (fun W : World => Convert_any (floorS t a b).1 b a W)
  have H := hide (fun W : World => Convert_any ((floorS t a b).1 + 1) b a W)
  have h1 := conv_floor t a b
  have h2 := floors t a b
  have h3 := floor_err t a b
  have h4 := floor_bd t a b
  generalize convertS (floorS t a b).1 b a = lo at L h2
  generalize convertS ((floorS t a b).1 + 1) b a = hi at H h2
  generalize convertS t a b = c at C h1 h2
  generalize floorS t a b = f at F L H h1 h2 h3 h4
  obtain ⟨f1, f2⟩ := f
  obtain ⟨c1, c2⟩ := c
  obtain ⟨lo1, lo2⟩ := lo
  obtain ⟨hi1, hi2⟩ := hi
  simp only at h1 h2 h3 h4
  by_cases hc : c2 = 0
  · obtain ⟨rfl, rfl⟩ : f1 = c1 ∧ f2 = c2 := ⟨congrArg Prod.fst (h1 hc), congrArg Prod.snd (h1 hc)⟩
    have e1 : (f2 == 0) = true := beq_iff_eq.2 hc
    clear h1 h2 h3 h4 hc
    go_enter Tryd.func7, Tryd.ntmps7
    go_wp2_with fail
    refine (A.out).mono ?_
    rintro e w1 ⟨rfl, hb⟩
    have B1 := hide (B0.out.trans (hb.mono B0.out.size))
    clear hb
    go_wp2_with fail
    refine (F.out _).mono ?_
    rintro e w2 ⟨rfl, hb⟩
    have B2 := hide (B1.out.trans (hb.mono B1.out.size))
    clear hb
    go_wp2_with fail
    refine (C.out _).mono ?_
    rintro e w3 ⟨rfl, hb⟩
    have B3 := hide (B2.out.trans (hb.mono B2.out.size))
    clear hb
    go_wp2
    go_ret
    exact ⟨rfl, B3.out⟩
  · have e1 : (c2 == 0) = false := beq_eq_false_iff_ne.2 hc
    by_cases hf : f2 = 0
    · obtain ⟨k1, k2, k3, k4⟩ := h2 hc hf
      obtain ⟨b1, b2⟩ := h4 hf
      subst k2
      have e2 : (f2 != 0) = false := by rw [hf]; rfl
      clear h1 h2 h3 h4 hc hf
      rcases k4 with rfl | ⟨rfl, k4⟩
      · go_enter Tryd.func7, Tryd.ntmps7
        go_wp2_with fail
        refine (A.out).mono ?_
        rintro e w1 ⟨rfl, hb⟩
        have B1 := hide (B0.out.trans (hb.mono B0.out.size))
        clear hb
        go_wp2_with fail
        refine (F.out _).mono ?_
        rintro e w2 ⟨rfl, hb⟩
        have B2 := hide (B1.out.trans (hb.mono B1.out.size))
        clear hb
        go_wp2_with fail
        refine (C.out _).mono ?_
        rintro e w3 ⟨rfl, hb⟩
        have B3 := hide (B2.out.trans (hb.mono B2.out.size))
        clear hb
        go_wp2_with fail
        refine (L.out _).mono ?_
        rintro e w4 ⟨rfl, hb⟩
        have B4 := hide (B3.out.trans (hb.mono B3.out.size))
        clear hb
        go_wp2_with fail
        refine (H.out _).mono ?_
        rintro e w5 ⟨rfl, hb⟩
        have B5 := hide (B4.out.trans (hb.mono B4.out.size))
        clear hb
        go_wp2
        go_ret
        exact ⟨rfl, B5.out⟩
      · skip
        go_enter Tryd.func7, Tryd.ntmps7
        go_wp2_with fail
        refine (A.out).mono ?_
        rintro e w1 ⟨rfl, hb⟩
        have B1 := hide (B0.out.trans (hb.mono B0.out.size))
        clear hb
        go_wp2_with fail
        refine (F.out _).mono ?_
        rintro e w2 ⟨rfl, hb⟩
        have B2 := hide (B1.out.trans (hb.mono B1.out.size))
        clear hb
        go_wp2_with fail
        refine (C.out _).mono ?_
        rintro e w3 ⟨rfl, hb⟩
        have B3 := hide (B2.out.trans (hb.mono B2.out.size))
        clear hb
        go_wp2_with fail
        refine (L.out _).mono ?_
        rintro e w4 ⟨rfl, hb⟩
        have B4 := hide (B3.out.trans (hb.mono B3.out.size))
        clear hb
        go_wp2_with fail
        refine (H.out _).mono ?_
        rintro e w5 ⟨rfl, hb⟩
        have B5 := hide (B4.out.trans (hb.mono B4.out.size))
        clear hb
        go_wp2
        go_ret
        exact ⟨rfl, B5.out⟩
    · obtain rfl : f1 = 0 := h3 hf
      have e2 : (f2 != 0) = true := by simpa using hf
      clear h1 h2 h3 h4 hc hf
      go_enter Tryd.func7, Tryd.ntmps7
      go_wp2_with fail
      refine (A.out).mono ?_
      rintro e w1 ⟨rfl, hb⟩
      have B1 := hide (B0.out.trans (hb.mono B0.out.size))
      clear hb
      go_wp2_with fail
      refine (F.out _).mono ?_
      rintro e w2 ⟨rfl, hb⟩
      have B2 := hide (B1.out.trans (hb.mono B1.out.size))
      clear hb
      go_wp2_with fail
      refine (C.out _).mono ?_
      rintro e w3 ⟨rfl, hb⟩
      have B3 := hide (B2.out.trans (hb.mono B2.out.size))
      clear hb
      go_wp2
      go_ret
      exact ⟨rfl, B3.out⟩
end Go.Proofs.YtglfnbhcdblpiaaDoor.timescaleFloors
