/- The walk of TimescaleChains. -/
import Derived.Test.YtglfnbhcdblpiaaDoorTsN
import Derived.Deep.Cut
set_option linter.unusedVariables false
namespace Go.Proofs.YtglfnbhcdblpiaaDoor.timescaleChains
open Go.RowKit Go.Shelf Go.Sort

set_option maxRecDepth 20000 in
set_option maxHeartbeats 8000000 in
theorem walk (t a b c : Int) (w : World) (wt : (Lit.int .i64 t).wf = true) (wa : (Lit.int .i64 a).wf = true) (wb : (Lit.int .i64 b).wf = true) (wc : (Lit.int .i64 c).wf = true) (hg : Gl w) :
    Calls Tryd.prog 8 #[.int .i64 t, .int .i64 a, .int .i64 b, .int .i64 c] w fun e w' => e = .returned (.bool true) ∧ Below w.heap.size w w' := by
  have A := hide (awake_any w hg)
  clear hg
  have B0 := hide (Below.refl w.heap.size w)
  have C1 := hide (fun W : World => Convert_any t a b W)
  have C2 := hide (fun W : World => Convert_any (convertS t a b).1 b c W)
  have C3 := hide (fun W : World => Convert_any t a c W)
  have F1 := hide (fun W : World => Floor_any t a b W)
  have F2 := hide (fun W : World => Floor_any (floorS t a b).1 b c W)
  have F3 := hide (fun W : World => Floor_any t a c W)
  have hc := chain_conv t a b c
  have hf := chain_floor t a b c
  generalize convertS (convertS t a b).1 b c = y at C2 hc
  generalize convertS t a c = z at C3 hc
  generalize convertS t a b = x at C1 C2 hc
  generalize floorS (floorS t a b).1 b c = v at F2 hf
  generalize floorS t a c = u at F3 hf
  generalize floorS t a b = s at F1 F2 hf
  obtain ⟨x1, x2⟩ := x
  obtain ⟨y1, y2⟩ := y
  obtain ⟨z1, z2⟩ := z
  obtain ⟨u1, u2⟩ := u
  obtain ⟨v1, v2⟩ := v
  obtain ⟨s1, s2⟩ := s
  simp only at hc hf
  have key1 : (x2 == 0) = false ∨ ((x2 == 0) = true ∧ (y2 == 0) = false) ∨ ((x2 == 0) = true ∧ (y2 == 0) = true ∧ z2 = 0 ∧ z1 = y1) := by
    by_cases h1 : x2 = 0
    · by_cases h2 : y2 = 0
      · exact .inr (.inr ⟨beq_iff_eq.2 h1, beq_iff_eq.2 h2, hc h1 h2⟩)
      · exact .inr (.inl ⟨beq_iff_eq.2 h1, beq_eq_false_iff_ne.2 h2⟩)
    · exact .inl (beq_eq_false_iff_ne.2 h1)
  have key2 : (b < a) ∨ (a ≤ b ∧ c < b) ∨ (a ≤ b ∧ b ≤ c ∧ 2 < c) ∨ (a ≤ b ∧ b ≤ c ∧ c ≤ 2 ∧ (s2 != 0) = true) ∨ (a ≤ b ∧ b ≤ c ∧ c ≤ 2 ∧ (s2 != 0) = false ∧ v2 = 0 ∧ u2 = 0 ∧ u1 = v1) := by
    rcases Int.lt_or_le b a with h1 | h1
    · exact .inl h1
    · rcases Int.lt_or_le c b with h2 | h2
      · exact .inr (.inl ⟨h1, h2⟩)
      · rcases Int.lt_or_le 2 c with h3 | h3
        · exact .inr (.inr (.inl ⟨h1, h2, h3⟩))
        · by_cases h4 : s2 = 0
          · exact .inr (.inr (.inr (.inr ⟨h1, h2, h3, by rw [h4]; rfl, hf h1 h2 h3 h4⟩)))
          · exact .inr (.inr (.inr (.inl ⟨h1, h2, h3, by simpa using h4⟩)))
  clear hc hf
  have K2 := hide key2
  clear key2
  go_enter Tryd.func8, Tryd.ntmps8
  go_wp2_with fail
  refine (A.out).mono ?_
  rintro e w1 ⟨rfl, hb⟩
  have B1 := hide (B0.out.trans (hb.mono B0.out.size))
  clear hb
  go_wp2_with fail
  refine (C1.out _).mono ?_
  rintro e w2 ⟨rfl, hb⟩
  have B2 := hide (B1.out.trans (hb.mono B1.out.size))
  clear hb
  go_wp2_with fail
  refine (C2.out _).mono ?_
  rintro e w3 ⟨rfl, hb⟩
  have B3 := hide (B2.out.trans (hb.mono B2.out.size))
  clear hb
  go_wp2_with fail
  refine (C3.out _).mono ?_
  rintro e w4 ⟨rfl, hb⟩
  have B4 := hide (B3.out.trans (hb.mono B3.out.size))
  clear hb
  rcases key1 with k1 | ⟨k1, k2⟩ | ⟨k1, k2, rfl, rfl⟩
  all_goals
    go_upto_region 8 with fail
    rcases K2.out with j1 | ⟨j1, j2⟩ | ⟨j1, j2, j3⟩ | ⟨j1, j2, j3, j4⟩ | ⟨j1, j2, j3, j4, rfl, rfl, rfl⟩
  all_goals first
    | (go_wp2; go_ret; exact ⟨rfl, B4.out⟩)
    | skip
  all_goals
    go_wp2_with fail
    refine (F1.out _).mono ?_
    rintro e w5 ⟨rfl, hb⟩
    have B5 := hide (B4.out.trans (hb.mono B4.out.size))
    clear hb
    go_wp2_with fail
    refine (F2.out _).mono ?_
    rintro e w6 ⟨rfl, hb⟩
    have B6 := hide (B5.out.trans (hb.mono B5.out.size))
    clear hb
    go_wp2_with fail
    refine (F3.out _).mono ?_
    rintro e w7 ⟨rfl, hb⟩
    have B7 := hide (B6.out.trans (hb.mono B6.out.size))
    clear hb
    go_wp2
    go_ret
    exact ⟨rfl, B7.out⟩
end Go.Proofs.YtglfnbhcdblpiaaDoor.timescaleChains
