/- The walk of PatternSets. -/
import Derived.Test.YtcjehiecgdmidaaPtJoW
import Derived.Test.YtcjehiecgdmidaaPtZ
import Derived.Test.YtcjehiecgdmidaaLexR
set_option linter.unusedVariables false
set_option linter.unusedSimpArgs false
namespace Go.Proofs.Ytcjehiecgdmidaa
open Go.RowKit Go.Shelf
namespace patternSets
theorem name_lit (l s : List UInt8) (b : Bool) (hb : nameV l s = b) (hl : l.length ≤ 1000) (hs : s.length ≤ 1000) (W : World) (h : Gm W) :
    Calls Try.prog 16 #[.string (bsP l), .string (bsP s)] W fun e w' => e = .returned (.bool b) ∧ Below W.heap.size W w' :=
  hb ▸ MatchName_pt l (bsP s) W (by omega) (by rw [bsP_size]; omega) h
set_option maxRecDepth 20000 in
set_option maxHeartbeats 8000000 in
theorem walk (set : ByteArray) (a1 : Int) (w : World) (hz : set.size ≤ maxLen) (hat0 : (Lit.int .u8 a1).wf = true) (hg : Gm w) :
    Calls Try.prog 6 #[.string set, .int .u8 a1] w fun e w' => e = .returned (.bool true) ∧ Below w.heap.size w w' := by
  have hat : 0 ≤ a1 ∧ a1 ≤ 255 := by
    have h := hat0
    rw [Lit.wf, Bool.and_eq_true, decide_eq_true_eq, decide_eq_true_eq] at h
    exact ⟨h.1, h.2⟩
  clear hat0
  obtain ⟨c, hc⟩ : ∃ c : UInt8, a1 = (c.toNat : Int) := ⟨UInt8.ofNat a1.toNat, by rw [UInt8.toNat_ofNat', Nat.mod_eq_of_lt (by omega)]; omega⟩
  subst hc
  have AW := hide (awake_pt w hg)
  have G := hide hg
  clear hg hat
  by_cases h1 : set.size < 1
  · have h1' : (set.size : Int) < 1 := by omega
    go_enter Try.func6, Try.ntmps6
    go_wp2_with fail
    refine AW.out.mono ?_
    rintro e w1 ⟨rfl, hb⟩
    have B1 := hide hb
    clear hb
    go_wp2
    go_ret
    exact ⟨rfl, B1.out⟩
  · have h1' : ¬ (set.size : Int) < 1 := by omega
    by_cases h20 : 20 < set.size
    · have h20' : (20 : Int) < (set.size : Int) := by omega
      go_enter Try.func6, Try.ntmps6
      go_wp2_with fail
      refine AW.out.mono ?_
      rintro e w1 ⟨rfl, hb⟩
      have B1 := hide hb
      clear hb
      go_wp2
      go_ret
      exact ⟨rfl, B1.out⟩
    · have h20' : ¬ (20 : Int) < (set.size : Int) := by omega
      obtain ⟨S, hS⟩ : ∃ l, set = bsP l := ⟨set.data.toList, bsP_of set⟩
      have hsz := bsP_size S
      rw [← hS] at hsz
      have CA := hide (fun W : World => containsAny_any set ⟨#[45, 46, 91, 93, 92, 33]⟩ W (by decide) (by decide) (by omega) (by
        intro j b hj
        have : b ∈ ([45, 46, 91, 93, 92, 33] : List UInt8) := List.mem_of_getElem? hj
        simp at this
        rcases this with rfl | rfl | rfl | rfl | rfl | rfl <;> decide))
      rw [show (⟨#[45, 46, 91, 93, 92, 33]⟩ : ByteArray).data.toList = [45, 46, 91, 93, 92, 33] from rfl, show set.data.toList = S by rw [hS]; rfl] at CA
      cases hca : Lib.containsAny S [45, 46, 91, 93, 92, 33] with
      | true =>
        rw [hca] at CA
        clear hS hsz hca
        go_enter Try.func6, Try.ntmps6
        go_wp2_with fail
        refine AW.out.mono ?_
        rintro e w1 ⟨rfl, hb⟩
        have B1 := hide hb
        clear hb
        go_wp2_with fail
        refine (CA.out _).mono ?_
        rintro e w2 ⟨rfl, hb⟩
        have B2 := hide (B1.out.trans (hb.mono B1.out.size))
        clear hb
        go_wp2
        go_ret
        exact ⟨rfl, B2.out⟩
      | false =>
        rw [hca] at CA
        have hno : ∀ e ∈ S, e ≠ 45 ∧ e ≠ 46 ∧ e ≠ 91 ∧ e ≠ 93 ∧ e ≠ 92 ∧ e ≠ 33 := fun e he => by
          rw [containsAny_eq, List.any_eq_false] at hca
          have := hca e he
          simp at this
          exact this
        have hg0 : ∀ (i : Nat) (h : i < set.size) (h2 : i < S.length), set[i]'h = S[i] := fun i h h2 => by
          subst hS; exact bsP_get S i h
        have HS := hide hS
        have Hsz := hide hsz
        have Hno := hide hno
        have Hg0 := hide hg0
        clear hS hsz hca hno hg0
        go_enter Try.func6, Try.ntmps6
        go_wp2_with fail
        refine AW.out.mono ?_
        rintro e w1 ⟨rfl, hb⟩
        have B1 := hide hb
        clear hb
        go_wp2_with fail
        refine (CA.out _).mono ?_
        rintro e w2 ⟨rfl, hb⟩
        have B2 := hide (B1.out.trans (hb.mono B1.out.size))
        clear hb

        go_upto_region 6 with fail
        go_loopw [24] (fun v wr => ∃ i : Nat, v = .int .i64 (i : Int) ∧ i ≤ set.size ∧ (∀ j, ∀ h : j < S.length, j < i → 33 ≤ S[j].toNat ∧ S[j].toNat ≤ 126) ∧ Below w.heap.size w wr) (fun v _ => set.size - (intOf v).toNat)
        case atStart => exact ⟨0, rfl, Nat.zero_le _, fun j _ h => absurd h (Nat.not_lt_zero _), B2.out⟩
        case round =>
          obtain ⟨i, rfl, hi, hal, hwr⟩ := hrel
          have Hal := hide hal
          have B3 := hide hwr
          clear hal hwr
          by_cases hlt : i < set.size
          · have hi' : (i : Int) < (set.size : Int) := by omega
            have hi0 : (0 : Int) ≤ (i : Int) := by omega
            have hwi : IntKind.i64.wrap ((i : Int) + 1) = (i : Int) + 1 := IntWalk.i64_in _ (by omega)
            have hiS : i < S.length := by have := Hsz.out; omega
            obtain ⟨d, hd⟩ : ∃ d, set[i]'hlt = d := ⟨_, rfl⟩
            have hd2 : S[i] = d := by rw [← Hg0.out i hlt hiS]; exact hd
            have Hd2 := hide hd2
            clear hd2
            by_cases hl : d.toNat < 33
            · have hl' : (d.toNat : Int) < 33 := by omega
              go_wp2
              go_ret
              exact ⟨rfl, B3.out⟩
            · have hl' : ¬ (d.toNat : Int) < 33 := by omega
              by_cases hh : 126 < d.toNat
              · have hh' : (126 : Int) < (d.toNat : Int) := by omega
                go_wp2
                go_ret
                exact ⟨rfl, B3.out⟩
              · have hh' : ¬ (126 : Int) < (d.toNat : Int) := by omega
                go_wp2
                go_roundw
                case rel =>
                  refine ⟨i + 1, by go_num, by omega, fun j h hj => ?_, B3.out⟩
                  by_cases hji : j < i
                  · exact Hal.out j h hji
                  · have : j = i := by omega
                    subst this
                    rw [Hd2.out]; omega
                case measure => simp [intOf]; omega
          · obtain rfl : i = set.size := by omega
            have hok : ∀ e ∈ S, setOk e := fun e he => by
              obtain ⟨n1, n2, n3, n4, n5, n6⟩ := Hno.out e he
              obtain ⟨j, hj, rfl⟩ := List.mem_iff_getElem.1 he
              obtain ⟨g1, g2⟩ := Hal.out j hj (by have := Hsz.out; omega)
              exact ⟨g1, g2, n1, n2, n3, n4, n5, n6⟩
            have hSl : S.length ≤ 20 := by have := Hsz.out; omega
            obtain ⟨l1, l2, l3, l4, l5⟩ := sets_law S hok (fun e => by have h0 := Hsz.out; have := congrArg List.length e; simp only [List.length_nil] at this; omega) hSl c
            have hin := in_set S c
            have hcS := HS.out
            obtain ⟨sc, hsc⟩ : ∃ s, bsP [c] = s := ⟨_, rfl⟩
            have hcv : ∀ W : World, (convert 33 9 (.slice (some ⟨W.heap.size, 0, none⟩) 1 1)).run Try.prog (W.alloc (.cells #[.int .u8 (c.toNat : Int)] 5)) = .ok (.string sc) (W.alloc (.cells #[.int .u8 (c.toNat : Int)] 5)) := fun W => by
              rw [← hsc]
              refine run_convert_bytes_back _ 33 9 5 ⟨W.heap.size, 0, none⟩ 1 [c] Try.underlying33 Try.underlying5 Try.underlying9 (fun j hj => ?_)
              have hj0 : j = 0 := by simpa using hj
              subst hj0
              rw [Addr.add_mid]
              exact (Row.new W 5 #[.int .u8 (c.toNat : Int)]).cell 0
            have CI := hide (fun (W : World) (h : Gm W) => contains_any set sc W (by omega) h)
            rw [show set.data.toList = S by rw [hcS]; rfl, show sc.data.toList = [c] by rw [← hsc]; rfl, hin] at CI
            have y1 : ∀ W : World, (Op.stringOp .add ⟨#[91]⟩ set).run Try.prog W = .ok (.string (bsP ([91] ++ S))) W := fun W => by rw [hcS]; exact catP [91] S (by simp; omega) W
            have y2 : ∀ W : World, (Op.stringOp .add (bsP ([91] ++ S)) ⟨#[93]⟩).run Try.prog W = .ok (.string (bsP ([91] ++ S ++ [93]))) W := fun W => catP ([91] ++ S) [93] (by simp; omega) W
            have y3 : ∀ W : World, (Op.stringOp .add ⟨#[91, 33]⟩ set).run Try.prog W = .ok (.string (bsP ([91, 33] ++ S))) W := fun W => by rw [hcS]; exact catP [91, 33] S (by simp; omega) W
            have y4 : ∀ W : World, (Op.stringOp .add (bsP ([91, 33] ++ S)) ⟨#[93]⟩).run Try.prog W = .ok (.string (bsP ([91, 33] ++ S ++ [93]))) W := fun W => catP ([91, 33] ++ S) [93] (by simp; omega) W
            have y5 : ∀ W : World, (Op.stringOp .add sc sc).run Try.prog W = .ok (.string (bsP ([c] ++ [c]))) W := fun W => by rw [← hsc]; exact catP [c] [c] (by simp) W
            have y6 : ∀ W : World, (Op.stringOp .add ⟨#[97, 91]⟩ set).run Try.prog W = .ok (.string (bsP ([97, 91] ++ S))) W := fun W => by rw [hcS]; exact catP [97, 91] S (by simp; omega) W
            have y7 : ∀ W : World, (Op.stringOp .add (bsP ([97, 91] ++ S)) ⟨#[93, 98]⟩).run Try.prog W = .ok (.string (bsP ([97, 91] ++ S ++ [93, 98]))) W := fun W => catP ([97, 91] ++ S) [93, 98] (by simp; omega) W
            have y8 : ∀ W : World, (Op.stringOp .add ⟨#[97]⟩ sc).run Try.prog W = .ok (.string (bsP ([97] ++ [c]))) W := fun W => by rw [← hsc]; exact catP [97] [c] (by simp) W
            have y9 : ∀ W : World, (Op.stringOp .add (bsP ([97] ++ [c])) ⟨#[98]⟩).run Try.prog W = .ok (.string (bsP ([97] ++ [c] ++ [98]))) W := fun W => catP ([97] ++ [c]) [98] (by simp) W
            have N1 := hide (name_lit _ _ _ l1 (by simp; omega) (by simp))
            have N2 := hide (name_lit _ _ _ l2 (by simp; omega) (by simp))
            have N3 := hide (name_lit _ _ _ l3 (by simp; omega) (by simp))
            have N4 := hide (name_lit _ _ _ l4 (by simp; omega) (by simp))
            have N5 := hide (name_lit _ _ _ l5 (by simp; omega) (by simp))
            rw [hsc] at N1 N2
            rw [show bsP [] = (⟨#[]⟩ : ByteArray) from rfl] at N3
            clear l1 l2 l3 l4 l5 hin hok hSl hsc hcS
            generalize bsP ([91] ++ S ++ [93]) = k1 at *
            generalize bsP ([91] ++ S) = k2 at *
            generalize bsP ([91, 33] ++ S ++ [93]) = k3 at *
            generalize bsP ([91, 33] ++ S) = k4 at *
            generalize bsP ([c] ++ [c]) = k5 at *
            generalize bsP ([97, 91] ++ S ++ [93, 98]) = k6 at *
            generalize bsP ([97, 91] ++ S) = k7 at *
            generalize bsP ([97] ++ [c] ++ [98]) = k8 at *
            generalize bsP ([97] ++ [c]) = k9 at *
            generalize decide (c ∈ S) = b0 at *
            have hbb : (b0 == b0) = true := beq_self_eq_true _
            have hbb2 : ((!b0) == !b0) = true := beq_self_eq_true _
            have hnl : ¬ (set.size : Int) < (set.size : Int) := by omega
            have B4 := hide (B3.out.alloc B3.out.size (.cells #[.int .u8 (c.toNat : Int)] 5))
            clear hlt hi
            go_wp2_with fail
            refine (CI.out _ (G.out.below B4.out)).mono ?_
            rintro e w4 ⟨rfl, rfl⟩
            go_wp2_with fail
            refine (N1.out _ (G.out.below B4.out)).mono ?_
            rintro e w5 ⟨rfl, hb⟩
            have B5 := hide (B4.out.trans (hb.mono B4.out.size))
            clear hb
            go_wp2_with fail
            refine (N2.out _ (G.out.below B5.out)).mono ?_
            rintro e w6 ⟨rfl, hb⟩
            have B6 := hide (B5.out.trans (hb.mono B5.out.size))
            clear hb
            go_wp2_with fail
            refine (N3.out _ (G.out.below B6.out)).mono ?_
            rintro e w7 ⟨rfl, hb⟩
            have B7 := hide (B6.out.trans (hb.mono B6.out.size))
            clear hb
            go_wp2_with fail
            refine (N4.out _ (G.out.below B7.out)).mono ?_
            rintro e w8 ⟨rfl, hb⟩
            have B8 := hide (B7.out.trans (hb.mono B7.out.size))
            clear hb
            go_wp2_with fail
            refine (N5.out _ (G.out.below B8.out)).mono ?_
            rintro e w9 ⟨rfl, hb⟩
            have B9 := hide (B8.out.trans (hb.mono B8.out.size))
            clear hb
            go_wp2
            go_ret
            exact ⟨rfl, B9.out⟩
end patternSets
end Go.Proofs.Ytcjehiecgdmidaa
