/- The walk of TimescaleReturns. -/
import Derived.Test.YtglfnbhcdblpiaaDoorTsN
set_option linter.unusedVariables false
namespace Go.Proofs.YtglfnbhcdblpiaaDoor.timescaleReturns
open Go.RowKit Go.Shelf Go.Sort

set_option maxRecDepth 20000 in
set_option maxHeartbeats 4000000 in
theorem tail (t a b n e : Int) (hc : convertS t a b = (n, e)) (q : Bool) (x : Int) (hq : q = (x == 0)) (w : World) (hg : Gl w) (hv : q = validB a) (hx : parseS (formatS a) = (if q then a else 0, x)) :
    Calls Tryd.prog 6 #[.int .i64 t, .int .i64 a, .int .i64 b] w fun e w' => e = .returned (.bool true) ∧ Below w.heap.size w w' := by
  have A := hide (awake_any w hg)
  have G := hide hg
  clear hg
  have B0 := hide (Below.refl w.heap.size w)
  have C := hide (fun W : World => Convert_any t a b W)
  have C2 := hide (fun W : World => Convert_any n b a W)
  have F := hide (fun (W : World) (h : Gl W) => Format_any a W h)
  have P := hide (fun (W : World) (h : Gl W) => Parse_any (formatS a) W h)
  have V := hide (fun W : World => Valid_any a W)
  have hb := fun (h : e = 0) => conv_back t a b n (h ▸ hc)
  have he := conv_err t a b
  rw [hc] at C he
  rw [← hv] at V
  rw [hx] at P
  generalize formatS a = f at F P
  generalize convertS n b a = r at C2 hb
  obtain ⟨r1, r2⟩ := r
  clear hc hv hx
  have hq1 : (x == 0) = q := hq.symm
  clear hq
  cases q with
  | true =>
    rw [if_pos rfl] at P
    by_cases h0 : e = 0
    · obtain ⟨rfl, rfl⟩ : r1 = t ∧ r2 = 0 := ⟨congrArg Prod.fst (hb h0), congrArg Prod.snd (hb h0)⟩
      have e0 : (e != 0) = false := by rw [h0]; rfl
      have e1 : (a != a) = false := by simp
      clear hb he h0
      go_enter Tryd.func6, Tryd.ntmps6
      go_wp2_with fail
      refine (A.out).mono ?_
      rintro e w1 ⟨rfl, hb⟩
      have B1 := hide (B0.out.trans (hb.mono B0.out.size))
      clear hb
      go_wp2_with fail
      refine (F.out _ (G.out.below B1.out)).mono ?_
      rintro e w2 ⟨rfl, hb⟩
      have B2 := hide (B1.out.trans (hb.mono B1.out.size))
      clear hb
      go_wp2_with fail
      refine (P.out _ (G.out.below B2.out)).mono ?_
      rintro e w3 ⟨rfl, hb⟩
      have B3 := hide (B2.out.trans (hb.mono B2.out.size))
      clear hb
      go_wp2_with fail
      refine (V.out _).mono ?_
      rintro e wx ⟨rfl, rfl⟩
      go_wp2_with fail
      refine (C.out _).mono ?_
      rintro e w4 ⟨rfl, hb⟩
      have B4 := hide (B3.out.trans (hb.mono B3.out.size))
      clear hb
      go_wp2_with fail
      refine (C2.out _).mono ?_
      rintro e w5 ⟨rfl, hb⟩
      have B5 := hide (B4.out.trans (hb.mono B4.out.size))
      clear hb
      go_wp2
      go_ret
      exact ⟨rfl, B5.out⟩
    · obtain rfl : n = 0 := he h0
      have e0 : (e != 0) = true := by simpa using h0
      clear hb he h0
      go_enter Tryd.func6, Tryd.ntmps6
      go_wp2_with fail
      refine (A.out).mono ?_
      rintro e w1 ⟨rfl, hb⟩
      have B1 := hide (B0.out.trans (hb.mono B0.out.size))
      clear hb
      go_wp2_with fail
      refine (F.out _ (G.out.below B1.out)).mono ?_
      rintro e w2 ⟨rfl, hb⟩
      have B2 := hide (B1.out.trans (hb.mono B1.out.size))
      clear hb
      go_wp2_with fail
      refine (P.out _ (G.out.below B2.out)).mono ?_
      rintro e w3 ⟨rfl, hb⟩
      have B3 := hide (B2.out.trans (hb.mono B2.out.size))
      clear hb
      go_wp2_with fail
      refine (V.out _).mono ?_
      rintro e wx ⟨rfl, rfl⟩
      go_wp2_with fail
      refine (C.out _).mono ?_
      rintro e w4 ⟨rfl, hb⟩
      have B4 := hide (B3.out.trans (hb.mono B3.out.size))
      clear hb
      go_wp2
      go_ret
      exact ⟨rfl, B4.out⟩
  | false =>
    rw [if_neg Bool.false_ne_true] at P
    by_cases h0 : e = 0
    · obtain ⟨rfl, rfl⟩ : r1 = t ∧ r2 = 0 := ⟨congrArg Prod.fst (hb h0), congrArg Prod.snd (hb h0)⟩
      have e0 : (e != 0) = false := by rw [h0]; rfl
      clear hb he h0
      go_enter Tryd.func6, Tryd.ntmps6
      go_wp2_with fail
      refine (A.out).mono ?_
      rintro e w1 ⟨rfl, hb⟩
      have B1 := hide (B0.out.trans (hb.mono B0.out.size))
      clear hb
      go_wp2_with fail
      refine (F.out _ (G.out.below B1.out)).mono ?_
      rintro e w2 ⟨rfl, hb⟩
      have B2 := hide (B1.out.trans (hb.mono B1.out.size))
      clear hb
      go_wp2_with fail
      refine (P.out _ (G.out.below B2.out)).mono ?_
      rintro e w3 ⟨rfl, hb⟩
      have B3 := hide (B2.out.trans (hb.mono B2.out.size))
      clear hb
      go_wp2_with fail
      refine (V.out _).mono ?_
      rintro e wx ⟨rfl, rfl⟩
      go_wp2_with fail
      refine (C.out _).mono ?_
      rintro e w4 ⟨rfl, hb⟩
      have B4 := hide (B3.out.trans (hb.mono B3.out.size))
      clear hb
      go_wp2_with fail
      refine (C2.out _).mono ?_
      rintro e w5 ⟨rfl, hb⟩
      have B5 := hide (B4.out.trans (hb.mono B4.out.size))
      clear hb
      go_wp2
      go_ret
      exact ⟨rfl, B5.out⟩
    · obtain rfl : n = 0 := he h0
      have e0 : (e != 0) = true := by simpa using h0
      clear hb he h0
      go_enter Tryd.func6, Tryd.ntmps6
      go_wp2_with fail
      refine (A.out).mono ?_
      rintro e w1 ⟨rfl, hb⟩
      have B1 := hide (B0.out.trans (hb.mono B0.out.size))
      clear hb
      go_wp2_with fail
      refine (F.out _ (G.out.below B1.out)).mono ?_
      rintro e w2 ⟨rfl, hb⟩
      have B2 := hide (B1.out.trans (hb.mono B1.out.size))
      clear hb
      go_wp2_with fail
      refine (P.out _ (G.out.below B2.out)).mono ?_
      rintro e w3 ⟨rfl, hb⟩
      have B3 := hide (B2.out.trans (hb.mono B2.out.size))
      clear hb
      go_wp2_with fail
      refine (V.out _).mono ?_
      rintro e wx ⟨rfl, rfl⟩
      go_wp2_with fail
      refine (C.out _).mono ?_
      rintro e w4 ⟨rfl, hb⟩
      have B4 := hide (B3.out.trans (hb.mono B3.out.size))
      clear hb
      go_wp2
      go_ret
      exact ⟨rfl, B4.out⟩
theorem walk (t a b : Int) (w : World) (_ : (Lit.int .i64 t).wf = true) (_ : (Lit.int .i64 a).wf = true) (_ : (Lit.int .i64 b).wf = true) (hg : Gl w) :
    Calls Tryd.prog 6 #[.int .i64 t, .int .i64 a, .int .i64 b] w fun e w' => e = .returned (.bool true) ∧ Below w.heap.size w w' := by
  refine tail t a b _ _ rfl (validB a) (parseS (formatS a)).2 ?_ w hg rfl ?_
  · rw [parse_format]; cases validB a <;> rfl
  · rw [parse_format]; cases validB a <;> rfl
end Go.Proofs.YtglfnbhcdblpiaaDoor.timescaleReturns
