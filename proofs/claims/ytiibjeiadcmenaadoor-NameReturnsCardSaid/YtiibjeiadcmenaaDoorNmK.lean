/- awake of the laws 19; the table of powers out of what is laid; Few and Texts. -/
import Derived.Test.YtiibjeiadcmenaaDoorNmI
import Derived.Test.YtiibjeiadcmenaaDoorRows
set_option linter.unusedVariables false
set_option linter.unusedSimpArgs false
namespace Go.Proofs.YtiibjeiadcmenaaDoor
open Go.RowKit Go.Shelf Go.Sort

theorem gl_of {W : World} (h : laidMetH Tryd.prog Rows.nameFormsRow.laid W) (hS : W.ShapedOpen Tryd.prog) : Gl W := by
  rw [MakeChecks.laidMetH_plain _ _ _ (by kernel_rfl)] at h
  exact gl_mk (x := ("math/bits.deBruijn32tab", Rows.laid_math_bits_deBruijn32tab)) (y := ("math/bits.deBruijn64tab", Rows.laid_math_bits_deBruijn64tab)) (rest := Rows.nameFormsRow.laid.drop 3) h hS

theorem ex_ref1 : refS [⟨#[100, 97, 116, 97, 91, 55, 58, 48, 93]⟩] = (⟨#[100, 97, 116, 97]⟩, true, 7, 0, 0) := by decide +kernel
theorem ex_ref2 : refS [⟨#[92, 97, 91, 51, 93]⟩] = (⟨#[92, 97, 91, 51, 93]⟩, false, 0, 0, 0) := by decide +kernel
theorem ex_split : spl (splitF 9 [116, 111, 112, 46, 92, 117, 46, 49, 32, 46, 99, 108, 107]) = ([⟨#[116, 111, 112]⟩, ⟨#[92, 117, 46, 49]⟩, ⟨#[99, 108, 107]⟩], 0) := by decide +kernel
theorem ex_valid : vN [99, 108, 107] = true := by decide +kernel
theorem ex_width : widthS 7 0 = 8 := by decide +kernel
theorem sl_one (w : World) (s : ByteArray) : Sl Value.string (w.alloc (.cells #[.string s] 9)) (some ⟨w.heap.size, 0, none⟩) [s] := fun _ => ⟨w.heap.size, 0, rfl, fun i hi => by
  rw [Nat.zero_add, (Row.new w 9 #[.string s]).cell i]
  obtain rfl : i = 0 := by simpa using hi
  rfl⟩

set_option maxRecDepth 20000 in
set_option maxHeartbeats 8000000 in
theorem awake_any (w : World) (hg : Gl w) :
    Calls Tryd.prog 10 #[] w fun e w' => e = .returned (.bool true) ∧ Below w.heap.size w w' := by
  have G := hide hg
  clear hg
  have V := hide (fun W : World => Valid_any ⟨#[99, 108, 107]⟩ W (by decide))
  rw [show (⟨#[99, 108, 107]⟩ : ByteArray).data.toList = [99, 108, 107] from rfl, ex_valid] at V
  have X := hide (fun W : World => Width_any 7 0 W)
  rw [ex_width] at X
  have S := hide (fun (W : World) (h : Gl W) => Split_any ⟨#[116, 111, 112, 46, 92, 117, 46, 49, 32, 46, 99, 108, 107]⟩ W (by decide) h)
  rw [show (⟨#[116, 111, 112, 46, 92, 117, 46, 49, 32, 46, 99, 108, 107]⟩ : ByteArray).data.toList = [116, 111, 112, 46, 92, 117, 46, 49, 32, 46, 99, 108, 107] from rfl, ex_split] at S
  have B0 := hide (Below.refl w.heap.size w)
  go_enter Tryd.func10, Tryd.ntmps10
  go_wp2_with fail
  refine (Reference_any (some ⟨w.heap.size, 0, none⟩) 1 1 [⟨#[100, 97, 116, 97, 91, 55, 58, 48, 93]⟩] _ rfl (by decide) (sl_one w _) (by intro s hs; simp at hs; subst hs; decide)).mono ?_
  rw [ex_ref1]
  rintro e w1 ⟨rfl, hb⟩
  have B1 := hide (((B0.out.alloc (Nat.le_refl _) (.cells #[.string ⟨#[100, 97, 116, 97, 91, 55, 58, 48, 93]⟩] 9)).trans (hb.mono (by rw [World.size_alloc]; exact Nat.le_succ _))))
  clear hb
  go_wp2_with fail
  refine (Reference_any (some ⟨w1.heap.size, 0, none⟩) 1 1 [⟨#[92, 97, 91, 51, 93]⟩] _ rfl (by decide) (sl_one w1 _) (by intro s hs; simp at hs; subst hs; decide)).mono ?_
  rw [ex_ref2]
  rintro e w2 ⟨rfl, hb⟩
  have B2 := hide (((B1.out.alloc B1.out.size (.cells #[.string ⟨#[92, 97, 91, 51, 93]⟩] 9)).trans (hb.mono (by rw [World.size_alloc]; exact Nat.le_succ_of_le B1.out.size))))
  clear hb
  go_wp2_with fail
  refine (S.out _ (G.out.below B2.out)).mono ?_
  rintro e w3 ⟨A, cap, rfl, hsl, hcap, hb⟩
  have B3 := hide (B2.out.trans (hb.mono B2.out.size))
  obtain ⟨bA, off, rfl, hbz, hat⟩ := hsl.at (i := 1) (by decide)
  have hc := hat w3 (Below.refl _ _)
  clear hb hat hsl hcap
  simp only [List.getElem_cons_succ, List.getElem_cons_zero, List.length_cons, List.length_nil] at hc ⊢
  go_wp2_with fail
  refine (V.out _).mono ?_
  rintro e w4 ⟨rfl, hb⟩
  have B4 := hide (B3.out.trans (hb.mono B3.out.size))
  clear hb
  go_wp2_with fail
  refine (X.out _).mono ?_
  rintro e w5 ⟨rfl, rfl⟩
  go_wp2
  go_ret
  exact ⟨rfl, B4.out⟩
end Go.Proofs.YtiibjeiadcmenaaDoor
