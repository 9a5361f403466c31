/- awake of the laws 20. -/
import Derived.Test.YtcjehiecgdmidaaPtU
import Derived.MakeChecks
set_option linter.unusedVariables false
set_option linter.unusedSimpArgs false
namespace Go.Proofs.Ytcjehiecgdmidaa
open Go.RowKit Go.Shelf

theorem gm_of {W : World} (hS : W.ShapedOpen Try.prog) : Gm W :=
  cell_of_shapedOpen_int (t := 3) (zero := #[.int .i64 0]) hS (by decide +kernel) (by kernel_rfl) rfl (by kernel_rfl) (by kernel_rfl) Try.underlying3
theorem Sl_new (W : World) (L : List ByteArray) : Sl Value.string (W.alloc (.cells (L.map Value.string).toArray 9)) (some ⟨W.heap.size, 0, none⟩) L := fun _ =>
  ⟨W.heap.size, 0, rfl, fun i hi => by
    rw [Nat.zero_add, (Row.new W 9 (L.map Value.string).toArray).cell i, List.getElem?_toArray, List.getElem?_map, List.getElem?_eq_getElem hi]; rfl⟩
theorem alloc_trans {W W' : World} {o : Obj} (h : Below (W.alloc o).heap.size (W.alloc o) W') : Below W.heap.size W W' :=
  ((Below.refl W.heap.size W).alloc (Nat.le_refl _) o).trans (h.mono (by rw [World.size_alloc]; omega))
theorem Match_lit (pl : List UInt8) (L : List ByteArray) (q : Bool) (hq : matchV pl (bl L) = q) (hl : pl.length ≤ 1000000) (hL : L.length ≤ 1000000) (hz : ∀ s ∈ L, s.size ≤ 1000000) (W : World) (hW : Gm W) :
    Calls Try.prog 12 #[.string (bsP pl), .slice (some ⟨W.heap.size, 0, none⟩) L.length L.length] (W.alloc (.cells (L.map Value.string).toArray 9)) fun e w' => e = .returned (.bool q) ∧ Below W.heap.size W w' := by
  refine (Match_pt pl (some ⟨W.heap.size, 0, none⟩) L.length L _ hl (hW.below ((Below.refl _ _).alloc (Nat.le_refl _) _)) (Sl_new W L) hL hz).mono ?_
  rintro e w' ⟨rfl, hb⟩
  exact ⟨ret_b hq.symm, alloc_trans hb⟩
theorem aw_m1 (W : World) (hW : Gm W) : Calls Try.prog 12 #[.string ⟨#[116, 111, 112, 46, 42, 42, 46, 99, 108, 107, 42]⟩, .slice (some ⟨W.heap.size, 0, none⟩) 2 2] (W.alloc (.cells #[.string ⟨#[116, 111, 112]⟩, .string ⟨#[99, 108, 107]⟩] 9)) fun e w' => e = .returned (.bool true) ∧ Below W.heap.size W w' :=
  Match_lit [116, 111, 112, 46, 42, 42, 46, 99, 108, 107, 42] [⟨#[116, 111, 112]⟩, ⟨#[99, 108, 107]⟩] true (by decide +kernel) (by decide) (by decide) (by decide) W hW
theorem aw_m2 (W : World) (hW : Gm W) : Calls Try.prog 12 #[.string ⟨#[116, 111, 112, 46, 42, 42, 46, 99, 108, 107, 42]⟩, .slice (some ⟨W.heap.size, 0, none⟩) 4 4] (W.alloc (.cells #[.string ⟨#[116, 111, 112]⟩, .string ⟨#[117, 49]⟩, .string ⟨#[117, 50]⟩, .string ⟨#[99, 108, 107, 95, 110]⟩] 9)) fun e w' => e = .returned (.bool true) ∧ Below W.heap.size W w' :=
  Match_lit [116, 111, 112, 46, 42, 42, 46, 99, 108, 107, 42] [⟨#[116, 111, 112]⟩, ⟨#[117, 49]⟩, ⟨#[117, 50]⟩, ⟨#[99, 108, 107, 95, 110]⟩] true (by decide +kernel) (by decide) (by decide) (by decide) W hW
theorem aw_m3 (W : World) (hW : Gm W) : Calls Try.prog 12 #[.string ⟨#[116, 111, 112, 46, 100, 97, 116, 97, 91, 48, 45, 51, 93]⟩, .slice (some ⟨W.heap.size, 0, none⟩) 2 2] (W.alloc (.cells #[.string ⟨#[116, 111, 112]⟩, .string ⟨#[100, 97, 116, 97, 55]⟩] 9)) fun e w' => e = .returned (.bool false) ∧ Below W.heap.size W w' :=
  Match_lit [116, 111, 112, 46, 100, 97, 116, 97, 91, 48, 45, 51, 93] [⟨#[116, 111, 112]⟩, ⟨#[100, 97, 116, 97, 55]⟩] false (by decide +kernel) (by decide) (by decide) (by decide) W hW
theorem ex_pref : (prefV [116, 111, 112, 46, 100, 97, 116, 97, 91, 48, 45, 51, 93]).length = 1 := by decide +kernel
theorem aw_p (W : World) (hW : Gm W) : Calls Try.prog 10 #[.string ⟨#[116, 111, 112, 46, 100, 97, 116, 97, 91, 48, 45, 51, 93]⟩] W fun e w' => (∃ A cap, e = .returned (.slice A 1 cap)) ∧ Below W.heap.size W w' :=
  (Prefix_pt [116, 111, 112, 46, 100, 97, 116, 97, 91, 48, 45, 51, 93] W (by decide) hW).mono (by
    rintro e w' ⟨A, cap, rfl, _, _, hb⟩
    exact ⟨⟨A, cap, by rw [ex_pref]⟩, hb⟩)
theorem ex_name : nameV [100, 97, 116, 97, 91, 48, 45, 51, 93] [100, 97, 116, 97, 50] = true := by decide +kernel
theorem aw_n (W : World) (hW : Gm W) : Calls Try.prog 16 #[.string ⟨#[100, 97, 116, 97, 91, 48, 45, 51, 93]⟩, .string ⟨#[100, 97, 116, 97, 50]⟩] W fun e w' => e = .returned (.bool true) ∧ Below W.heap.size W w' :=
  (MatchName_pt [100, 97, 116, 97, 91, 48, 45, 51, 93] ⟨#[100, 97, 116, 97, 50]⟩ W (by decide) (by decide) hW).mono (by
    rintro e w' ⟨rfl, hb⟩
    exact ⟨ret_b ex_name.symm, hb⟩)
theorem ex_valid : (readV [42, 42]).isSome = true := by decide +kernel
theorem aw_v (W : World) (hW : Gm W) : Calls Try.prog 11 #[.string ⟨#[42, 42]⟩] W fun e w' => e = .returned (.bool true) ∧ Below W.heap.size W w' :=
  (Valid_pt [42, 42] W (by decide) hW).mono (by
    rintro e w' ⟨rfl, hb⟩
    exact ⟨ret_b ex_valid.symm, hb⟩)
theorem ex_count : countV [42, 42] [[⟨#[97]⟩], []] = 2 := by decide +kernel
theorem aw_f (W : World) (hW : Gm W) : Calls Try.prog 18 #[.string ⟨#[42, 42]⟩, .slice (some ⟨W.heap.size + 2, 0, none⟩) 2 2] (((W.alloc (.cells #[.string ⟨#[97]⟩] 9)).alloc (.cells #[] 9)).alloc (.cells #[.slice (some ⟨W.heap.size, 0, none⟩) 1 1, .slice (some ⟨W.heap.size + 1, 0, none⟩) 0 0] 22)) fun e w' => (∃ A cap, e = .returned (.slice A 2 cap)) ∧ Below W.heap.size W w' := by
  obtain ⟨W1, hW1⟩ : ∃ W1, W.alloc (.cells #[.string ⟨#[97]⟩] 9) = W1 := ⟨_, rfl⟩
  have r0 : Row W1 W.heap.size 9 #[.string ⟨#[97]⟩] := by rw [← hW1]; exact Row.new _ _ _
  have z1 : W1.heap.size = W.heap.size + 1 := by rw [← hW1, World.size_alloc]
  have b1 : Below W.heap.size W W1 := by rw [← hW1]; exact (Below.refl _ _).alloc (Nat.le_refl _) _
  rw [hW1]
  obtain ⟨W2, hW2⟩ : ∃ W2, W1.alloc (.cells #[] 9) = W2 := ⟨_, rfl⟩
  have r1 : Row W2 W.heap.size 9 #[.string ⟨#[97]⟩] := by rw [← hW2]; exact r0.alloc _
  have z2 : W2.heap.size = W.heap.size + 2 := by rw [← hW2, World.size_alloc, z1]
  have b2 : Below W.heap.size W W2 := by rw [← hW2]; exact b1.alloc (by rw [z1]; omega) _
  rw [hW2]
  obtain ⟨W3, hW3⟩ : ∃ W3, W2.alloc (.cells #[.slice (some ⟨W.heap.size, 0, none⟩) 1 1, .slice (some ⟨W.heap.size + 1, 0, none⟩) 0 0] 22) = W3 := ⟨_, rfl⟩
  have r2 : Row W3 W.heap.size 9 #[.string ⟨#[97]⟩] := by rw [← hW3]; exact r1.alloc _
  have r3 : Row W3 (W.heap.size + 2) 22 #[.slice (some ⟨W.heap.size, 0, none⟩) 1 1, .slice (some ⟨W.heap.size + 1, 0, none⟩) 0 0] := by
    rw [← hW3, ← z2]; exact Row.new _ _ _
  have b3 : Below W.heap.size W W3 := by rw [← hW3]; exact b2.alloc (by rw [z2]; omega) _
  rw [hW3]
  refine (Filter_pt [42, 42] (some ⟨W.heap.size + 2, 0, none⟩) 2 [[⟨#[97]⟩], []] W3 (by decide) (hW.below b3) (fun _ => ⟨W.heap.size + 2, 0, rfl, r3.lt, fun i hi => ?_⟩) (by decide) (by
    intro L hL
    simp only [List.mem_cons, List.not_mem_nil, or_false] at hL
    rcases hL with rfl | rfl
    · exact ⟨by decide, by decide⟩
    · exact ⟨by decide, by decide⟩)).mono ?_
  · rw [Nat.zero_add, r3.cell i]
    have : i = 0 ∨ i = 1 := by simp at hi; omega
    rcases this with rfl | rfl
    · exact ⟨some ⟨W.heap.size, 0, none⟩, 1, rfl, fun _ => ⟨W.heap.size, 0, rfl, fun j hj => by
        rw [Nat.zero_add, r2.cell j]
        have : j = 0 := by simpa using hj
        subst this; rfl⟩⟩
    · exact ⟨some ⟨W.heap.size + 1, 0, none⟩, 0, rfl, Sl.nil _ _ _⟩
  · rintro e w' ⟨A, cap, rfl, hb⟩
    exact ⟨⟨A, cap, by rw [ex_count]⟩, b3.trans (hb.mono b3.size)⟩
set_option maxHeartbeats 4000000 in
theorem awake_pt (w : World) (hg : Gm w) : Calls Try.prog 8 #[] w fun e w' => e = .returned (.bool true) ∧ Below w.heap.size w w' := by
  have G := hide hg
  clear hg
  have H0 := hide (Below.refl w.heap.size w)
  go_enter Try.func8, Try.ntmps8
  go_wp2_with fail
  refine (aw_m1 _ (G.out.below H0.out)).mono ?_
  rintro e w1 ⟨rfl, hb⟩
  have H1 := hide (H0.out.trans (hb.mono H0.out.size))
  clear hb
  go_wp2_with fail
  refine (aw_m2 _ (G.out.below H1.out)).mono ?_
  rintro e w2 ⟨rfl, hb⟩
  have H2 := hide (H1.out.trans (hb.mono H1.out.size))
  clear hb
  go_wp2_with fail
  refine (aw_m3 _ (G.out.below H2.out)).mono ?_
  rintro e w3 ⟨rfl, hb⟩
  have H3 := hide (H2.out.trans (hb.mono H2.out.size))
  clear hb
  go_wp2_with fail
  refine (aw_p _ (G.out.below H3.out)).mono ?_
  rintro e w4 ⟨⟨A, cap, rfl⟩, hb⟩
  have H4 := hide (H3.out.trans (hb.mono H3.out.size))
  clear hb
  go_wp2_with fail
  refine (aw_n _ (G.out.below H4.out)).mono ?_
  rintro e w5 ⟨rfl, hb⟩
  have H5 := hide (H4.out.trans (hb.mono H4.out.size))
  clear hb
  go_wp2_with fail
  refine (aw_f _ (G.out.below H5.out)).mono ?_
  rintro e w6 ⟨⟨A2, cap2, rfl⟩, hb⟩
  have H6 := hide (H5.out.trans (hb.mono H5.out.size))
  clear hb
  go_wp2_with fail
  refine (aw_v _ (G.out.below H6.out)).mono ?_
  rintro e w7 ⟨rfl, hb⟩
  have H7 := hide (H6.out.trans (hb.mono H6.out.size))
  clear hb
  go_wp2
  go_ret
  exact ⟨rfl, H7.out⟩
end Go.Proofs.Ytcjehiecgdmidaa
