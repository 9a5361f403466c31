/- Contract of pattern's next: all ways joined. -/
import Derived.Test.YtcjehiecgdmidaaPtJ
import Derived.Test.YtcjehiecgdmidaaPtH
set_option linter.unusedVariables false
set_option linter.unusedSimpArgs false
namespace Go.Proofs.Ytcjehiecgdmidaa
open Go.RowKit Go.Shelf

set_option maxRecDepth 100000 in
set_option maxHeartbeats 8000000 in
theorem next_set (l : List UInt8) (w : World) (hl : l.length ≤ 1000) (hg : Gm w) :
    Calls Try.prog 36 #[.string (bsP (91 :: l))] w (ItPost (setV l) w.heap.size w) := by
  have S := hide (fun W (hW : Gm W) => set_any l W hl hW)
  have hd : (bsP (91 :: l)).extract 1 (bsP (91 :: l)).size = bsP l := bsP_drop (91 :: l) 1
  have hbz : (bsP (91 :: l)).size = l.length + 1 := bsP_size (91 :: l)
  have p0 : 0 < (bsP (91 :: l)).size := by omega
  have p0' : (0 : Int) < ((bsP (91 :: l)).size : Int) := by omega
  have p1' : (1 : Int) ≤ ((bsP (91 :: l)).size : Int) := by omega
  have hc : (bsP (91 :: l))[0]'p0 = 91 := bsP_get _ 0 p0
  have G := hide hg
  have hz := zero_it
  obtain ⟨Z, hZ⟩ : ∃ Z, itL noIt = Z := ⟨_, rfl⟩
  rw [hZ] at hz
  have HL := hide (show Z.length = 259 by rw [← hZ]; exact itL_len _)
  generalize bsP (91 :: l) = s at *
  clear hZ hg hl hbz
  go_enter Try.func36, Try.ntmps36
  go_upto_region 7 with fail
  obtain ⟨W2, hW2⟩ : ∃ W2, (w.alloc (.cells Z.toArray 67)).alloc (.cells Z.toArray 67) = W2 := ⟨_, rfl⟩
  have hB : Below w.heap.size w W2 := by
    rw [← hW2]
    exact ((Below.refl _ _).alloc (Nat.le_refl _) _).alloc (by rw [World.size_alloc]; omega) _
  have r0 : Row W2 w.heap.size 67 Z.toArray := by rw [← hW2]; exact (Row.new _ _ _).alloc _
  have HW := hide (And.intro hB r0)
  rw [hW2]
  clear hW2 hB r0 hz
  go_wp2_with fail
  refine (S.out _ (G.out.below HW.out.1)).mono ?_
  rintro e w1 ⟨x, t, ok, rfl, hR, hb⟩
  have hB1 : Below w.heap.size w w1 := HW.out.1.trans (hb.mono HW.out.1.size)
  have r1 : Row w1 w.heap.size 67 Z.toArray := HW.out.2.below hb HW.out.2.lt
  have HR := hide hR
  obtain ⟨Zx, hZx⟩ : ∃ Zx, itL x = Zx := ⟨_, rfl⟩
  have hx : Zx.length = 259 := by rw [← hZx]; exact itL_len _
  have Hone := hide (show Zx.toArray.all (·.oneCell') = true by rw [← hZx]; exact itL_one _)
  have HI := hide (show (Try.prog.info? 67).map (·.size) = some Zx.length by rw [hx]; kernel_rfl)
  have HI2 := hide (show (Try.prog.info? 67).map (·.size) = some Zx.toArray.size by rw [List.size_toArray]; exact HI.out)
  have t0 : w1.there w.heap.size 0 Zx.length := fun j hj => by
    rw [Nat.zero_add]
    refine ⟨?_, r1.frozen j⟩
    rw [r1.cell j]
    have := HL.out
    simp; omega
  have T0 := hide (show w1.there w.heap.size 0 Zx.toArray.size by rw [List.size_toArray]; exact t0)
  have HB := hide (hB1.trans (Below.setCells_ge w.heap.size w.heap.size (Nat.le_refl _) Zx 0 w1))
  have HRf := hide (World.rangeAt_setCells_same w1 w.heap.size 0 Zx t0)
  have HZx := hide hZx
  rw [hZx]
  clear hZx hx t0 r1 hB1 hb hR
  go_wp2_with (refine wpList_store_mid rfl 67 (.tmp 2) (.tmp 42) rfl w.heap.size 0 Zx.toArray rfl rfl T0.out HI2.out Hone.out ?_)
  refine bodyPost_ret (v := .tuple #[.agg Zx.toArray, .string (bsP t), .bool ok]) (results_mid2 rfl _ _ w.heap.size Zx _ _ _ rfl rfl rfl HRf.out Try.underlying67 rfl HI.out) rfl ?_
  exact ⟨x, t, ok, by rw [HZx.out], HR.out, HB.out⟩
theorem next_any (l : List UInt8) (w : World) (hn : l ≠ []) (hl : l.length ≤ 1000) (hg : Gm w) :
    Calls Try.prog 36 #[.string (bsP l)] w (ItPost (nextV l) w.heap.size w) := by
  obtain ⟨c, t, rfl⟩ : ∃ c t, l = c :: t := by cases l with | nil => exact absurd rfl hn | cons c t => exact ⟨c, t, rfl⟩
  have p0 : 0 < (bsP (c :: t)).size := by rw [bsP_size]; simp
  have hc : (bsP (c :: t))[0]'p0 = c := bsP_get _ 0 p0
  have hd : (bsP (c :: t)).extract 1 (bsP (c :: t)).size = bsP t := bsP_drop (c :: t) 1
  by_cases h1 : c.toNat < 33 ∨ 126 < c.toNat ∨ c = 46 ∨ c = 92 ∨ c = 93
  · have hR : nextV (c :: t) = none := by rw [nextV, if_pos h1]
    refine (next_bad c _ w p0 hc h1).mono ?_
    rintro e w' ⟨rfl, hb⟩
    exact ⟨noIt, [], false, rfl, hR, hb⟩
  · by_cases h2 : c = 91
    · subst h2
      have hR : nextV (91 :: t) = setV t := by rw [nextV, if_neg h1, if_pos rfl]
      rw [hR]
      exact next_set t w (by rw [List.length_cons] at hl; omega) hg
    · by_cases h3 : c = 42
      · subst h3
        have hR : nextV (42 :: t) = some (⟨true, fun _ => false, false, 0⟩, t) := by rw [nextV, if_neg h1, if_neg h2, if_pos rfl]
        refine (next_star _ w p0 hc).mono ?_
        rintro e w' ⟨rfl, hb⟩
        rw [hd]
        exact ⟨_, t, true, rfl, hR, hb⟩
      · by_cases h4 : c = 63
        · subst h4
          have hR : nextV (63 :: t) = some (allIt, t) := by rw [nextV, if_neg h1, if_neg h2, if_neg h3, if_pos rfl]; rfl
          refine (next_quest _ w p0 hc).mono ?_
          rintro e w' ⟨rfl, hb⟩
          rw [hd]
          exact ⟨_, t, true, rfl, hR, hb⟩
        · have hR : nextV (c :: t) = some (byteIt c, t) := by rw [nextV, if_neg h1, if_neg h2, if_neg h3, if_neg h4]; rfl
          refine (next_byte c _ w p0 hc (by omega) (by omega) (fun e => h1 (by simp [e])) (fun e => h1 (by simp [e])) (fun e => h1 (by simp [e])) h2 h3 h4).mono ?_
          rintro e w' ⟨rfl, hb⟩
          rw [hd]
          exact ⟨_, t, true, rfl, hR, hb⟩
end Go.Proofs.Ytcjehiecgdmidaa
