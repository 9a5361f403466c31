/- Contract of pattern's next at '?' (under way). -/
import Derived.Test.YtcjehiecgdmidaaPtG
set_option linter.unusedVariables false
set_option linter.unusedSimpArgs false
namespace Go.Proofs.Ytcjehiecgdmidaa
open Go.RowKit Go.Shelf

def preIt (k : Nat) : It := ⟨false, fun x => decide (x.toNat < k), false, 0⟩
def allIt : It := ⟨false, fun _ => true, false, 0⟩
theorem preIt_0 : preIt 0 = noIt := by
  unfold preIt noIt
  congr 1
theorem preIt_all : preIt 256 = allIt := by
  unfold preIt allIt
  congr 1
  funext x
  exact decide_eq_true x.toNat_lt
theorem itL_pre (k : Nat) (hk : k < 256) : (itL (preIt k)).set (1 + k) (.bool true) = itL (preIt (k + 1)) := by
  apply List.ext_getElem?
  intro j
  rw [List.getElem?_set, itL_get, itL_get, itL_len]
  by_cases h2 : 1 + k = j
  · subst h2
    rw [if_pos rfl, if_pos (by omega), if_neg (by omega), if_pos (by omega)]
    show _ = some (Value.bool (decide ((UInt8.ofNat (1 + k - 1)).toNat < k + 1)))
    rw [UInt8.toNat_ofNat', Nat.mod_eq_of_lt (by omega), decide_eq_true (by omega)]
  · rw [if_neg h2]
    by_cases h3 : j = 0
    · rw [if_pos h3, if_pos h3]; rfl
    · rw [if_neg h3, if_neg h3]
      by_cases h4 : j < 257
      · rw [if_pos h4, if_pos h4]
        show some (Value.bool (decide ((UInt8.ofNat (j - 1)).toNat < k))) = some (Value.bool (decide ((UInt8.ofNat (j - 1)).toNat < k + 1)))
        rw [UInt8.toNat_ofNat', Nat.mod_eq_of_lt (by omega)]
        congr 2
        rw [decide_eq_decide]; omega
      · rw [if_neg h4, if_neg h4]; rfl

set_option maxRecDepth 100000 in
set_option maxHeartbeats 8000000 in
theorem next_quest (s : ByteArray) (w : World) (h : 0 < s.size) (hc : s[0]'h = 63) :
    Calls Try.prog 36 #[.string s] w fun e w' => e = .returned (.tuple #[.agg (itL allIt).toArray, .string (s.extract 1 s.size), .bool true]) ∧ Below w.heap.size w w' := by
  have h0 : (0 : Int) < (s.size : Int) := by omega
  have hz := zero_it
  have HP0 := hide preIt_0
  have HPA := hide preIt_all
  have hone : (itL allIt).toArray.all (·.oneCell') = true := by kernel_rfl
  have HSet := hide itL_pre
  obtain ⟨Z, hZ⟩ : ∃ Z, itL noIt = Z := ⟨_, rfl⟩
  obtain ⟨Z2, hZ2⟩ : ∃ Z, itL allIt = Z := ⟨_, rfl⟩
  have HL := hide (And.intro (show Z.length = 259 by rw [← hZ]; exact itL_len _) (show Z2.length = 259 by rw [← hZ2]; exact itL_len _))
  rw [hZ] at hz
  rw [hZ2] at hone ⊢
  have HZ := hide hZ
  have HZ2 := hide hZ2
  have Hone := hide hone
  clear hZ hZ2 hone
  go_enter Try.func36, Try.ntmps36
  go_upto_region 11 with fail
  obtain ⟨W2, hW2⟩ : ∃ W2, (w.alloc (.cells Z.toArray 67)).alloc (.cells Z.toArray 67) = W2 := ⟨_, rfl⟩
  have hB : Below w.heap.size w W2 := by
    rw [← hW2]
    exact ((Below.refl _ _).alloc (Nat.le_refl _) _).alloc (by rw [World.size_alloc]; omega) _
  have r0 : Row W2 w.heap.size 67 Z.toArray := by rw [← hW2]; exact (Row.new _ _ _).alloc _
  have r1 : Row W2 (w.heap.size + 1) 67 Z.toArray := by
    rw [← hW2]
    have := Row.new (w.alloc (.cells Z.toArray 67)) 67 Z.toArray
    rwa [World.size_alloc] at this
  have HW := hide (And.intro hB (And.intro r0 r1))
  rw [hW2]
  clear hW2 hB r0 r1 hz
  go_wp2
  go_loopw [52] (fun v wr => ∃ k : Nat, v = .int .i64 (k : Int) ∧ k ≤ 256 ∧ Row wr (w.heap.size + 1) 67 (itL (preIt k)).toArray ∧ Row wr w.heap.size 67 Z.toArray ∧ Below w.heap.size w wr) (fun v _ => 256 - (intOf v).toNat)
  case atStart => exact ⟨0, rfl, by omega, by rw [HP0.out, HZ.out]; exact HW.out.2.2, HW.out.2.1, HW.out.1⟩
  case round =>
    obtain ⟨k, rfl, hk, hr1, hr0, hb⟩ := hrel
    have H1 := hide hr1
    have H0 := hide hr0
    have Hb := hide hb
    clear hr1 hr0 hb
    by_cases hk2 : k < 256
    · have hk' : (k : Int) < 256 := by omega
      have hk0 : (0 : Int) ≤ (k : Int) := by omega
      have f0 : wr.frozen? ⟨w.heap.size + 1, 1 + k, none⟩ = false := H1.out.frozen _
      obtain ⟨v0, hv0⟩ : ∃ v0, wr.cell? ⟨w.heap.size + 1, 1 + k, none⟩ = some v0 := ⟨.bool ((preIt k).set (UInt8.ofNat k)), by
        rw [H1.out.cell]
        rw [List.getElem?_toArray, itL_get, if_neg (by omega), if_pos (by omega), show 1 + k - 1 = k by omega]⟩
      have hwr : IntKind.i64.wrap ((k : Int) + 1) = (k : Int) + 1 := IntWalk.i64_in _ (by omega)
      have HR := hide (show Row (wr.setCell ⟨w.heap.size + 1, 1 + k, none⟩ (.bool true)) (w.heap.size + 1) 67 (itL (preIt (k + 1))).toArray by
        have := H1.out.set_ (1 + k) (.bool true)
        rwa [show (itL (preIt k)).toArray.setIfInBounds (1 + k) (.bool true) = (itL (preIt (k + 1))).toArray by rw [← HSet.out k hk2]; simp] at this)
      go_wp2
      go_roundw
      case rel => exact ⟨k + 1, by go_num, by omega, HR.out, H0.out.off (by omega) _ _, Hb.out.setCell (p := ⟨w.heap.size + 1, 1 + k, none⟩) (Nat.le_succ _) _⟩
      case measure => simp [intOf]; omega
    · obtain rfl : k = 256 := by omega
      rw [HPA.out, HZ2.out] at H1
      have hk' : ¬ ((256 : Nat) : Int) < 256 := by omega
      go_upto_region 16 with fail
      have g1 : wr.rangeAt (w.heap.size + 1) 0 Z2 := fun j v hv => by rw [Nat.zero_add, H1.out.cell j]; simpa using hv
      have t0 : wr.there w.heap.size 0 259 := fun j hj => by
        rw [Nat.zero_add]
        refine ⟨?_, H0.out.frozen j⟩
        rw [H0.out.cell j]
        have := HL.out.1
        simp; omega
      have hu := Try.underlying67
      have hi : (Try.prog.info? 67).map (·.size) = some Z2.length := by rw [HL.out.2]; kernel_rfl
      have hl2 := HL.out.2
      have h1c : ∀ v ∈ Z2, v.oneCell' = true := fun v hv => (Array.all_eq_true_iff_forall_mem.1 Hone.out) v (by simpa using hv)
      have hs1 : (1 : Int) ≤ (s.size : Int) := by omega
      have T0 := hide t0
      have hne : w.heap.size + 1 ≠ w.heap.size := by omega
      have hthere : ∀ W : World, W.there w.heap.size 0 259 → W.there w.heap.size 0 Z2.toArray.size := fun W h => by simpa [hl2] using h
      have hi2 : (Try.prog.info? 67).map (·.size) = some Z2.toArray.size := by simpa using hi
      refine wp_region_held_drew (S := fun w' => w'.rangeAt (w.heap.size + 1) 0 Z2 ∧ w'.there w.heap.size 0 259) (by kernel_rfl) ?_ (fun hHeld => ?_)
      · exact ⟨g1, T0.out⟩
      refine wpAnyH_take (i := 0) (oi := ?oi0) (v := .agg Z2.toArray) ?h00 ?h10 ?h20 ?h30 ?h40 ?hy0 (by assumption) ?rest0
      case h00 => (simp only [List.getElem?_toArray, List.getElem?_cons_zero, List.getElem?_cons_succ]; rfl)
      case h10 => kernel_rfl
      case h20 => kernel_rfl
      case h30 => kernel_rfl
      case h40 => exact fun _ _ _ h => h
      case hy0 => exact yieldsIf_load_mid (by rfl) _ _ rfl _ _ rfl Z2 _ (fun w' hw' => hw'.1) hu rfl hi
      try simp only [Act.put, List.setIfInBounds_toArray, List.set_cons_zero, List.set_cons_succ]
      have HHt := hide hthere
      have HHi := hide hi2
      have HHu := hide (And.intro hu hi)
      clear hthere hi2 hu hi
      refine wpAnyH_take (i := 1) (oi := ?oi1) (v := ?v1) ?h01 ?h11 ?h21 ?h31 ?h41 (Or.inl ⟨?hw1, ?hy1⟩) (by assumption) ?rest1
      case h01 => (simp only [List.getElem?_toArray, List.getElem?_cons_zero, List.getElem?_cons_succ]; rfl)
      case h11 => kernel_rfl
      case h21 => kernel_rfl
      case h31 => kernel_rfl
      case h41 => exact fun _ _ _ h => h
      case hw1 => rfl
      case hy1 => ((intro w hSw; go_simp); (try (with_reducible rfl)))
      try simp only [Act.put, List.setIfInBounds_toArray, List.set_cons_zero, List.set_cons_succ]
      refine wpAnyH_take (i := 2) (oi := ?oi2) (v := ?v2) ?h02 ?h12 ?h22 ?h32 ?h42 (Or.inl ⟨?hw2, ?hy2⟩) (by assumption) ?rest2
      case h02 => (simp only [List.getElem?_toArray, List.getElem?_cons_zero, List.getElem?_cons_succ]; rfl)
      case h12 => kernel_rfl
      case h22 => kernel_rfl
      case h32 => kernel_rfl
      case h42 => exact fun _ _ _ h => h
      case hw2 => rfl
      case hy2 => ((intro w hSw; go_simp); (try (with_reducible rfl)))
      try simp only [Act.put, List.setIfInBounds_toArray, List.set_cons_zero, List.set_cons_succ]
      refine wpAnyH_ready (rs := [3]) (by kernel_rfl) (by simp) ?_
      refine AllReadyH.cons (o := ?oi3) ?h03 (fun K hK => ?_) AllReadyH.nil
      case h03 => (simp only [List.getElem?_toArray, List.getElem?_cons_zero, List.getElem?_cons_succ]; rfl)
      rw [if_pos (by rfl)]
      refine wp_store_mid _ _ _ rfl _ _ Z2.toArray rfl rfl (HHt.out _ hHeld.2) HHi.out Hone.out ?_
      refine hK.out _ _ ?_ (fun hHeld2 => ?_)
      · exact ⟨World.rangeAt_setCells_apart hHeld.1 _ _ _ (.inl hne), World.there_setCells hHeld.2 _ _ _⟩
      clear hK K
      try simp only [Act.put, List.setIfInBounds_toArray, List.set_cons_zero, List.set_cons_succ]
      refine wpAnyH_take (i := 4) (oi := ?oi4) (v := ?v4) ?h04 ?h14 ?h24 ?h34 ?h44 (Or.inl ⟨?hw4, ?hy4⟩) (by assumption) ?rest4
      case h04 => (simp only [List.getElem?_toArray, List.getElem?_cons_zero, List.getElem?_cons_succ]; rfl)
      case h14 => kernel_rfl
      case h24 => kernel_rfl
      case h34 => kernel_rfl
      case h44 => exact fun _ _ _ h => h
      case hw4 => rfl
      case hy4 => ((intro w hSw; go_simp); (try (with_reducible rfl)))
      try simp only [Act.put, List.setIfInBounds_toArray, List.set_cons_zero, List.set_cons_succ]
      refine wpAnyH_take (i := 5) (oi := ?oi5) (v := ?v5) ?h05 ?h15 ?h25 ?h35 ?h45 (Or.inl ⟨?hw5, ?hy5⟩) (by assumption) ?rest5
      case h05 => (simp only [List.getElem?_toArray, List.getElem?_cons_zero, List.getElem?_cons_succ]; rfl)
      case h15 => kernel_rfl
      case h25 => kernel_rfl
      case h35 => kernel_rfl
      case h45 => exact fun _ _ _ h => h
      case hw5 => rfl
      case hy5 => ((intro w hSw; go_simp); (try (with_reducible rfl)))
      try simp only [Act.put, List.setIfInBounds_toArray, List.set_cons_zero, List.set_cons_succ]
      refine wpAnyH_done (by kernel_rfl) ?_ _
      have hr := hide (World.rangeAt_setCells_same wr.drew w.heap.size 0 Z2 (by rw [hl2]; exact hHeld.2))
      have HBf := hide (Hb.out.drew.trans (Below.setCells_ge w.heap.size w.heap.size (Nat.le_refl _) Z2 0 wr.drew))
      obtain ⟨W5, hW5⟩ : ∃ W5, wr.drew.setCells w.heap.size 0 Z2 = W5 := ⟨_, rfl⟩
      rw [hW5] at hr HBf ⊢
      clear hW5 hHeld2 hHeld g1 t0 h1c hl2
      go_wp2
      exact bodyPost_ret (v := .tuple #[.agg Z2.toArray, .string (s.extract 1 s.size), .bool true]) (results_mid2 rfl _ _ w.heap.size Z2 _ _ _ rfl rfl rfl hr.out HHu.out.1 rfl HHu.out.2) rfl ⟨rfl, HBf.out⟩
end Go.Proofs.Ytcjehiecgdmidaa
