/- Contract of pattern's next at a star (under way). -/
import Derived.Test.YtcjehiecgdmidaaPtC
import Derived.Deep.RegionHeld3
set_option linter.unusedVariables false
set_option linter.unusedSimpArgs false
namespace Go.Proofs.Ytcjehiecgdmidaa
open Go.RowKit Go.Shelf

def starIt : It := ⟨true, fun _ => false, false, 0⟩
set_option maxRecDepth 100000 in
set_option maxHeartbeats 8000000 in
theorem next_star (s : ByteArray) (w : World) (h : 0 < s.size) (hc : s[0]'h = 42) :
    Calls Try.prog 36 #[.string s] w fun e w' => e = .returned (.tuple #[.agg (itL starIt).toArray, .string (s.extract 1 s.size), .bool true]) ∧ Below w.heap.size w w' := by
  have h0 : (0 : Int) < (s.size : Int) := by omega
  have hz := zero_it
  have hlen : (itL noIt).length = 259 := by simp [itL]
  have hs0 : (itL noIt)[0]? = some (.bool false) := rfl
  have hset : (itL noIt).set 0 (.bool true) = itL starIt := rfl
  have hone : (itL starIt).toArray.all (·.oneCell') = true := by kernel_rfl
  obtain ⟨Z, hZ⟩ : ∃ Z, itL noIt = Z := ⟨_, rfl⟩
  obtain ⟨Z2, hZ2⟩ : ∃ Z, itL starIt = Z := ⟨_, rfl⟩
  rw [hZ] at hz hlen hset hs0
  rw [hZ2] at hone hset ⊢
  clear hZ hZ2
  have hlen2 : Z2.length = 259 := by rw [← hset, List.length_set, hlen]
  go_enter Try.func36, Try.ntmps36
  go_upto_region 9 with fail
  obtain ⟨W2, hW2⟩ : ∃ W2, (w.alloc (.cells Z.toArray 67)).alloc (.cells Z.toArray 67) = W2 := ⟨_, rfl⟩
  have hB : Below w.heap.size w W2 := by
    rw [← hW2]
    exact ((Below.refl _ _).alloc (Nat.le_refl _) _).alloc (by rw [World.size_alloc]; omega) _
  have r0 : Row W2 w.heap.size 67 Z.toArray := by rw [← hW2]; exact (Row.new _ _ _).alloc _
  have r1 : Row W2 (w.heap.size + 1) 67 Z.toArray := by
    rw [← hW2]
    have := Row.new (w.alloc (.cells Z.toArray 67)) 67 Z.toArray
    rwa [World.size_alloc] at this
  have c0 : W2.cell? ⟨w.heap.size + 1, 0, none⟩ = some (.bool false) := by rw [r1.cell 0]; simpa using hs0
  have f0 : W2.frozen? ⟨w.heap.size + 1, 0, none⟩ = false := r1.frozen 0
  have r2 : Row (W2.setCell ⟨w.heap.size + 1, 0, none⟩ (.bool true)) (w.heap.size + 1) 67 Z2.toArray := by
    have := r1.set_ 0 (.bool true)
    rwa [show Z.toArray.setIfInBounds 0 (.bool true) = Z2.toArray by rw [← hset]; simp] at this
  have r3 : Row (W2.setCell ⟨w.heap.size + 1, 0, none⟩ (.bool true)) w.heap.size 67 Z.toArray := r0.off (by omega) _ _
  have HB := hide (hB.setCell (p := ⟨w.heap.size + 1, 0, none⟩) (Nat.le_succ _) (.bool true))
  have HR2 := hide r2
  have HR3 := hide r3
  have Hone := hide hone
  have HL := hide (And.intro hlen hlen2)
  rw [hW2]
  clear hW2 hB r0 r1 r2 r3 hz hone hset hs0 hlen hlen2
  go_upto_region 16 with fail
  obtain ⟨W4, hW4⟩ : ∃ W4, W2.setCell ⟨w.heap.size + 1, 0, none⟩ (.bool true) = W4 := ⟨_, rfl⟩
  rw [hW4] at HB HR2 HR3 ⊢
  clear hW4 c0 f0
  have g1 : W4.rangeAt (w.heap.size + 1) 0 Z2 := fun j v hv => by rw [Nat.zero_add, HR2.out.cell j]; simpa using hv
  have t0 : W4.there w.heap.size 0 259 := fun j hj => by
    rw [Nat.zero_add]
    refine ⟨?_, HR3.out.frozen j⟩
    rw [HR3.out.cell j]
    have := HL.out.1
    simp; omega
  have hu := Try.underlying67
  have hi : (Try.prog.info? 67).map (·.size) = some Z2.length := by rw [HL.out.2]; kernel_rfl
  have hl2 := HL.out.2
  have h1c : ∀ v ∈ Z2, v.oneCell' = true := fun v hv => (Array.all_eq_true_iff_forall_mem.1 Hone.out) v (by simpa using hv)
  have hs1 : (1 : Int) ≤ (s.size : Int) := by omega
  have T0 := hide t0
  have hne : w.heap.size + 1 ≠ w.heap.size := by omega
  have hthere : ∀ W : World, W.there w.heap.size 0 259 → W.there w.heap.size 0 Z2.toArray.size := fun W h => by simpa [hl2] using h
  have hi2 : (Try.prog.info? 67).map (·.size) = some Z2.toArray.size := by simpa using hi
  refine wp_region_held_drew (S := fun w' => w'.rangeAt (w.heap.size + 1) 0 Z2 ∧ w'.there w.heap.size 0 259) (by kernel_rfl) ?_ (fun hHeld => ?_)
  · exact ⟨g1, T0.out⟩
  refine wpAnyH_take (i := 0) (oi := ?oi0) (v := .agg Z2.toArray) ?h00 ?h10 ?h20 ?h30 ?h40 ?hy0 (by assumption) ?rest0
  case h00 => (simp only [List.getElem?_toArray, List.getElem?_cons_zero, List.getElem?_cons_succ]; rfl)
  case h10 => kernel_rfl
  case h20 => kernel_rfl
  case h30 => kernel_rfl
  case h40 => exact fun _ _ _ h => h
  case hy0 => exact yieldsIf_load_mid (by rfl) _ _ rfl _ _ rfl Z2 _ (fun w' hw' => hw'.1) hu rfl hi
  try simp only [Act.put, List.setIfInBounds_toArray, List.set_cons_zero, List.set_cons_succ]
  have HHt := hide hthere
  have HHi := hide hi2
  have HHu := hide (And.intro hu hi)
  clear hthere hi2 hu hi
  refine wpAnyH_take (i := 1) (oi := ?oi1) (v := ?v1) ?h01 ?h11 ?h21 ?h31 ?h41 (Or.inl ⟨?hw1, ?hy1⟩) (by assumption) ?rest1
  case h01 => (simp only [List.getElem?_toArray, List.getElem?_cons_zero, List.getElem?_cons_succ]; rfl)
  case h11 => kernel_rfl
  case h21 => kernel_rfl
  case h31 => kernel_rfl
  case h41 => exact fun _ _ _ h => h
  case hw1 => rfl
  case hy1 => ((intro w hSw; go_simp); (try (with_reducible rfl)))
  try simp only [Act.put, List.setIfInBounds_toArray, List.set_cons_zero, List.set_cons_succ]
  refine wpAnyH_take (i := 2) (oi := ?oi2) (v := ?v2) ?h02 ?h12 ?h22 ?h32 ?h42 (Or.inl ⟨?hw2, ?hy2⟩) (by assumption) ?rest2
  case h02 => (simp only [List.getElem?_toArray, List.getElem?_cons_zero, List.getElem?_cons_succ]; rfl)
  case h12 => kernel_rfl
  case h22 => kernel_rfl
  case h32 => kernel_rfl
  case h42 => exact fun _ _ _ h => h
  case hw2 => rfl
  case hy2 => ((intro w hSw; go_simp); (try (with_reducible rfl)))
  try simp only [Act.put, List.setIfInBounds_toArray, List.set_cons_zero, List.set_cons_succ]
  refine wpAnyH_ready (rs := [3]) (by kernel_rfl) (by simp) ?_
  refine AllReadyH.cons (o := ?oi3) ?h03 (fun K hK => ?_) AllReadyH.nil
  case h03 => (simp only [List.getElem?_toArray, List.getElem?_cons_zero, List.getElem?_cons_succ]; rfl)
  rw [if_pos (by rfl)]
  refine wp_store_mid _ _ _ rfl _ _ Z2.toArray rfl rfl (HHt.out _ hHeld.2) HHi.out Hone.out ?_
  refine hK.out _ _ ?_ (fun hHeld2 => ?_)
  · exact ⟨World.rangeAt_setCells_apart hHeld.1 _ _ _ (.inl hne), World.there_setCells hHeld.2 _ _ _⟩
  clear hK K
  try simp only [Act.put, List.setIfInBounds_toArray, List.set_cons_zero, List.set_cons_succ]
  refine wpAnyH_take (i := 4) (oi := ?oi4) (v := ?v4) ?h04 ?h14 ?h24 ?h34 ?h44 (Or.inl ⟨?hw4, ?hy4⟩) (by assumption) ?rest4
  case h04 => (simp only [List.getElem?_toArray, List.getElem?_cons_zero, List.getElem?_cons_succ]; rfl)
  case h14 => kernel_rfl
  case h24 => kernel_rfl
  case h34 => kernel_rfl
  case h44 => exact fun _ _ _ h => h
  case hw4 => rfl
  case hy4 => ((intro w hSw; go_simp); (try (with_reducible rfl)))
  try simp only [Act.put, List.setIfInBounds_toArray, List.set_cons_zero, List.set_cons_succ]
  refine wpAnyH_take (i := 5) (oi := ?oi5) (v := ?v5) ?h05 ?h15 ?h25 ?h35 ?h45 (Or.inl ⟨?hw5, ?hy5⟩) (by assumption) ?rest5
  case h05 => (simp only [List.getElem?_toArray, List.getElem?_cons_zero, List.getElem?_cons_succ]; rfl)
  case h15 => kernel_rfl
  case h25 => kernel_rfl
  case h35 => kernel_rfl
  case h45 => exact fun _ _ _ h => h
  case hw5 => rfl
  case hy5 => ((intro w hSw; go_simp); (try (with_reducible rfl)))
  try simp only [Act.put, List.setIfInBounds_toArray, List.set_cons_zero, List.set_cons_succ]
  refine wpAnyH_done (by kernel_rfl) ?_ _
  have hr := hide (World.rangeAt_setCells_same W4.drew w.heap.size 0 Z2 (by rw [hl2]; exact hHeld.2))
  have HBf := hide (HB.out.drew.trans (Below.setCells_ge w.heap.size w.heap.size (Nat.le_refl _) Z2 0 W4.drew))
  obtain ⟨W5, hW5⟩ : ∃ W5, W4.drew.setCells w.heap.size 0 Z2 = W5 := ⟨_, rfl⟩
  rw [hW5] at hr HBf ⊢
  clear hW5 hHeld2 hHeld g1 t0 h1c hl2
  go_wp2
  exact bodyPost_ret (v := .tuple #[.agg Z2.toArray, .string (s.extract 1 s.size), .bool true]) (results_mid2 rfl _ _ w.heap.size Z2 _ _ _ rfl rfl rfl hr.out HHu.out.1 rfl HHu.out.2) rfl ⟨rfl, HBf.out⟩
end Go.Proofs.Ytcjehiecgdmidaa
