/- Position of package lexer, over its iterator. -/
import Derived.Test.YtbhmgooohhgpaaaDoorLexC
namespace Go.Proofs.YtbhmgooohhgpaaaDoor
open Go.RowKit Go.Shelf
attribute [local go_sem] Oper.semAt_some

def posSpec (s : ByteArray) (o : Int) : Int × Int := if o < 0 ∨ (s.size : Int) < o then (0, 0) else (pl s.data.toList o.toNat).2

set_option maxHeartbeats 1000000 in
theorem Position_out (s : ByteArray) (o : Int) (ho : o < 0 ∨ (s.size : Int) < o) (w : World) :
    Calls Tryd.prog 9 #[.string s, .int .i64 o] w fun e w' => e = .returned (.tuple #[.int .i64 0, .int .i64 0]) ∧ Below w.heap.size w w' := by
  refine (callsIn_wide (n := 0)).1 (callsIn_of_wp_marks Tryd.func9 rfl trivial ?_)
  simp only [Tryd.ntmps9, List.size_toArray, List.length_cons, List.length_nil, Nat.reduceAdd, Nat.reduceSub, Array.replicate_succ, Array.replicate_zero, List.push_toArray, List.append_toArray, List.nil_append, List.cons_append]
  by_cases h0 : o < 0
  · clear ho
    gi_wp2
    exact ⟨_, results_tmp2 rfl _ _ _, rfl, (Below.refl _ _).alloc (Nat.le_refl _) _⟩
  · have h1 : (s.size : Int) < o := by omega
    clear ho
    gi_wp2
    exact ⟨_, results_tmp2 rfl _ _ _, rfl, (Below.refl _ _).alloc (Nat.le_refl _) _⟩

set_option maxHeartbeats 1000000 in
theorem Position_in (s : ByteArray) (hs : s.size ≤ 1099511627776) (m : Nat) (hm : m ≤ s.size) (w : World) :
    Calls Tryd.prog 9 #[.string s, .int .i64 m] w fun e w' => e = .returned (.tuple #[.int .i64 (pl s.data.toList m).2.1, .int .i64 (pl s.data.toList m).2.2]) ∧ Below w.heap.size w w' := by
  refine (callsIn_wide (n := 0)).1 (callsIn_of_wp_marks Tryd.func9 rfl trivial ?_)
  simp only [Tryd.ntmps9, List.size_toArray, List.length_cons, List.length_nil, Nat.reduceAdd, Nat.reduceSub, Array.replicate_succ, Array.replicate_zero, List.push_toArray, List.append_toArray, List.nil_append, List.cons_append]
  gi_wp2_with (gi_at_call 11; refine (callsIn_wide.2 (steps_any _ _)).mono ?_; rintro e w' ⟨rfl, rfl⟩)
  obtain ⟨B, hB⟩ : ∃ B, w.heap.size = B := ⟨_, rfl⟩
  rw [hB]
  generalize hW0 : World.alloc (World.alloc (World.alloc w _) _) _ = W0
  have hz : W0.heap.size = B + 3 := by rw [← hW0]; simp [hB]
  have hr0 : Row W0 B 3 #[.int .i64 m] := by rw [← hW0, ← hB]; exact ((Row.new _ _ _).alloc _).alloc _
  have hr1 : Row W0 (B + 1) 40 (plV (pl s.data.toList 0)) := by
    rw [← hW0, ← hB]; have := Row.new (w.alloc (.cells #[.int .i64 m] 3)) 40 (plV (pl s.data.toList 0)); rw [World.size_alloc] at this; exact this.alloc _
  have hr2 : Row W0 (B + 2) 9 #[.string s] := by
    rw [← hW0, ← hB]; have := Row.new ((w.alloc (.cells #[.int .i64 m] 3)).alloc (.cells (plV (pl s.data.toList 0)) 40)) 9 #[.string s]; simp only [World.size_alloc] at this; exact this
  have hbl : Below B w W0 := by rw [← hW0]; exact (((Below.refl _ _).alloc (by omega) _).alloc (by simp; omega) _).alloc (by simp; omega) _
  have hlen : (stps s).length = s.size := stps_length s
  refine wpIn_range (gf := 22) (lb := #[.pointer (some ⟨B + 2, 0, none⟩)]) rfl (enters_of Tryd.func22 (by kernel_rfl) rfl) (steps_iter s hs (B + 2) W0 hr2) (fun _ => rfl) (Same.refl _ _)
    (fun b => b = B + 1) (fun b hb e => by omega) (fun b hb => by omega) (fun b hb => by omega)
    (fun k C W => C = (fun b => b = B + 1) ∧ Row W (B + 1) 40 (plV (pl s.data.toList k)) ∧ Row W B 3 #[.int .i64 m] ∧ k ≤ m)
    (fun c k C W => c = .exit 0 ∧ C = (fun b => b = B + 1) ∧ Row W (B + 1) 40 (plV (pl s.data.toList m)))
    (fun k C W1 W2 h hs => ⟨h.1, h.2.1.same hs (.inl (by omega)), h.2.2.1.same hs (.inl (by omega)), h.2.2.2⟩) (fun c k C W1 W2 h hs => ⟨h.1, h.2.1, h.2.2.same hs (.inl (by omega))⟩)
    ⟨rfl, hr1, hr0, Nat.zero_le _⟩ ?round ?done ?stop
  case round =>
    rintro l k x C W hl hl2 hCl hx ⟨rfl, hrB, hr0', hkm⟩ hgr hsz
    obtain ⟨hk, rfl⟩ := stps_get s hx
    clear hx
    rw [stpV_stp s hk]
    obtain ⟨hp1, hp2, hp3, hp4, hp5⟩ := pl_bd s.data.toList k (by simpa using Nat.le_of_lt hk)
    have hpl : plV (pl s.data.toList (k + 1)) = #[.int .i64 ((k : Int) + 1), .int .i64 (nextLine (pl s.data.toList k).2.1 s[k].toNat), .int .i64 (nextCol (pl s.data.toList k).2.2 s[k].toNat)] := by
      rw [pl_succ _ _ (by simpa using hk)]; simp only [plV, plStep, hp1]; rfl
    rw [plV_pl s (Nat.le_of_lt hk)] at hrB
    have hLm : k = m → (pl s.data.toList k) = pl s.data.toList m := fun e => by rw [e]
    have hVm : plV (pl s.data.toList k) = #[.int .i64 (k : Int), .int .i64 (pl s.data.toList k).2.1, .int .i64 (pl s.data.toList k).2.2] := plV_pl s (Nat.le_of_lt hk)
    have hstop : k = m → #[Value.int .i64 (k : Int), .int .i64 (pl s.data.toList k).2.1, .int .i64 (pl s.data.toList k).2.2] = plV (pl s.data.toList m) := fun e => by rw [← hVm, e]
    have Hpl := hide hpl
    have Hst := hide hstop
    clear hpl hLm hVm hp1 hstop
    generalize (pl s.data.toList k).2.1 = L at *
    generalize (pl s.data.toList k).2.2 = K at *
    gi_wp2
    refine ⟨(Keeps.refl _ _).alloc _, fun W2 hb => ?_⟩
    obtain ⟨X, hX⟩ : ∃ X, W.heap.size = X := ⟨_, rfl⟩
    have hrx : Row W2 X 42 #[.int .i64 k, .int .i64 L, .int .i64 K, .int .u8 (s[k].toNat : Int)] := by
      rw [← hX]; exact (Row.new W _ _).but hb (by omega)
    have hrb2 : Row W2 (B + 1) 40 #[.int .i64 k, .int .i64 L, .int .i64 K] := (hrB.alloc _).but hb (by omega)
    have hr02 : Row W2 B 3 #[.int .i64 m] := (hr0'.alloc _).but hb (by omega)
    have hz2 : W2.heap.size = X + 1 := by rw [hb.size]; simp [hX]
    have hXz : X < W2.heap.size := by omega
    rw [hX]
    clear hb hW0
    have hx0 : W2.cell? ⟨X, 0, none⟩ = some (.int .i64 k) := hrx.cell 0
    have hx1 : W2.cell? ⟨X, 1, none⟩ = some (.int .i64 L) := hrx.cell 1
    have hx2 : W2.cell? ⟨X, 2, none⟩ = some (.int .i64 K) := hrx.cell 2
    have hx3 : W2.cell? ⟨X, 3, none⟩ = some (.int .u8 (s[k].toNat : Int)) := hrx.cell 3
    have hc0 : W2.cell? ⟨B, 0, none⟩ = some (.int .i64 m) := hr02.cell 0
    have hg2 : Grew (fun b => b = B + 1) W (fun b => b = B + 1) W2 := fun b hb' => ⟨.inl hb', by omega⟩
    by_cases hkm' : k = m
    · have he : ((k : Int) == (m : Int)) = true := by rw [hkm']; simp
      have Hkm := hide hkm'
      clear hkm'
      gi_wp2
      exact ⟨fun b => b = B + 1, Keeps.refl _ _, hg2, rfl, rfl, by rw [← Hst.out Hkm.out]; exact hrb2⟩
    · have he : ((k : Int) == (m : Int)) = false := beq_eq_false_iff_ne.2 (by omega)
      gi_wp2_with (gi_at_call 21; refine (CallsIn.inRound l (callsIn_wide.2 (behind_any _ _ _ _ _ (by omega) (by omega) (by omega) (by omega) (by omega) (by omega)))).mono ?_; rintro e W4 ⟨rfl, hb4⟩; have hr4 := hrb2.below hb4 hrb2.lt; have hr04 := hr02.below hb4 hr02.lt; have hq0 : W4.cell? ⟨B + 1, 0, none⟩ = some (.int .i64 k) := hr4.cell 0; have hq1 : W4.cell? ⟨B + 1, 1, none⟩ = some (.int .i64 L) := hr4.cell 1; have hq2 : W4.cell? ⟨B + 1, 2, none⟩ = some (.int .i64 K) := hr4.cell 2; have hf0 := hr4.frozen 0; have hf1 := hr4.frozen 1; have hf2 := hr4.frozen 2)
      have hz4 := hb4.size
      refine ⟨fun b => b = B + 1, ?_, ?_, rfl, ?_, ?_, by omega⟩
      · exact ((((Keeps.refl (fun b => b = B + 1) W2).trans (Keeps.of_below hb4 (Nat.le_refl _))).set (b := B + 1) (.inl rfl) _ _).set (b := B + 1) (.inl rfl) _ _).set (b := B + 1) (.inl rfl) _ _
      · exact hg2.later (by simpa [World.setCell] using hz4)
      · rw [Hpl.out]; exact ((hr4.set_ 0 _).set_ 1 _).set_ 2 _
      · exact ((hr04.off (b := B + 1) (by omega) _ _).off (b := B + 1) (by omega) _ _).off (b := B + 1) (by omega) _ _
  case done =>
    rintro D C W hD hCD hK ⟨rfl, hrB, _, hkm⟩ hkp hgr
    obtain rfl : m = s.size := by omega
    rw [hlen] at hrB
    have hc1 : W.cell? ⟨B + 1, 1, none⟩ = some (.int .i64 (pl s.data.toList s.size).2.1) := hrB.cell 1
    have hc2 : W.cell? ⟨B + 1, 2, none⟩ = some (.int .i64 (pl s.data.toList s.size).2.2) := hrB.cell 2
    gi_wp2
    refine wpIn_region_still (Fence.open_wide _) (by kernel_rfl) (by kernel_rfl) (by kernel_rfl) ?_
    repeat still_step
    refine wpStill_nil ?_
    gi_wp2
    refine bodyPostM_mark (w := W.drew) hK (results_tmp2 rfl _ _ _) ⟨rfl, ?_⟩
    rw [hB]; exact (hbl.trans (hkp.drew.putObj (.inr hD) _ |>.below (fun b hb => by omega) (by omega)))
  case stop =>
    rintro D c k C W hD hCD hK hk ⟨rfl, rfl, hrB⟩ hkp hgr
    have hc1 : W.cell? ⟨B + 1, 1, none⟩ = some (.int .i64 (pl s.data.toList m).2.1) := hrB.cell 1
    have hc2 : W.cell? ⟨B + 1, 2, none⟩ = some (.int .i64 (pl s.data.toList m).2.2) := hrB.cell 2
    gi_wp2
    refine wpIn_region_still (Fence.open_wide _) (by kernel_rfl) (by kernel_rfl) (by kernel_rfl) ?_
    repeat still_step
    refine wpStill_nil ?_
    gi_wp2
    refine bodyPostM_mark (w := W.drew) hK (results_tmp2 rfl _ _ _) ⟨rfl, ?_⟩
    rw [hB]; exact (hbl.trans (hkp.drew.putObj (.inr hD) _ |>.below (fun b hb => by omega) (by omega)))
end Go.Proofs.YtbhmgooohhgpaaaDoor
