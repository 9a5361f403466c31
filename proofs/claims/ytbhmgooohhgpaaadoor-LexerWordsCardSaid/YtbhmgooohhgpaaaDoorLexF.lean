/- Scan of package lexer, over its iterator. -/
import Derived.Test.YtbhmgooohhgpaaaDoorLexE
namespace Go.Proofs.YtbhmgooohhgpaaaDoor
open Go.RowKit Go.Shelf
attribute [local go_sem] Oper.semAt_some

theorem ownsRow_same {W1 W2 : World} {base : Nat} {e : TypeId} {size : Nat} {v : Value} {n : Nat} {xs : List Value} (h : W1.ownsRow base e size v n xs)
    (hb : ∀ b, v.ownBlock = some b → W2.heap[b]? = W1.heap[b]?) : W2.ownsRow base e size v n xs := by
  refine ⟨h.1, ?_⟩
  rcases h.2 with hn | ⟨g, cap, cur, rfl, hbs, hg, rest⟩
  · exact .inl hn
  · exact .inr ⟨g, cap, cur, rfl, hbs, (hb g (by simp [Value.ownBlock])).trans hg, rest⟩
theorem ownsRow_base {W : World} {base base' : Nat} {e : TypeId} {size : Nat} {v : Value} {n : Nat} {xs : List Value} (h : W.ownsRow base e size v n xs) (hb : base' ≤ base) : W.ownsRow base' e size v n xs := by
  refine ⟨h.1, ?_⟩
  rcases h.2 with hn | ⟨g, cap, cur, rfl, hbs, rest⟩
  · exact .inl hn
  · exact .inr ⟨g, cap, cur, rfl, Nat.le_trans hb hbs, rest⟩

theorem infoWord : (Tryd.prog.info? 28).map (fun i => (i.zero, i.size, i.bytes)) = some (some (.agg #[.string ⟨#[]⟩, .int .i64 0, .int .i64 0, .int .i64 0]), 4, 40) := by kernel_rfl

/-- what the loop of Scan holds after k bytes -/
def ScanInv (s : ByteArray) (B base : Nat) (k : Nat) (C : Nat → Prop) (W : World) : Prop :=
  ∃ v, C = (fun b => b = B + 1 ∨ b = B + 2 ∨ v.ownBlock = some b) ∧ Row W B 9 #[.string s] ∧ Row W (B + 1) 23 #[v] ∧ Row W (B + 2) 4 #[.bool (scanW s.data.toList k).2] ∧
    W.ownsRow base 28 4 v (scanW s.data.toList k).1.length (wcs s (scanW s.data.toList k).1)

set_option maxHeartbeats 2000000 in
theorem Scan_any (s : ByteArray) (hs : s.size ≤ 16384) (w : World) :
    Calls Tryd.prog 5 #[.string s] w fun e w' => ∃ v, e = .returned (.tuple #[v, .int .i64 0]) ∧ w'.ownsRow w.heap.size 28 4 v (wordsOf s).length (wcs s (wordsOf s)) ∧ Below w.heap.size w w' := by
  refine (callsIn_wide (n := 0)).1 (callsIn_of_wp_marks Tryd.func5 rfl trivial ?_)
  simp only [Tryd.ntmps5, List.size_toArray, List.length_cons, List.length_nil, Nat.reduceAdd, Nat.reduceSub, Array.replicate_succ, Array.replicate_zero, List.push_toArray, List.append_toArray, List.nil_append, List.cons_append]
  have hs' : (s.size : Int) ≤ 16384 := by omega
  gi_wp2_with (gi_at_call 11; refine (callsIn_wide.2 (steps_any _ _)).mono ?_; rintro e w' ⟨rfl, rfl⟩)
  obtain ⟨B, hB⟩ : ∃ B, w.heap.size = B := ⟨_, rfl⟩
  rw [hB]
  generalize hW0 : World.alloc (World.alloc (World.alloc (World.alloc w _) _) _) _ = W0
  have hz : W0.heap.size = B + 4 := by rw [← hW0]; simp [hB]
  have hr0 : Row W0 B 9 #[.string s] := by rw [← hW0, ← hB]; exact (((Row.new _ _ _).alloc _).alloc _).alloc _
  have hr1 : Row W0 (B + 1) 23 #[.slice none 0 0] := by
    rw [← hW0, ← hB]; have := Row.new (w.alloc (.cells #[.string s] 9)) 23 #[.slice none 0 0]; simp only [World.size_alloc] at this; exact (this.alloc _).alloc _
  have hr2 : Row W0 (B + 2) 4 #[.bool false] := by
    rw [← hW0, ← hB]; have := Row.new ((w.alloc (.cells #[.string s] 9)).alloc (.cells #[.slice none 0 0] 23)) 4 #[.bool false]; simp only [World.size_alloc] at this; exact this.alloc _
  have hr3 : Row W0 (B + 3) 9 #[.string s] := by
    rw [← hW0, ← hB]; have := Row.new (((w.alloc (.cells #[.string s] 9)).alloc (.cells #[.slice none 0 0] 23)).alloc (.cells #[.bool false] 4)) 9 #[.string s]; simp only [World.size_alloc] at this; exact this
  have hbl : Below B w W0 := by rw [← hW0]; exact ((((Below.refl _ _).alloc (by omega) _).alloc (by simp; omega) _).alloc (by simp; omega) _).alloc (by simp; omega) _
  have hlen : (stps s).length = s.size := stps_length s
  refine wpIn_range (gf := 22) (lb := #[.pointer (some ⟨B + 3, 0, none⟩)]) rfl (enters_of Tryd.func22 (by kernel_rfl) rfl) (steps_iter s (by omega) (B + 3) W0 hr3) (fun _ => rfl) (Same.refl _ _)
    (fun b => b = B + 1 ∨ b = B + 2 ∨ (Value.slice none 0 0).ownBlock = some b) (fun b hb e => by simp [Value.ownBlock] at e; omega) (fun b hb => by omega) (fun b hb => by simp [Value.ownBlock] at hb; omega)
    (ScanInv s B (B + 4)) (fun _ _ _ _ => False)
    (fun k C W1 W2 h hs => by
      obtain ⟨v, rfl, h0, h1, h2, h3⟩ := h
      exact ⟨v, rfl, h0.same hs (.inl (by omega)), h1.same hs (.inl (by omega)), h2.same hs (.inl (by omega)), ownsRow_same h3 (fun b hb => hs.block b (.inr (.inr (.inr hb))))⟩)
    (fun c k C W1 W2 h hs => h)
    ⟨_, rfl, hr0, hr1, hr2, World.ownsRow_nil _ _ _ _⟩ ?round ?done ?stop
  case round =>
    rintro l k x C W hl hl2 hCl hx hinv hgr hsz
    obtain ⟨v, rfl, hR0, hR1, hR2, hown⟩ := hinv
    obtain ⟨hk, rfl⟩ := stps_get s hx
    clear hx
    rw [stpV_stp s hk]
    gi_wp2
    refine ⟨(Keeps.refl _ _).alloc _, fun W2 hb => ?_⟩
    obtain ⟨X, hX⟩ : ∃ X, W.heap.size = X := ⟨_, rfl⟩
    rw [hX]
    have hl1 : l ≠ B + 1 := fun e => hCl (.inl e)
    have hl3 : v.ownBlock ≠ some l := fun e => hCl (.inr (.inr e))
    have hrx : Row W2 X 42 #[.int .i64 k, .int .i64 (pl s.data.toList k).2.1, .int .i64 (pl s.data.toList k).2.2, .int .u8 (s[k].toNat : Int)] := by
      rw [← hX]; exact (Row.new W _ _).but hb (by omega)
    have hS0 : Row W2 B 9 #[.string s] := (hR0.alloc _).but hb (by omega)
    have hS1 : Row W2 (B + 1) 23 #[v] := (hR1.alloc _).but hb (by omega)
    have hS2 : Row W2 (B + 2) 4 #[.bool (scanW s.data.toList k).2] := (hR2.alloc _).but hb (by omega)
    have hS3 : W2.ownsRow (B + 4) 28 4 v (scanW s.data.toList k).1.length (wcs s (scanW s.data.toList k).1) := ownsRow_same (hown.alloc _) (fun b hb' => hb.block b (fun e => hl3 (e ▸ hb')))
    have hz2 : W2.heap.size = X + 1 := by rw [hb.size]; simp [hX]
    have hgr2 : Grew (fun b => b = B + 1 ∨ b = B + 2 ∨ v.ownBlock = some b) W (fun b => b = B + 1 ∨ b = B + 2 ∨ v.ownBlock = some b) W2 := fun b hb' => ⟨.inl hb', by have := (hgr b hb').2; omega⟩
    have hXv : v.ownBlock ≠ some X := fun e => by have := (hgr X (.inr (.inr e))).2; omega
    have hXz : X < W2.heap.size := by omega
    clear hb hW0
    have hx0 : W2.cell? ⟨X, 0, none⟩ = some (.int .i64 k) := hrx.cell 0
    have hx1 : W2.cell? ⟨X, 1, none⟩ = some (.int .i64 (pl s.data.toList k).2.1) := hrx.cell 1
    have hx2 : W2.cell? ⟨X, 2, none⟩ = some (.int .i64 (pl s.data.toList k).2.2) := hrx.cell 2
    have hx3 : W2.cell? ⟨X, 3, none⟩ = some (.int .u8 (s[k].toNat : Int)) := hrx.cell 3
    have hc0 : W2.cell? ⟨B, 0, none⟩ = some (.string s) := hS0.cell 0
    have hc1 : W2.cell? ⟨B + 1, 0, none⟩ = some v := hS1.cell 0
    have hc2 : W2.cell? ⟨B + 2, 0, none⟩ = some (.bool (scanW s.data.toList k).2) := hS2.cell 0
    have hf1 := hS1.frozen 0
    have hf2 := hS2.frozen 0
    have hget : s.data.toList.getD k 0 = s[k] := by simp [List.getD, hk]; rfl
    cases hwh : whiteB (s[k].toNat : Int) with
    | true =>
      have hnext := scanW_white s.data.toList k s[k] hget hwh
      have Hn := hide hnext
      clear hnext hget
      gi_wp2_with (gi_at_call 12; refine (CallsIn.inRound l (callsIn_wide.2 (white_any _ _))).mono ?_; rintro e w' ⟨rfl, rfl⟩)
      refine ⟨_, Keeps.set (C := fun b => b = B + 1 ∨ b = B + 2 ∨ v.ownBlock = some b) (Keeps.refl _ _) (.inl (.inr (.inl rfl))) _ _, hgr2.later (by simp [World.setCell]), v, rfl, hS0.off (by omega) _ _, hS1.off (by omega) _ _, by rw [Hn.out]; exact hS2.set_ 0 _, ?_⟩
      rw [Hn.out]
      exact ownsRow_same hS3 (fun b hb' => Below.heap_setCell _ _ _ _ (fun e => by have := hS3.lt b hb'; simp at e; omega))
    | false =>
      cases hin : (scanW s.data.toList k).2 with
      | true =>
        have hnext := scanW_more s.data.toList k s[k] hget hwh hin
        obtain ⟨qs, o, hqs, ho⟩ := scanW_inside s.data.toList k hin
        have hlq : qs.length < k := by have := scanW_len s.data.toList k; rw [hqs] at this; simp at this; omega
        rw [hqs] at hnext hS3
        rw [hin] at hS2 hc2
        simp only [List.length_append, List.length_cons, List.length_nil, Nat.zero_add] at hS3
        have Hn := hide hnext
        clear hnext hget hqs hin hown hR2
        obtain ⟨g, cap, rfl⟩ := ownsRow_succ hS3
        have hg0 := (hS3.cellAt (qs.length * 4 + 0) (by omega)).trans (wcs_get s qs (o, k) 0 (by omega))
        have hg1 := (hS3.cellAt (qs.length * 4 + 1) (by omega)).trans (wcs_get s qs (o, k) 1 (by omega))
        simp only [wc, List.getElem?_cons_zero, List.getElem?_cons_succ, Nat.add_zero] at hg0 hg1
        have hgf := hS3.frozenAt (qs.length * 4)
        gi_wp2_with (gi_at_call 12; refine (CallsIn.inRound l (callsIn_wide.2 (white_any _ _))).mono ?_; rintro e w' ⟨rfl, rfl⟩)
        have hwr : IntKind.i64.wrap ((k : Int) + 1) = (k : Int) + 1 := IntWalk.i64_in _ (by omega)
        have hs1 : (o : Int) ≤ (k : Int) + 1 := by omega
        have hs2 : (k : Int) + 1 ≤ (s.size : Int) := by omega
        have hs3 : (0 : Int) ≤ (k : Int) + 1 := by omega
        have hs4 : ((k : Int) + 1).toNat = k + 1 := by omega
        refine wpIn_region_still_tail (Fence.open_round _ _) 13 (by kernel_rfl) (by kernel_rfl) (by kernel_rfl) ?_
        simp only [List.take_succ_cons, List.take_zero, List.drop_succ_cons, List.drop_zero]
        repeat still_step
        refine wpStill_nil ?_
        gi_wp2
        obtain ⟨hS3', hgb⟩ := hS3.stored (qs.length * 4) (.string (s.extract o (k + 1)))
        have hgB := (hS3.lt g (by simp [Value.ownBlock])).1
        refine ⟨_, ((Keeps.set (C := fun b => b = B + 1 ∨ b = B + 2 ∨ (Value.slice (some ⟨g, 0, none⟩) (qs.length + 1) cap).ownBlock = some b) (Keeps.refl _ _) (.inl (.inr (.inr (by simp [Value.ownBlock])))) _ _).drew), hgr2.later (by simp [World.setCell]), _, rfl, hS0.off (by omega) _ _, hS1.off (by omega) _ _, by rw [Hn.out]; exact hS2.off (by omega) _ _, ?_⟩
        rw [Hn.out]
        rw [wcs_set] at hS3'
        simpa using hS3'.drew
      | false =>
        have hnext := scanW_new s.data.toList k s[k] hget hwh hin
        have hlq := scanW_len s.data.toList k
        rw [hin] at hS2 hc2
        have Hn := hide hnext
        clear hnext hget hin hown hR2
        have hvB : ∀ b, v.ownBlock = some b → B + 4 ≤ b := fun b hb => (hS3.lt b hb).1
        obtain ⟨ws, hws⟩ : ∃ ws, (scanW s.data.toList k).1 = ws := ⟨_, rfl⟩
        rw [hws] at hS3 Hn hlq
        clear hws
        have HvB := hide hvB
        clear hvB
        gi_wp2_with (first | (gi_at_call 12; refine (CallsIn.inRound l (callsIn_wide.2 (white_any _ _))).mono ?_; rintro e w' ⟨rfl, rfl⟩) | (gi_at_builtin; refine wpListIn_append_at _ rfl _ _ 23 rfl (B + 4) 28 infoWord Tryd.underlying23 rfl (by decide) v ws.length (wcs s ws) rfl (hS3.alloc _) ⟨X + 1, 0, none⟩ 1 1 [.string ⟨#[]⟩, .int .i64 k, .int .i64 (pl s.data.toList k).2.1, .int .i64 (pl s.data.toList k).2.2] rfl rfl (cells_new _ _ (by omega)) (by intro u hu; simp only [List.mem_cons, List.not_mem_nil, or_false] at hu; rcases hu with rfl | rfl | rfl | rfl <;> rfl) (by unfold maxLen; omega) (by omega) (by rw [World.size_alloc]; omega) ?_; intro v' w1 hown1 hgrow1 _ hat1; obtain ⟨g, cap, rfl⟩ := ownsRow_succ hown1; have Hat := hide hat1; clear hat1; have hgB : B + 4 ≤ g := (hown1.lt g (by simp [Value.ownBlock])).1; have hneB : ∀ b, b < B + 4 → some b ≠ v.ownBlock := (fun b hb e => by have := HvB.out b e.symm; omega); have T0 := (hS0.alloc _).grown hgrow1 (hneB _ (by omega)); have T1 := (hS1.alloc _).grown hgrow1 (hneB _ (by omega)); have T2 := (hS2.alloc _).grown hgrow1 (hneB _ (by omega)); have Tx := (hrx.alloc _).grown hgrow1 (Ne.symm hXv); clear hneB; have d0 : w1.cell? ⟨B, 0, none⟩ = some (.string s) := T0.cell 0; have d1 : w1.cell? ⟨B + 1, 0, none⟩ = some v := T1.cell 0; have d2 : w1.cell? ⟨B + 2, 0, none⟩ = some (.bool false) := T2.cell 0; have d3 : w1.cell? ⟨X, 0, none⟩ = some (.int .i64 k) := Tx.cell 0; have df1 := T1.frozen 0; have df2 := T2.frozen 0; have dg0 := (hown1.cellAt (ws.length * 4 + 0) (by omega)).trans (wcs_end s ws _ 0); have dg1 := (hown1.cellAt (ws.length * 4 + 1) (by omega)).trans (wcs_end s ws _ 1); simp only [List.getElem?_cons_zero, List.getElem?_cons_succ, Nat.add_zero] at dg0 dg1; have dgf := hown1.frozenAt (ws.length * 4)))
        have hwr : IntKind.i64.wrap ((k : Int) + 1) = (k : Int) + 1 := IntWalk.i64_in _ (by omega)
        have hs1 : (k : Int) ≤ (k : Int) + 1 := by omega
        have hs2 : (k : Int) + 1 ≤ (s.size : Int) := by omega
        have hs3 : (0 : Int) ≤ (k : Int) + 1 := by omega
        have hs4 : ((k : Int) + 1).toNat = k + 1 := by omega
        refine wpIn_region_still_tail (Fence.open_round _ _) 13 (by kernel_rfl) (by kernel_rfl) (by kernel_rfl) ?_
        simp only [List.take_succ_cons, List.take_zero, List.drop_succ_cons, List.drop_zero]
        repeat still_step
        refine wpStill_nil ?_
        gi_wp2
        obtain ⟨hS3', hgb⟩ := hown1.stored (ws.length * 4) (.string (s.extract k (k + 1)))
        have hz1 := hgrow1.size
        rw [World.size_alloc, hz2] at hz1
        have hgC : v.ownBlock = some g ∨ X + 1 ≤ g := by
          rcases Hat.out with h | h
          · exact .inl h.symm
          · simp [Value.ownBlock] at h; exact .inr (by omega)
        refine ⟨fun b => b = B + 1 ∨ b = B + 2 ∨ (Value.slice (some ⟨g, 0, none⟩) (ws.length + 1) cap).ownBlock = some b, ?_, ?_, _, rfl, ?_, ?_, ?_, ?_⟩
        · exact (((((((Keeps.refl (fun b => b = B + 1 ∨ b = B + 2 ∨ v.ownBlock = some b) W2).alloc _).grown hgrow1 (fun b hb => .inl (.inr (.inr hb)))).set (.inl (.inl rfl)) _ _).set (.inl (.inr (.inl rfl))) _ _).set (hgC.imp (fun h => .inr (.inr h)) (fun h => by omega)) _ _)).drew
        · intro b hb
          rcases hb with rfl | rfl | hb
          · exact ⟨.inl (.inl rfl), by simp [World.setCell]; omega⟩
          · exact ⟨.inl (.inr (.inl rfl)), by simp [World.setCell]; omega⟩
          · have hbg : g = b := by simpa [Value.ownBlock] using hb
            subst hbg
            refine ⟨hgC.elim (fun h => .inl (.inr (.inr h))) (fun h => .inr (by omega)), ?_⟩
            have := (hown1.lt g (by simp [Value.ownBlock])).2
            simpa [World.setCell] using this
        · exact ((T0.off (by omega) _ _).off (by omega) _ _).off (by omega) _ _
        · exact ((T1.set_ 0 _).off (by omega) _ _).off (by omega) _ _
        · rw [Hn.out]; exact ((T2.off (by omega) _ _).set_ 0 _).off (by omega) _ _
        · rw [Hn.out]
          have h5 := ((hown1.kept (w' := w1.setCell ⟨B + 1, 0, none⟩ (.slice (some ⟨g, 0, none⟩) (ws.length + 1) cap)) (row := some (B + 1)) ⟨rfl, rfl, rfl, by simp [World.setCell], fun b _ hb => Below.heap_setCell _ _ _ _ (fun e => hb (by rw [e]))⟩ (.inr (by simp [Value.ownBlock]; omega))).kept
            (w' := (w1.setCell ⟨B + 1, 0, none⟩ (.slice (some ⟨g, 0, none⟩) (ws.length + 1) cap)).setCell ⟨B + 2, 0, none⟩ (.bool true)) (row := some (B + 2)) ⟨rfl, rfl, rfl, by simp [World.setCell], fun b _ hb => Below.heap_setCell _ _ _ _ (fun e => hb (by rw [e]))⟩ (.inr (by simp [Value.ownBlock]; omega)))
          have h6 := (h5.stored (ws.length * 4) (.string (s.extract k (k + 1)))).1
          rw [wcs_fresh] at h6
          simpa using h6.drew
  case done =>
    rintro D C W hD hCD hK ⟨v, rfl, hR0, hR1, hR2, hown⟩ hkp hgr
    rw [hlen] at hown
    have hc1 : W.cell? ⟨B + 1, 0, none⟩ = some v := hR1.cell 0
    gi_wp2
    refine bodyPostM_mark hK (results_tmp2 rfl _ _ _) ⟨v, rfl, ?_, ?_⟩
    · exact ownsRow_base (ownsRow_same hown (fun b hb => World.putObj_heap_other (fun e => hCD (.inr (.inr (e ▸ hb)))))) (by omega)
    · exact hbl.trans (hkp.putObj (.inr hD) _ |>.below (fun b hb => by simp [Value.ownBlock] at hb; omega) (by omega))
  case stop =>
    exact fun D c k C W _ _ _ _ h _ _ => h.elim
end Go.Proofs.YtbhmgooohhgpaaaDoor
