/- MgF: the texts HiG HiH HiI HiJ in one. -/
import Derived.Test.YtpfiofgchkfkhaaMgE
import Derived.Test.YtpfiofgchkfkhaaShelfR
import Derived.Lib.OwnBridge
import Derived.Maps.AppendAt
import Derived.Laws.Rows
import Derived.Laws.EntriesVeiled
/- Contract of path. -/
set_option linter.unusedVariables false
set_option linter.unusedSimpArgs false
namespace Go
open Go.RowKit
theorem results_tmp1 {P : Program} {fn : Func} {p : Tmp} (h : fn.results = #[.tmp p]) (tmps : Array Value) (w : World) : (results fn tmps).run P w = .ok (tmps.getD p undef) w := by
  simp [results, h]
theorem But_low {D n : Nat} {W W' : World} (h : But D W W') (hD : n ≤ D) : Below n W W' := ⟨h.os, h.tape, h.output, Nat.le_of_eq h.size.symm, fun b hb => h.block b (by omega)⟩
theorem ownsRow_sameH {W1 W2 : World} {base : Nat} {e : TypeId} {size : Nat} {v : Value} {n : Nat} {xs : List Value} (h : W1.ownsRow base e size v n xs)
    (hb : ∀ b, v.ownBlock = some b → W2.heap[b]? = W1.heap[b]?) : W2.ownsRow base e size v n xs := by
  refine ⟨h.1, ?_⟩
  rcases h.2 with hn | ⟨g, cap, cur, rfl, hbs, hg, rest⟩
  · exact .inl hn
  · exact .inr ⟨g, cap, cur, rfl, hbs, (hb g (by simp [Value.ownBlock])).trans hg, rest⟩
end Go
namespace Go.Proofs.Ytpfiofgchkfkhaa
open Go.RowKit Go.Shelf Go.Sort
attribute [local go_sem] Oper.semAt_some
theorem Reverse_own (w : World) (base n : Nat) (v : Value) (zs : List ByteArray) (h : w.ownsRow base 9 1 v n (zs.map Value.string)) (hn : zs.length = n) (hl : n ≤ 1000000) :
    Calls Try.prog 68 #[v] w fun e w' => e = .returned (.tuple #[]) ∧ w'.ownsRow base 9 1 v n (zs.reverse.map Value.string) ∧ Keeps (fun b => v.ownBlock = some b) w w' ∧ w'.heap.size = w.heap.size := by
  rcases Nat.eq_zero_or_pos n with h0 | h0
  · subst h0
    obtain rfl : zs = [] := List.eq_nil_of_length_eq_zero hn
    obtain ⟨A, cap, rfl⟩ := ownH_sl h
    exact (Try.slices_Reverse_string_empty A cap w).mono (by rintro e w' ⟨rfl, rfl⟩; exact ⟨rfl, h, Keeps.refl _ _, rfl⟩)
  · have he : ∀ ys : List ByteArray, (ys.map (·.data.toList)).map Proofs.encStr = ys.map Value.string := fun ys => Lib.map_encStr ys
    have h2 : w.ownsRow base 9 1 v n ((zs.map (·.data.toList)).map Proofs.encStr) := by rw [he]; exact h
    obtain ⟨g, cap, rfl, hb, hg, hcap, _, hlen, hH⟩ := Lib.holds_of_ownsRow h2 (by
      rintro rfl
      rcases h.2 with ⟨_, h3⟩ | ⟨g, cap, cs, h3, _⟩
      · omega
      · cases h3)
    have := Try.slices_Reverse_string g 0 cap (zs.map (·.data.toList)) w hH (by rw [List.length_map]; omega)
    rw [List.length_map, hn] at this
    refine this.mono ?_
    rintro e w' ⟨rfl, q, rfl⟩
    have ho := Lib.ownsRow_putRow (q := q) (k := n) (ys := (zs.map (·.data.toList)).reverse) h2 (by rw [List.length_reverse, List.length_map]; exact hn) (Nat.le_refl _)
    rw [List.take_of_length_le (by rw [List.length_reverse, List.length_map]; omega), ← List.map_reverse, he] at ho
    rw [← List.map_reverse]
    refine ⟨rfl, ho, ⟨rfl, rfl, rfl, by simp [putRow, mapBlock, Sort.ahead], fun b _ hnb => ?_⟩, by simp [putRow, mapBlock, Sort.ahead]⟩
    simp [putRow, mapBlock, Sort.ahead, Array.getElem?_modify, show g ≠ b from fun e => hnb (by rw [e]; rfl)]
def namesH (scs : List Sc) (ks : List Nat) : List ByteArray := ks.map fun k => (scH scs k).name
theorem pathH_names (scs : List Sc) (i : Int) : (namesH scs (upH scs i)).reverse = pathH scs i := rfl
/-- the blocks of path's own -/
def PathC (B : Nat) (v : Value) (b : Nat) : Prop := b = B + 1 ∨ v.ownBlock = some b
def PathI (scs : List Sc) (i : Int) (A : Option Addr) (cap : Nat) (B : Nat) (k : Nat) (C : Nat → Prop) (W : World) : Prop :=
  ∃ v, C = PathC B v ∧ Row W B 22 #[.slice A scs.length cap] ∧ Row W (B + 1) 37 #[v] ∧ ScS W A scs ∧
    W.ownsRow (B + 4) 9 1 v k ((namesH scs ((upH scs i).take k)).map Value.string) ∧ k ≤ (upH scs i).length
theorem infoStrH : (Try.prog.info? 9).map (fun i => (i.zero, i.size, i.bytes)) = some (some (.string ⟨#[]⟩), 1, 16) := by kernel_rfl
set_option maxHeartbeats 8000000 in
set_option maxRecDepth 20000 in
theorem path_any (scs : List Sc) (A : Option Addr) (cap : Nat) (i : Int) (w : World) (hl : scs.length ≤ 100000) (hd : DeclS scs) (hi : i < scs.length) (hi1 : -1 ≤ i) (hs : ScS w A scs) (hA : ∀ a, A = some a → a.block < w.heap.size) :
    Calls Try.prog 39 #[.slice A scs.length cap, .int .i64 i] w fun e w' => ∃ v, e = .returned v ∧ w'.ownsRow w.heap.size 9 1 v (pathH scs i).length ((pathH scs i).map Value.string) ∧ Below w.heap.size w w' := by
  refine (callsIn_wide (n := 0)).1 (callsIn_of_wp_marks Try.func39 rfl trivial ?_)
  simp only [Try.ntmps39, List.size_toArray, List.length_cons, List.length_nil, Nat.reduceAdd, Nat.reduceSub, Array.replicate_succ, Array.replicate_zero, List.push_toArray, List.append_toArray, List.nil_append, List.cons_append]
  obtain ⟨n, hn⟩ : ∃ n, scs.length = n := ⟨_, rfl⟩
  have Hn := hide hn
  have hul : (upH scs i).length ≤ 100000 := by
    have := pathH_len scs i
    have h2 : ∀ (m : Nat) (j : Int), j < scs.length → j.toNat < m → (upH scs j).length ≤ (j + 1).toNat := by
      intro m
      induction m with
      | zero => intro j _ h; omega
      | succ m ih =>
        intro j hj hm
        by_cases h0 : j < 0
        · rw [upH_neg _ h0]; exact Nat.zero_le _
        · obtain ⟨q, rfl⟩ : ∃ q : Nat, j = q := ⟨j.toNat, by omega⟩
          have hq : q < scs.length := by omega
          obtain ⟨h1, h2⟩ := hd q hq
          rw [upH_step hd hq, List.length_cons]
          by_cases h3 : (scH scs q).parent < 0
          · rw [upH_neg _ h3]; simp only [List.length_nil]; omega
          · have hm' : q < m + 1 := hm
            have := ih (scH scs q).parent (by omega) (by omega)
            show _ + 1 ≤ q + 1
            omega
    have := h2 (i.toNat + 1) i hi (by omega)
    omega
  rw [hn]
  gi_wp2_with (gi_at_call 67; refine (callsIn_wide.2 (up_any _ _ _ _ _)).mono ?_; rintro e w' ⟨rfl, rfl⟩)
  obtain ⟨B, hB⟩ : ∃ B, w.heap.size = B := ⟨_, rfl⟩
  rw [hB]
  generalize hW0 : World.alloc (World.alloc (World.alloc (World.alloc w _) _) _) _ = W0
  have hz0 : W0.heap.size = B + 4 := by rw [← hW0]; simp [hB]
  have hr0 : Row W0 B 22 #[.slice A n cap] := by rw [← hW0, ← hB]; exact (((Row.new _ _ _).alloc _).alloc _).alloc _
  have hr1 : Row W0 (B + 1) 37 #[.slice none 0 0] := by
    rw [← hW0, ← hB]; have := Row.new (w.alloc (.cells #[.slice A n cap] 22)) 37 #[.slice none 0 0]; simp only [World.size_alloc] at this; exact (this.alloc _).alloc _
  have hr2 : Row W0 (B + 2) 22 #[.slice A n cap] := by
    rw [← hW0, ← hB]; have := Row.new ((w.alloc (.cells #[.slice A n cap] 22)).alloc (.cells #[.slice none 0 0] 37)) 22 #[.slice A n cap]; simp only [World.size_alloc] at this; exact this.alloc _
  have hr3 : Row W0 (B + 3) 3 #[.int .i64 i] := by
    rw [← hW0, ← hB]; have := Row.new (((w.alloc (.cells #[.slice A n cap] 22)).alloc (.cells #[.slice none 0 0] 37)).alloc (.cells #[.slice A n cap] 22)) 3 #[.int .i64 i]; simp only [World.size_alloc] at this; exact this
  have hbl : Below B w W0 := by rw [← hW0]; exact ((((Below.refl _ _).alloc (by omega) _).alloc (by simp; omega) _).alloc (by simp; omega) _).alloc (by simp; omega) _
  have hs0 : ScS W0 A scs := sc_below hs (by rw [hB]; exact hbl)
  have hAB : ∀ a, A = some a → a.block < B := fun a ha => by rw [← hB]; exact hA a ha
  have HBl := hide hbl
  have Hz0 := hide hz0
  have HwB := hide hB
  have HAB := hide hAB
  have IT := hide (up_iter scs A cap i (B + 3) (B + 2) W0 (by omega) hd hi hi1 (by omega) (fun a ha e => by have := hAB a ha; omega) hr3 (by rw [hn]; exact hr2) hs0)
  have hr0' : Row W0 B 22 #[.slice A scs.length cap] := by rw [hn]; exact hr0
  have Hul := hide hul
  have Hd := hide hd
  have Hi := hide hi
  clear hW0 hB hbl hs hA hul
  refine wpIn_rangeO (gf := 78) (lb := #[.pointer (some ⟨B + 3, 0, none⟩), .pointer (some ⟨B + 2, 0, none⟩)]) rfl (enters_of Try.func78 (by kernel_rfl) rfl) IT.out (fun _ => rfl) (Same.refl _ _)
    (PathC B (.slice none 0 0)) (fun b hb e => by
      rcases hb with rfl | ⟨a, ha, rfl⟩
      · rcases e with e | e
        · omega
        · simp [Value.ownBlock] at e
      · have := HAB.out a ha
        rcases e with e | e
        · omega
        · simp [Value.ownBlock] at e)
    (fun b hb e => by
      subst hb
      rcases e with e | e
      · omega
      · simp [Value.ownBlock] at e)
    (fun b hb => by
      have h := Hz0.out
      rcases hb with rfl | ⟨a, ha, rfl⟩
      · omega
      · have := HAB.out a ha; omega)
    (fun b hb => by have h := Hz0.out; subst hb; omega)
    (fun b hb => by
      have h := Hz0.out
      rcases hb with e | e
      · omega
      · simp [Value.ownBlock] at e)
    (PathI scs i A cap B) (fun _ _ _ _ => False)
    (fun k C W1 W2 h hsm => by
      obtain ⟨v, rfl, h0, h1, h2, h3, h4⟩ := h
      have hz := Hz0.out
      exact ⟨v, rfl, h0.same hsm (.inl ⟨by omega, by omega⟩), h1.same hsm (.inl ⟨by omega, by omega⟩), sc_same (bs := B) h2 hsm (fun b hb => .inl (by
        rcases hb with rfl | ⟨a, ha, rfl⟩
        · exact ⟨by omega, by omega⟩
        · have := HAB.out a ha; exact ⟨by omega, by omega⟩)), ownsRow_sameH h3 (fun b hb => hsm.block b (.inr (.inr hb))), h4⟩)
    (fun c k C W1 W2 h hsm => h)
    ⟨_, rfl, hr0', hr1, hs0, World.ownsRow_nil _ _ _ _, Nat.zero_le _⟩ ?round ?done ?stop
  case round =>
    rintro lp k x C W hlp hlp2 hClp hx hinv hgr hsz
    obtain ⟨v, rfl, hR0, hR1, hS, hown, hk⟩ := hinv
    rw [Hn.out] at hR0
    obtain ⟨hkl, hxe⟩ := List.getElem?_eq_some_iff.1 hx
    have hxm : x < scs.length := upH_lt Hd.out (i.toNat + 1) i Hi.out (by omega) x (by rw [← hxe]; exact List.getElem_mem hkl)
    have hL2 : namesH scs ((upH scs i).take (k + 1)) = namesH scs ((upH scs i).take k) ++ [(scs[x]'hxm).name] := by
      rw [List.take_succ_eq_append_getElem hkl, hxe]
      unfold namesH
      rw [List.map_append, List.map_cons, List.map_nil, scH_at hxm]
    obtain ⟨A0, cap0, rfl⟩ := ownH_sl hown
    obtain ⟨bA, off, rfl, hbz, hat⟩ := sc_at hS hxm
    obtain ⟨c0, _, _⟩ := hat W (Below.refl _ _)
    have hbB : bA < B := HAB.out _ rfl
    have HL2 := hide hL2
    obtain ⟨L, hL⟩ : ∃ L, (namesH scs ((upH scs i).take k)).map Value.string = L := ⟨_, rfl⟩
    have hLk := hown.1
    rw [hL] at hown hLk
    have HL := hide hL
    obtain ⟨nm, hnm⟩ : ∃ nm, (scs[x]'hxm).name = nm := ⟨_, rfl⟩
    rw [hnm] at c0 HL2
    have hk6 : k ≤ 100000 := by have := Hul.out; omega
    have hxi : (x : Int) < (n : Int) := by have := Hn.out; omega
    have Hgr := hide hgr
    have HClp := hide hClp
    have HS := hide hS
    clear hL2 hnm hx hxe hat hgr hClp hS hL
    gi_wp2
    refine ⟨Keeps.refl _ _, fun W2 hb => ?_⟩
    have hlpB : B + 4 ≤ lp := by have := Hz0.out; omega
    have hvB : ∀ b, (Value.slice A0 k cap0).ownBlock = some b → B + 4 ≤ b := fun b hb => (hown.lt b hb).1
    have hvl : (Value.slice A0 k cap0).ownBlock ≠ some lp := fun e => HClp.out (.inr e)
    have hT0 : Row W2 B 22 #[.slice (some ⟨bA, off, none⟩) n cap] := hR0.but hb (by omega)
    have hT1 : Row W2 (B + 1) 37 #[.slice A0 k cap0] := hR1.but hb (by omega)
    have hown2 : W2.ownsRow (B + 4) 9 1 (.slice A0 k cap0) k L := ownsRow_sameH hown (fun b hb' => hb.block b (fun e => hvl (e ▸ hb')))
    have hsz2 : W2.heap.size = W.heap.size := hb.size
    have hc2 : W2.cell? ⟨B, 0, none⟩ = some (.slice (some ⟨bA, off, none⟩) n cap) := hT0.cell 0
    have hc5 : W2.cell? ⟨B + 1, 0, none⟩ = some (.slice A0 k cap0) := hT1.cell 0
    have hcn : W2.cell? ⟨bA, off + x * 3, none⟩ = some (.string nm) := (hb.cell (p := ⟨bA, _, none⟩) (by show bA ≠ lp; omega)).trans c0
    have hS2 : ScS W2 (some ⟨bA, off, none⟩) scs := fun hp => by
      obtain ⟨b, o, he, hat⟩ := HS.out hp
      cases he
      exact ⟨bA, off, rfl, fun i hi j hj => (hb.cell (p := ⟨bA, _, none⟩) (by show bA ≠ lp; omega)).trans (hat i hi j hj)⟩
    obtain ⟨iS, hiS, hz0', hz1', hz2'⟩ := info_parts infoStrH
    have hownA : (W2.drew.alloc (.cells #[.string nm] 9)).ownsRow (B + 4) 9 1 (.slice A0 k cap0) k L := (show W2.drew.ownsRow (B + 4) 9 1 (.slice A0 k cap0) k L from hown2).alloc _
    obtain ⟨v1, w1, hrun, hown1, hgrow1, _, hat1⟩ := run_append_own_at (P := Try.prog) (w := W2.drew.alloc (.cells #[.string nm] 9)) (B + 4) 37 37 9 iS (.string ⟨#[]⟩) 1 16 Try.underlying37 hiS hz0' hz1' hz2' rfl (by decide) (.slice A0 k cap0) k L hownA ⟨W2.heap.size, 0, none⟩ 1 1 [.string nm] rfl (cells_new _ _ rfl) (by intro u hu; simp only [List.mem_cons, List.not_mem_nil, or_false] at hu; rcases hu with rfl; rfl) (by unfold maxLen; omega) (by omega) (by rw [World.size_alloc]; show B + 4 ≤ W2.heap.size + 1; omega)
    obtain ⟨A1, cap1, rfl⟩ := ownH_sl hown1
    have hrun2 : (Builtin.append_ #[37, 37] 37 #[.slice A0 k cap0, .slice (some ⟨W.heap.size, 0, none⟩) 1 1]).run Try.prog (W2.alloc (.cells #[.string nm] 9)).drew = .ok (.slice A1 (k + 1) cap1) w1 := by rw [← hsz2]; exact hrun
    have hc5a : (W2.alloc (.cells #[.string nm] 9)).cell? ⟨B + 1, 0, none⟩ = some (.slice A0 k cap0) := (hT1.alloc _).cell 0
    have hT1' : Row w1 (B + 1) 37 #[.slice A0 k cap0] := ((show Row W2.drew (B + 1) 37 #[.slice A0 k cap0] from hT1).alloc _).grown hgrow1 (fun e => by have := hvB _ e.symm; omega)
    have hT0' : Row w1 B 22 #[.slice (some ⟨bA, off, none⟩) n cap] := ((show Row W2.drew B 22 #[.slice (some ⟨bA, off, none⟩) n cap] from hT0).alloc _).grown hgrow1 (fun e => by have := hvB _ e.symm; omega)
    have hc5' : w1.cell? ⟨B + 1, 0, none⟩ = some (.slice A0 k cap0) := hT1'.cell 0
    have hf5' := hT1'.frozen 0
    have hKw : Keeps (fun b => PathC B (.slice A0 k cap0) b ∨ W.heap.size ≤ b) W2 w1 := ((Keeps.refl _ W2).drew.alloc _).grown hgrow1 (fun b hb => .inl (.inl (.inr hb)))
    have hFin : ∃ C', Keeps (fun b => PathC B (.slice A0 k cap0) b ∨ W.heap.size ≤ b) W2 (w1.setCell ⟨B + 1, 0, none⟩ (.slice A1 (k + 1) cap1)) ∧ Grew (PathC B (.slice A0 k cap0)) W C' (w1.setCell ⟨B + 1, 0, none⟩ (.slice A1 (k + 1) cap1)) ∧ PathI scs i (some ⟨bA, off, none⟩) cap B (k + 1) C' (w1.setCell ⟨B + 1, 0, none⟩ (.slice A1 (k + 1) cap1)) := by
      have hgz := hgrow1.size
      rw [World.size_alloc] at hgz
      have hgz' : W2.heap.size + 1 ≤ w1.heap.size := hgz
      have hsz' : (w1.setCell ⟨B + 1, 0, none⟩ (.slice A1 (k + 1) cap1)).heap.size = w1.heap.size := by simp [World.setCell]
      refine ⟨PathC B (.slice A1 (k + 1) cap1), hKw.set (.inl (.inl (.inl rfl))) _ _, fun b hb' => ?_, _, rfl, ?_, hT1'.set_ 0 _, ?_, ?_, ?_⟩
      · rw [hsz']
        rcases hb' with rfl | hb'
        · exact ⟨.inl (.inl rfl), by omega⟩
        · refine ⟨?_, (hown1.lt b hb').2⟩
          rcases hat1 with h | h
          · exact .inl (.inr (h ▸ hb'))
          · rw [h] at hb'
            have h3 := Option.some.inj hb'
            rw [World.size_alloc] at h3
            have h4 : W2.heap.size + 1 = b := h3
            exact .inr (by omega)
      · rw [Hn.out]; exact hT0'.off (by omega) _ _
      · have hkc : Keeps (fun b => PathC B (.slice A0 k cap0) b ∨ W.heap.size ≤ b) W2 (w1.setCell ⟨B + 1, 0, none⟩ (.slice A1 (k + 1) cap1)) := hKw.set (.inl (.inl (.inl rfl))) _ _
        exact sc_kept (bs := B) hS2 hkc (by
          rintro b (rfl | ⟨a, ha, rfl⟩) (e | e)
          · rcases e with e | e
            · omega
            · have := hvB _ e; omega
          · have := Hz0.out; omega
          · cases ha
            rcases e with e | e
            · have e' : bA = B + 1 := e; omega
            · have := hvB _ e; simp only at this; omega
          · cases ha; have := Hz0.out; simp only at e; omega)
      · rw [HL2.out, List.map_append, HL.out]
        exact ownsRow_sameH hown1 (fun b hb' => Below.heap_setCell _ ⟨B + 1, 0, none⟩ _ b (by have := (hown1.lt b hb').1; show b ≠ B + 1; omega))
      · omega
    have HFin := hide hFin
    clear hFin hKw hT0 hT1 hT0' hT1' hown hown1 hown2 hownA hgrow1 hat1 hS2 hb hvB hvl hR0 hR1 c0 hLk
    gi_wp2_with fail
    refine wpIn_region_any (by kernel_rfl) ?_
    try (change wpAnyIn _ _ _ _ _ _ _ _ _ (World.drew _))
    refine wpAnyIn_ready (rs := [0, 1, 2]) (by kernel_rfl) (by simp) ?_
    refine AllReadyIn.cons rfl (fun K hK => ?_) ?_
    · go_simp
      refine hK _ _ ?_
      clear hK K
      refine wpAnyIn_ready (rs := [1, 2]) (by kernel_rfl) (by simp) ?_
      refine AllReadyIn.cons rfl (fun K hK => ?_) ?_
      · go_simp
        refine hK _ _ ?_
        clear hK K
        refine wpAnyIn_ready (rs := [2]) (by kernel_rfl) (by simp) ?_
        refine AllReadyIn.cons rfl (fun K hK => ?_) ?_
        · go_simp
          refine hK _ _ ?_
          clear hK K
          refine wpAnyIn_ready (rs := [3]) (by kernel_rfl) (by simp) ?_
          refine AllReadyIn.cons rfl (fun K hK => ?_) ?_
          · go_simp
            refine hK _ _ ?_
            clear hK K
            refine wpAnyIn_ready (rs := [4]) (by kernel_rfl) (by simp) ?_
            refine AllReadyIn.cons rfl (fun K hK => ?_) ?_
            · go_simp
              refine hK _ _ ?_
              clear hK K
              refine wpAnyIn_ready (rs := [5]) (by kernel_rfl) (by simp) ?_
              refine AllReadyIn.cons rfl (fun K hK => ?_) ?_
              · go_simp
                refine hK _ _ ?_
                clear hK K
                refine wpAnyIn_ready (rs := [6]) (by kernel_rfl) (by simp) ?_
                refine AllReadyIn.cons rfl (fun K hK => ?_) ?_
                · go_simp
                  refine hK _ _ ?_
                  clear hK K
                  refine wpAnyIn_ready (rs := [7]) (by kernel_rfl) (by simp) ?_
                  refine AllReadyIn.cons rfl (fun K hK => ?_) ?_
                  · rw [if_pos (by first | rfl | kernel_rfl | simp [Region.wanted])]
                    unfold Oper.wpIn
                    refine ⟨by simp [Oper.about, resolve, Target.leads, Sem.run_pure], ?_⟩
                    rw [Oper.semAt_plain _ _ _ (by intro c hc'; cases hc')]
                    simp [execOp, resolve, invoke, builtin, Act.eval, Result.andThen, hrun2]
                    refine hK _ _ ?_
                    clear hK K
                    refine wpAnyIn_ready (rs := [8]) (by kernel_rfl) (by simp) ?_
                    refine AllReadyIn.cons rfl (fun K hK => ?_) ?_
                    · go_simp
                      refine hK _ _ ?_
                      clear hK K
                      refine wpAnyIn_done (by kernel_rfl) ?_ _
                      gi_wp2_with fail
                      exact HFin.out
                    exact AllReadyIn.nil
                  exact AllReadyIn.nil
                exact AllReadyIn.nil
              exact AllReadyIn.nil
            exact AllReadyIn.nil
          exact AllReadyIn.nil
        exact AllReadyIn.nil
      refine AllReadyIn.cons rfl (fun K hK => ?_) ?_
      · go_simp
        refine hK _ _ ?_
        clear hK K
        refine wpAnyIn_ready (rs := [1]) (by kernel_rfl) (by simp) ?_
        refine AllReadyIn.cons rfl (fun K hK => ?_) ?_
        · go_simp
          refine hK _ _ ?_
          clear hK K
          refine wpAnyIn_ready (rs := [3]) (by kernel_rfl) (by simp) ?_
          refine AllReadyIn.cons rfl (fun K hK => ?_) ?_
          · go_simp
            refine hK _ _ ?_
            clear hK K
            refine wpAnyIn_ready (rs := [4]) (by kernel_rfl) (by simp) ?_
            refine AllReadyIn.cons rfl (fun K hK => ?_) ?_
            · go_simp
              refine hK _ _ ?_
              clear hK K
              refine wpAnyIn_ready (rs := [5]) (by kernel_rfl) (by simp) ?_
              refine AllReadyIn.cons rfl (fun K hK => ?_) ?_
              · go_simp
                refine hK _ _ ?_
                clear hK K
                refine wpAnyIn_ready (rs := [6]) (by kernel_rfl) (by simp) ?_
                refine AllReadyIn.cons rfl (fun K hK => ?_) ?_
                · go_simp
                  refine hK _ _ ?_
                  clear hK K
                  refine wpAnyIn_ready (rs := [7]) (by kernel_rfl) (by simp) ?_
                  refine AllReadyIn.cons rfl (fun K hK => ?_) ?_
                  · rw [if_pos (by first | rfl | kernel_rfl | simp [Region.wanted])]
                    unfold Oper.wpIn
                    refine ⟨by simp [Oper.about, resolve, Target.leads, Sem.run_pure], ?_⟩
                    rw [Oper.semAt_plain _ _ _ (by intro c hc'; cases hc')]
                    simp [execOp, resolve, invoke, builtin, Act.eval, Result.andThen, hrun2]
                    refine hK _ _ ?_
                    clear hK K
                    refine wpAnyIn_ready (rs := [8]) (by kernel_rfl) (by simp) ?_
                    refine AllReadyIn.cons rfl (fun K hK => ?_) ?_
                    · go_simp
                      refine hK _ _ ?_
                      clear hK K
                      refine wpAnyIn_done (by kernel_rfl) ?_ _
                      gi_wp2_with fail
                      exact HFin.out
                    exact AllReadyIn.nil
                  exact AllReadyIn.nil
                exact AllReadyIn.nil
              exact AllReadyIn.nil
            exact AllReadyIn.nil
          exact AllReadyIn.nil
        exact AllReadyIn.nil
      exact AllReadyIn.nil
    refine AllReadyIn.cons rfl (fun K hK => ?_) ?_
    · go_simp
      refine hK _ _ ?_
      clear hK K
      refine wpAnyIn_ready (rs := [0, 2]) (by kernel_rfl) (by simp) ?_
      refine AllReadyIn.cons rfl (fun K hK => ?_) ?_
      · go_simp
        refine hK _ _ ?_
        clear hK K
        refine wpAnyIn_ready (rs := [2]) (by kernel_rfl) (by simp) ?_
        refine AllReadyIn.cons rfl (fun K hK => ?_) ?_
        · go_simp
          refine hK _ _ ?_
          clear hK K
          refine wpAnyIn_ready (rs := [3]) (by kernel_rfl) (by simp) ?_
          refine AllReadyIn.cons rfl (fun K hK => ?_) ?_
          · go_simp
            refine hK _ _ ?_
            clear hK K
            refine wpAnyIn_ready (rs := [4]) (by kernel_rfl) (by simp) ?_
            refine AllReadyIn.cons rfl (fun K hK => ?_) ?_
            · go_simp
              refine hK _ _ ?_
              clear hK K
              refine wpAnyIn_ready (rs := [5]) (by kernel_rfl) (by simp) ?_
              refine AllReadyIn.cons rfl (fun K hK => ?_) ?_
              · go_simp
                refine hK _ _ ?_
                clear hK K
                refine wpAnyIn_ready (rs := [6]) (by kernel_rfl) (by simp) ?_
                refine AllReadyIn.cons rfl (fun K hK => ?_) ?_
                · go_simp
                  refine hK _ _ ?_
                  clear hK K
                  refine wpAnyIn_ready (rs := [7]) (by kernel_rfl) (by simp) ?_
                  refine AllReadyIn.cons rfl (fun K hK => ?_) ?_
                  · rw [if_pos (by first | rfl | kernel_rfl | simp [Region.wanted])]
                    unfold Oper.wpIn
                    refine ⟨by simp [Oper.about, resolve, Target.leads, Sem.run_pure], ?_⟩
                    rw [Oper.semAt_plain _ _ _ (by intro c hc'; cases hc')]
                    simp [execOp, resolve, invoke, builtin, Act.eval, Result.andThen, hrun2]
                    refine hK _ _ ?_
                    clear hK K
                    refine wpAnyIn_ready (rs := [8]) (by kernel_rfl) (by simp) ?_
                    refine AllReadyIn.cons rfl (fun K hK => ?_) ?_
                    · go_simp
                      refine hK _ _ ?_
                      clear hK K
                      refine wpAnyIn_done (by kernel_rfl) ?_ _
                      gi_wp2_with fail
                      exact HFin.out
                    exact AllReadyIn.nil
                  exact AllReadyIn.nil
                exact AllReadyIn.nil
              exact AllReadyIn.nil
            exact AllReadyIn.nil
          exact AllReadyIn.nil
        exact AllReadyIn.nil
      refine AllReadyIn.cons rfl (fun K hK => ?_) ?_
      · go_simp
        refine hK _ _ ?_
        clear hK K
        refine wpAnyIn_ready (rs := [0, 3]) (by kernel_rfl) (by simp) ?_
        refine AllReadyIn.cons rfl (fun K hK => ?_) ?_
        · go_simp
          refine hK _ _ ?_
          clear hK K
          refine wpAnyIn_ready (rs := [3]) (by kernel_rfl) (by simp) ?_
          refine AllReadyIn.cons rfl (fun K hK => ?_) ?_
          · go_simp
            refine hK _ _ ?_
            clear hK K
            refine wpAnyIn_ready (rs := [4]) (by kernel_rfl) (by simp) ?_
            refine AllReadyIn.cons rfl (fun K hK => ?_) ?_
            · go_simp
              refine hK _ _ ?_
              clear hK K
              refine wpAnyIn_ready (rs := [5]) (by kernel_rfl) (by simp) ?_
              refine AllReadyIn.cons rfl (fun K hK => ?_) ?_
              · go_simp
                refine hK _ _ ?_
                clear hK K
                refine wpAnyIn_ready (rs := [6]) (by kernel_rfl) (by simp) ?_
                refine AllReadyIn.cons rfl (fun K hK => ?_) ?_
                · go_simp
                  refine hK _ _ ?_
                  clear hK K
                  refine wpAnyIn_ready (rs := [7]) (by kernel_rfl) (by simp) ?_
                  refine AllReadyIn.cons rfl (fun K hK => ?_) ?_
                  · rw [if_pos (by first | rfl | kernel_rfl | simp [Region.wanted])]
                    unfold Oper.wpIn
                    refine ⟨by simp [Oper.about, resolve, Target.leads, Sem.run_pure], ?_⟩
                    rw [Oper.semAt_plain _ _ _ (by intro c hc'; cases hc')]
                    simp [execOp, resolve, invoke, builtin, Act.eval, Result.andThen, hrun2]
                    refine hK _ _ ?_
                    clear hK K
                    refine wpAnyIn_ready (rs := [8]) (by kernel_rfl) (by simp) ?_
                    refine AllReadyIn.cons rfl (fun K hK => ?_) ?_
                    · go_simp
                      refine hK _ _ ?_
                      clear hK K
                      refine wpAnyIn_done (by kernel_rfl) ?_ _
                      gi_wp2_with fail
                      exact HFin.out
                    exact AllReadyIn.nil
                  exact AllReadyIn.nil
                exact AllReadyIn.nil
              exact AllReadyIn.nil
            exact AllReadyIn.nil
          exact AllReadyIn.nil
        refine AllReadyIn.cons rfl (fun K hK => ?_) ?_
        · go_simp
          refine hK _ _ ?_
          clear hK K
          refine wpAnyIn_ready (rs := [0, 4]) (by kernel_rfl) (by simp) ?_
          refine AllReadyIn.cons rfl (fun K hK => ?_) ?_
          · go_simp
            refine hK _ _ ?_
            clear hK K
            refine wpAnyIn_ready (rs := [4]) (by kernel_rfl) (by simp) ?_
            refine AllReadyIn.cons rfl (fun K hK => ?_) ?_
            · go_simp
              refine hK _ _ ?_
              clear hK K
              refine wpAnyIn_ready (rs := [5]) (by kernel_rfl) (by simp) ?_
              refine AllReadyIn.cons rfl (fun K hK => ?_) ?_
              · go_simp
                refine hK _ _ ?_
                clear hK K
                refine wpAnyIn_ready (rs := [6]) (by kernel_rfl) (by simp) ?_
                refine AllReadyIn.cons rfl (fun K hK => ?_) ?_
                · go_simp
                  refine hK _ _ ?_
                  clear hK K
                  refine wpAnyIn_ready (rs := [7]) (by kernel_rfl) (by simp) ?_
                  refine AllReadyIn.cons rfl (fun K hK => ?_) ?_
                  · rw [if_pos (by first | rfl | kernel_rfl | simp [Region.wanted])]
                    unfold Oper.wpIn
                    refine ⟨by simp [Oper.about, resolve, Target.leads, Sem.run_pure], ?_⟩
                    rw [Oper.semAt_plain _ _ _ (by intro c hc'; cases hc')]
                    simp [execOp, resolve, invoke, builtin, Act.eval, Result.andThen, hrun2]
                    refine hK _ _ ?_
                    clear hK K
                    refine wpAnyIn_ready (rs := [8]) (by kernel_rfl) (by simp) ?_
                    refine AllReadyIn.cons rfl (fun K hK => ?_) ?_
                    · go_simp
                      refine hK _ _ ?_
                      clear hK K
                      refine wpAnyIn_done (by kernel_rfl) ?_ _
                      gi_wp2_with fail
                      exact HFin.out
                    exact AllReadyIn.nil
                  exact AllReadyIn.nil
                exact AllReadyIn.nil
              exact AllReadyIn.nil
            exact AllReadyIn.nil
          refine AllReadyIn.cons rfl (fun K hK => ?_) ?_
          · go_simp
            refine hK _ _ ?_
            clear hK K
            refine wpAnyIn_ready (rs := [0, 5]) (by kernel_rfl) (by simp) ?_
            refine AllReadyIn.cons rfl (fun K hK => ?_) ?_
            · go_simp
              refine hK _ _ ?_
              clear hK K
              refine wpAnyIn_ready (rs := [5]) (by kernel_rfl) (by simp) ?_
              refine AllReadyIn.cons rfl (fun K hK => ?_) ?_
              · go_simp
                refine hK _ _ ?_
                clear hK K
                refine wpAnyIn_ready (rs := [6]) (by kernel_rfl) (by simp) ?_
                refine AllReadyIn.cons rfl (fun K hK => ?_) ?_
                · go_simp
                  refine hK _ _ ?_
                  clear hK K
                  refine wpAnyIn_ready (rs := [7]) (by kernel_rfl) (by simp) ?_
                  refine AllReadyIn.cons rfl (fun K hK => ?_) ?_
                  · rw [if_pos (by first | rfl | kernel_rfl | simp [Region.wanted])]
                    unfold Oper.wpIn
                    refine ⟨by simp [Oper.about, resolve, Target.leads, Sem.run_pure], ?_⟩
                    rw [Oper.semAt_plain _ _ _ (by intro c hc'; cases hc')]
                    simp [execOp, resolve, invoke, builtin, Act.eval, Result.andThen, hrun2]
                    refine hK _ _ ?_
                    clear hK K
                    refine wpAnyIn_ready (rs := [8]) (by kernel_rfl) (by simp) ?_
                    refine AllReadyIn.cons rfl (fun K hK => ?_) ?_
                    · go_simp
                      refine hK _ _ ?_
                      clear hK K
                      refine wpAnyIn_done (by kernel_rfl) ?_ _
                      gi_wp2_with fail
                      exact HFin.out
                    exact AllReadyIn.nil
                  exact AllReadyIn.nil
                exact AllReadyIn.nil
              exact AllReadyIn.nil
            refine AllReadyIn.cons rfl (fun K hK => ?_) ?_
            · go_simp
              refine hK _ _ ?_
              clear hK K
              refine wpAnyIn_ready (rs := [0, 6]) (by kernel_rfl) (by simp) ?_
              refine AllReadyIn.cons rfl (fun K hK => ?_) ?_
              · go_simp
                refine hK _ _ ?_
                clear hK K
                refine wpAnyIn_ready (rs := [6]) (by kernel_rfl) (by simp) ?_
                refine AllReadyIn.cons rfl (fun K hK => ?_) ?_
                · go_simp
                  refine hK _ _ ?_
                  clear hK K
                  refine wpAnyIn_ready (rs := [7]) (by kernel_rfl) (by simp) ?_
                  refine AllReadyIn.cons rfl (fun K hK => ?_) ?_
                  · rw [if_pos (by first | rfl | kernel_rfl | simp [Region.wanted])]
                    unfold Oper.wpIn
                    refine ⟨by simp [Oper.about, resolve, Target.leads, Sem.run_pure], ?_⟩
                    rw [Oper.semAt_plain _ _ _ (by intro c hc'; cases hc')]
                    simp [execOp, resolve, invoke, builtin, Act.eval, Result.andThen, hrun2]
                    refine hK _ _ ?_
                    clear hK K
                    refine wpAnyIn_ready (rs := [8]) (by kernel_rfl) (by simp) ?_
                    refine AllReadyIn.cons rfl (fun K hK => ?_) ?_
                    · go_simp
                      refine hK _ _ ?_
                      clear hK K
                      refine wpAnyIn_done (by kernel_rfl) ?_ _
                      gi_wp2_with fail
                      exact HFin.out
                    exact AllReadyIn.nil
                  exact AllReadyIn.nil
                exact AllReadyIn.nil
              refine AllReadyIn.cons rfl (fun K hK => ?_) ?_
              · go_simp
                refine hK _ _ ?_
                clear hK K
                refine wpAnyIn_ready (rs := [0]) (by kernel_rfl) (by simp) ?_
                refine AllReadyIn.cons rfl (fun K hK => ?_) ?_
                · go_simp
                  refine hK _ _ ?_
                  clear hK K
                  refine wpAnyIn_ready (rs := [7]) (by kernel_rfl) (by simp) ?_
                  refine AllReadyIn.cons rfl (fun K hK => ?_) ?_
                  · rw [if_pos (by first | rfl | kernel_rfl | simp [Region.wanted])]
                    unfold Oper.wpIn
                    refine ⟨by simp [Oper.about, resolve, Target.leads, Sem.run_pure], ?_⟩
                    rw [Oper.semAt_plain _ _ _ (by intro c hc'; cases hc')]
                    simp [execOp, resolve, invoke, builtin, Act.eval, Result.andThen, hrun2]
                    refine hK _ _ ?_
                    clear hK K
                    refine wpAnyIn_ready (rs := [8]) (by kernel_rfl) (by simp) ?_
                    refine AllReadyIn.cons rfl (fun K hK => ?_) ?_
                    · go_simp
                      refine hK _ _ ?_
                      clear hK K
                      refine wpAnyIn_done (by kernel_rfl) ?_ _
                      gi_wp2_with fail
                      exact HFin.out
                    exact AllReadyIn.nil
                  exact AllReadyIn.nil
                exact AllReadyIn.nil
              exact AllReadyIn.nil
            exact AllReadyIn.nil
          exact AllReadyIn.nil
        exact AllReadyIn.nil
      exact AllReadyIn.nil
    refine AllReadyIn.cons rfl (fun K hK => ?_) ?_
    · go_simp
      refine hK _ _ ?_
      clear hK K
      refine wpAnyIn_ready (rs := [0, 1]) (by kernel_rfl) (by simp) ?_
      refine AllReadyIn.cons rfl (fun K hK => ?_) ?_
      · go_simp
        refine hK _ _ ?_
        clear hK K
        refine wpAnyIn_ready (rs := [1]) (by kernel_rfl) (by simp) ?_
        refine AllReadyIn.cons rfl (fun K hK => ?_) ?_
        · go_simp
          refine hK _ _ ?_
          clear hK K
          refine wpAnyIn_ready (rs := [3]) (by kernel_rfl) (by simp) ?_
          refine AllReadyIn.cons rfl (fun K hK => ?_) ?_
          · go_simp
            refine hK _ _ ?_
            clear hK K
            refine wpAnyIn_ready (rs := [4]) (by kernel_rfl) (by simp) ?_
            refine AllReadyIn.cons rfl (fun K hK => ?_) ?_
            · go_simp
              refine hK _ _ ?_
              clear hK K
              refine wpAnyIn_ready (rs := [5]) (by kernel_rfl) (by simp) ?_
              refine AllReadyIn.cons rfl (fun K hK => ?_) ?_
              · go_simp
                refine hK _ _ ?_
                clear hK K
                refine wpAnyIn_ready (rs := [6]) (by kernel_rfl) (by simp) ?_
                refine AllReadyIn.cons rfl (fun K hK => ?_) ?_
                · go_simp
                  refine hK _ _ ?_
                  clear hK K
                  refine wpAnyIn_ready (rs := [7]) (by kernel_rfl) (by simp) ?_
                  refine AllReadyIn.cons rfl (fun K hK => ?_) ?_
                  · rw [if_pos (by first | rfl | kernel_rfl | simp [Region.wanted])]
                    unfold Oper.wpIn
                    refine ⟨by simp [Oper.about, resolve, Target.leads, Sem.run_pure], ?_⟩
                    rw [Oper.semAt_plain _ _ _ (by intro c hc'; cases hc')]
                    simp [execOp, resolve, invoke, builtin, Act.eval, Result.andThen, hrun2]
                    refine hK _ _ ?_
                    clear hK K
                    refine wpAnyIn_ready (rs := [8]) (by kernel_rfl) (by simp) ?_
                    refine AllReadyIn.cons rfl (fun K hK => ?_) ?_
                    · go_simp
                      refine hK _ _ ?_
                      clear hK K
                      refine wpAnyIn_done (by kernel_rfl) ?_ _
                      gi_wp2_with fail
                      exact HFin.out
                    exact AllReadyIn.nil
                  exact AllReadyIn.nil
                exact AllReadyIn.nil
              exact AllReadyIn.nil
            exact AllReadyIn.nil
          exact AllReadyIn.nil
        exact AllReadyIn.nil
      refine AllReadyIn.cons rfl (fun K hK => ?_) ?_
      · go_simp
        refine hK _ _ ?_
        clear hK K
        refine wpAnyIn_ready (rs := [0, 3]) (by kernel_rfl) (by simp) ?_
        refine AllReadyIn.cons rfl (fun K hK => ?_) ?_
        · go_simp
          refine hK _ _ ?_
          clear hK K
          refine wpAnyIn_ready (rs := [3]) (by kernel_rfl) (by simp) ?_
          refine AllReadyIn.cons rfl (fun K hK => ?_) ?_
          · go_simp
            refine hK _ _ ?_
            clear hK K
            refine wpAnyIn_ready (rs := [4]) (by kernel_rfl) (by simp) ?_
            refine AllReadyIn.cons rfl (fun K hK => ?_) ?_
            · go_simp
              refine hK _ _ ?_
              clear hK K
              refine wpAnyIn_ready (rs := [5]) (by kernel_rfl) (by simp) ?_
              refine AllReadyIn.cons rfl (fun K hK => ?_) ?_
              · go_simp
                refine hK _ _ ?_
                clear hK K
                refine wpAnyIn_ready (rs := [6]) (by kernel_rfl) (by simp) ?_
                refine AllReadyIn.cons rfl (fun K hK => ?_) ?_
                · go_simp
                  refine hK _ _ ?_
                  clear hK K
                  refine wpAnyIn_ready (rs := [7]) (by kernel_rfl) (by simp) ?_
                  refine AllReadyIn.cons rfl (fun K hK => ?_) ?_
                  · rw [if_pos (by first | rfl | kernel_rfl | simp [Region.wanted])]
                    unfold Oper.wpIn
                    refine ⟨by simp [Oper.about, resolve, Target.leads, Sem.run_pure], ?_⟩
                    rw [Oper.semAt_plain _ _ _ (by intro c hc'; cases hc')]
                    simp [execOp, resolve, invoke, builtin, Act.eval, Result.andThen, hrun2]
                    refine hK _ _ ?_
                    clear hK K
                    refine wpAnyIn_ready (rs := [8]) (by kernel_rfl) (by simp) ?_
                    refine AllReadyIn.cons rfl (fun K hK => ?_) ?_
                    · go_simp
                      refine hK _ _ ?_
                      clear hK K
                      refine wpAnyIn_done (by kernel_rfl) ?_ _
                      gi_wp2_with fail
                      exact HFin.out
                    exact AllReadyIn.nil
                  exact AllReadyIn.nil
                exact AllReadyIn.nil
              exact AllReadyIn.nil
            exact AllReadyIn.nil
          exact AllReadyIn.nil
        refine AllReadyIn.cons rfl (fun K hK => ?_) ?_
        · go_simp
          refine hK _ _ ?_
          clear hK K
          refine wpAnyIn_ready (rs := [0, 4]) (by kernel_rfl) (by simp) ?_
          refine AllReadyIn.cons rfl (fun K hK => ?_) ?_
          · go_simp
            refine hK _ _ ?_
            clear hK K
            refine wpAnyIn_ready (rs := [4]) (by kernel_rfl) (by simp) ?_
            refine AllReadyIn.cons rfl (fun K hK => ?_) ?_
            · go_simp
              refine hK _ _ ?_
              clear hK K
              refine wpAnyIn_ready (rs := [5]) (by kernel_rfl) (by simp) ?_
              refine AllReadyIn.cons rfl (fun K hK => ?_) ?_
              · go_simp
                refine hK _ _ ?_
                clear hK K
                refine wpAnyIn_ready (rs := [6]) (by kernel_rfl) (by simp) ?_
                refine AllReadyIn.cons rfl (fun K hK => ?_) ?_
                · go_simp
                  refine hK _ _ ?_
                  clear hK K
                  refine wpAnyIn_ready (rs := [7]) (by kernel_rfl) (by simp) ?_
                  refine AllReadyIn.cons rfl (fun K hK => ?_) ?_
                  · rw [if_pos (by first | rfl | kernel_rfl | simp [Region.wanted])]
                    unfold Oper.wpIn
                    refine ⟨by simp [Oper.about, resolve, Target.leads, Sem.run_pure], ?_⟩
                    rw [Oper.semAt_plain _ _ _ (by intro c hc'; cases hc')]
                    simp [execOp, resolve, invoke, builtin, Act.eval, Result.andThen, hrun2]
                    refine hK _ _ ?_
                    clear hK K
                    refine wpAnyIn_ready (rs := [8]) (by kernel_rfl) (by simp) ?_
                    refine AllReadyIn.cons rfl (fun K hK => ?_) ?_
                    · go_simp
                      refine hK _ _ ?_
                      clear hK K
                      refine wpAnyIn_done (by kernel_rfl) ?_ _
                      gi_wp2_with fail
                      exact HFin.out
                    exact AllReadyIn.nil
                  exact AllReadyIn.nil
                exact AllReadyIn.nil
              exact AllReadyIn.nil
            exact AllReadyIn.nil
          refine AllReadyIn.cons rfl (fun K hK => ?_) ?_
          · go_simp
            refine hK _ _ ?_
            clear hK K
            refine wpAnyIn_ready (rs := [0, 5]) (by kernel_rfl) (by simp) ?_
            refine AllReadyIn.cons rfl (fun K hK => ?_) ?_
            · go_simp
              refine hK _ _ ?_
              clear hK K
              refine wpAnyIn_ready (rs := [5]) (by kernel_rfl) (by simp) ?_
              refine AllReadyIn.cons rfl (fun K hK => ?_) ?_
              · go_simp
                refine hK _ _ ?_
                clear hK K
                refine wpAnyIn_ready (rs := [6]) (by kernel_rfl) (by simp) ?_
                refine AllReadyIn.cons rfl (fun K hK => ?_) ?_
                · go_simp
                  refine hK _ _ ?_
                  clear hK K
                  refine wpAnyIn_ready (rs := [7]) (by kernel_rfl) (by simp) ?_
                  refine AllReadyIn.cons rfl (fun K hK => ?_) ?_
                  · rw [if_pos (by first | rfl | kernel_rfl | simp [Region.wanted])]
                    unfold Oper.wpIn
                    refine ⟨by simp [Oper.about, resolve, Target.leads, Sem.run_pure], ?_⟩
                    rw [Oper.semAt_plain _ _ _ (by intro c hc'; cases hc')]
                    simp [execOp, resolve, invoke, builtin, Act.eval, Result.andThen, hrun2]
                    refine hK _ _ ?_
                    clear hK K
                    refine wpAnyIn_ready (rs := [8]) (by kernel_rfl) (by simp) ?_
                    refine AllReadyIn.cons rfl (fun K hK => ?_) ?_
                    · go_simp
                      refine hK _ _ ?_
                      clear hK K
                      refine wpAnyIn_done (by kernel_rfl) ?_ _
                      gi_wp2_with fail
                      exact HFin.out
                    exact AllReadyIn.nil
                  exact AllReadyIn.nil
                exact AllReadyIn.nil
              exact AllReadyIn.nil
            refine AllReadyIn.cons rfl (fun K hK => ?_) ?_
            · go_simp
              refine hK _ _ ?_
              clear hK K
              refine wpAnyIn_ready (rs := [0, 6]) (by kernel_rfl) (by simp) ?_
              refine AllReadyIn.cons rfl (fun K hK => ?_) ?_
              · go_simp
                refine hK _ _ ?_
                clear hK K
                refine wpAnyIn_ready (rs := [6]) (by kernel_rfl) (by simp) ?_
                refine AllReadyIn.cons rfl (fun K hK => ?_) ?_
                · go_simp
                  refine hK _ _ ?_
                  clear hK K
                  refine wpAnyIn_ready (rs := [7]) (by kernel_rfl) (by simp) ?_
                  refine AllReadyIn.cons rfl (fun K hK => ?_) ?_
                  · rw [if_pos (by first | rfl | kernel_rfl | simp [Region.wanted])]
                    unfold Oper.wpIn
                    refine ⟨by simp [Oper.about, resolve, Target.leads, Sem.run_pure], ?_⟩
                    rw [Oper.semAt_plain _ _ _ (by intro c hc'; cases hc')]
                    simp [execOp, resolve, invoke, builtin, Act.eval, Result.andThen, hrun2]
                    refine hK _ _ ?_
                    clear hK K
                    refine wpAnyIn_ready (rs := [8]) (by kernel_rfl) (by simp) ?_
                    refine AllReadyIn.cons rfl (fun K hK => ?_) ?_
                    · go_simp
                      refine hK _ _ ?_
                      clear hK K
                      refine wpAnyIn_done (by kernel_rfl) ?_ _
                      gi_wp2_with fail
                      exact HFin.out
                    exact AllReadyIn.nil
                  exact AllReadyIn.nil
                exact AllReadyIn.nil
              refine AllReadyIn.cons rfl (fun K hK => ?_) ?_
              · go_simp
                refine hK _ _ ?_
                clear hK K
                refine wpAnyIn_ready (rs := [0]) (by kernel_rfl) (by simp) ?_
                refine AllReadyIn.cons rfl (fun K hK => ?_) ?_
                · go_simp
                  refine hK _ _ ?_
                  clear hK K
                  refine wpAnyIn_ready (rs := [7]) (by kernel_rfl) (by simp) ?_
                  refine AllReadyIn.cons rfl (fun K hK => ?_) ?_
                  · rw [if_pos (by first | rfl | kernel_rfl | simp [Region.wanted])]
                    unfold Oper.wpIn
                    refine ⟨by simp [Oper.about, resolve, Target.leads, Sem.run_pure], ?_⟩
                    rw [Oper.semAt_plain _ _ _ (by intro c hc'; cases hc')]
                    simp [execOp, resolve, invoke, builtin, Act.eval, Result.andThen, hrun2]
                    refine hK _ _ ?_
                    clear hK K
                    refine wpAnyIn_ready (rs := [8]) (by kernel_rfl) (by simp) ?_
                    refine AllReadyIn.cons rfl (fun K hK => ?_) ?_
                    · go_simp
                      refine hK _ _ ?_
                      clear hK K
                      refine wpAnyIn_done (by kernel_rfl) ?_ _
                      gi_wp2_with fail
                      exact HFin.out
                    exact AllReadyIn.nil
                  exact AllReadyIn.nil
                exact AllReadyIn.nil
              exact AllReadyIn.nil
            exact AllReadyIn.nil
          exact AllReadyIn.nil
        exact AllReadyIn.nil
      exact AllReadyIn.nil
    exact AllReadyIn.nil
  case done =>
    rintro D C W hD hCD hK ⟨v, rfl, hR0, hR1, hS, hown, _⟩ hkp hgr
    rw [List.take_of_length_le (Nat.le_refl _)] at hown
    have hK1 := hide hK
    obtain ⟨m, hm⟩ : ∃ m, (upH scs i).length = m := ⟨_, rfl⟩
    rw [hm] at hown
    obtain ⟨A0, cap0, rfl⟩ := ownH_sl hown
    have hnl : (namesH scs (upH scs i)).length = m := by unfold namesH; rw [List.length_map]; exact hm
    have RV := hide (Reverse_own W (B + 4) m (.slice A0 m cap0) _ hown hnl (by have := Hul.out; omega))
    have hpm : (pathH scs i).length = m := by rw [pathH_len]; exact hm
    rw [pathH_names] at RV
    have hc5 : W.cell? ⟨B + 1, 0, none⟩ = some (.slice A0 m cap0) := hR1.cell 0
    have hvB : ∀ b, (Value.slice A0 m cap0).ownBlock = some b → B + 4 ≤ b := fun b hb => (hown.lt b hb).1
    have hCD' : (Value.slice A0 m cap0).ownBlock ≠ some D := fun e => hCD (.inr e)
    have hz := Hz0.out
    have hb1 : Below B W0 W := hkp.below (fun b hb => by
      rcases hb with (e | e) | e
      · omega
      · simp [Value.ownBlock] at e
      · omega) (by omega)
    have HB1 := hide (HBl.out.trans hb1)
    have HR1 := hide hR1
    have Hpm := hide hpm
    have HvB := hide hvB
    have HCD := hide hCD'
    clear hR0 hR1 hS hown hkp hgr hK hb1 hvB hCD' hnl hm
    gi_wp2_with fail
    refine (callsIn_wide.2 RV.out).mono ?_
    rintro e w2 ⟨rfl, ho2, hk2, hs2⟩
    have hR12 : Row w2 (B + 1) 37 #[.slice A0 m cap0] := HR1.out.keep hk2 (fun e => by have := HvB.out _ e; omega)
    have hc52 : w2.cell? ⟨B + 1, 0, none⟩ = some (.slice A0 m cap0) := hR12.cell 0
    have hK2 := hide (hk2.heap hK1.out (fun e => HCD.out e))
    have HO2 := hide ho2
    have HB2 := hide (HB1.out.trans (hk2.below (fun b hb => by have := HvB.out b hb; omega) (by have := HB1.out.size; have := HwB.out; omega)))
    clear ho2 hk2 hs2 hR12
    gi_wp2
    refine bodyPostM_mark hK2.out (v := .slice A0 m cap0) ((results_tmp1 (p := 4) rfl _ _).trans rfl) ?_
    refine ⟨_, rfl, ?_, ?_⟩
    · rw [Hpm.out, HwB.out]
      exact ownsRow_mono (ownsRow_sameH HO2.out (fun b hb => World.putObj_heap_other (fun e => HCD.out (e ▸ hb)))) (by omega)
    · rw [HwB.out]; exact HB2.out.trans (But_low (But.putObj _ D _) (by omega))
  case stop =>
    rintro D c k C W _ _ _ _ h
    exact h.elim
end Go.Proofs.Ytpfiofgchkfkhaa

/- Keys that are structs; contracts of check's key functions and of unique. -/
set_option linter.unusedVariables false
set_option linter.unusedSimpArgs false
namespace Go
open Go.RowKit
theorem results_cellH {P : Program} {fn : Func} {p : Tmp} {ty : TypeId} (h : fn.results = #[.cell p ty]) (tmps : Array Value) (w : World) (g : Nat) (t : TypeId) (cs : Array Value) (fr : Nat × Nat) (d : TypeDesc)
    (hp : tmps.getD p undef = .pointer (some ⟨g, 0, none⟩)) (hg : w.heap[g]? = some (.cells cs t fr))
    (hu : P.underlying ty = some d) (hd : (match d with | .struct _ | .array _ _ => true | _ => false) = true) (hi : (P.info? ty).map (·.size) = some cs.size) :
    (results fn tmps).run P w = .ok (.agg cs) w := by
  have hp' : tmps[p]?.getD undef = .pointer (some ⟨g, 0, none⟩) := by simpa using hp
  have e : (results fn tmps).run P w = ((asAddr (tmps.getD p undef)).run P w).andThen fun a w₁ => (loadVar ty a).run P w₁ := by
    simp only [results, h]
    simp [Sem.run_bind, Result.andThen]
  rw [e]
  simp [hp', asAddr, Result.andThen, run_loadVar_row w g t ty cs fr d hg hu hd hi]
theorem alloc_twoH (w : World) (x y : Obj) : ((w.alloc x).alloc y).heap[w.heap.size + 1]? = some y := by
  rw [← World.size_alloc w x]; exact World.alloc_heap_new _ _
end Go
namespace Go.Proofs.Ytpfiofgchkfkhaa
open Go.RowKit Go.Shelf Go.Maps Go.Deep Go.WideMaps
theorem laidH : laidOutB Try.prog = true := by kernel_rfl
theorem keyedChild : Keyed Try.prog 81 := Keyed.of_law (deep_law_laid laidH (m := 3) (by decide) (of_decide_eq_true (by kernel_rfl)) (by kernel_rfl) (by kernel_rfl))
theorem keyedEntry : Keyed Try.prog 85 := Keyed.of_law (deep_law_laid laidH (m := 3) (by decide) (of_decide_eq_true (by kernel_rfl)) (by kernel_rfl) (by kernel_rfl))
def kvS (x : Sc) : Value := .agg #[.int .i64 x.parent, .string x.name]
def kvV (x : Va) : Value := .agg #[.int .i64 x.scope, .string x.name, .bool x.ranged, .int .i64 x.msb, .int .i64 x.lsb]
theorem kvS_eq {x y : Sc} : kvS x = kvS y ↔ childK x = childK y := by unfold kvS childK; simp
theorem kvV_eq {x y : Va} : kvV x = kvV y ↔ entryK x = entryK y := by unfold kvV entryK; simp
theorem typesH : ∃ m, Try.prog.types.size + 1 = m + 3 := ⟨254 - 102, by kernel_rfl⟩
theorem keyChild (x : Sc) (h : ScOk x) : ∃ l, keyOf Try.prog 81 (kvS x) = some l := by
  have hk : Try.prog.keyType 81 = true := by kernel_rfl
  have hf : (kvS x).formed Try.prog 81 = true := by
    unfold kvS Value.formed
    rw [Try.underlying81]
    simp only
    rw [show Try.prog.cellsOf 81 = 2 by kernel_rfl]
    rfl
  have hl : (Try.prog.keyLits (Try.prog.types.size + 1) 81 (kvS x).cells.toList) = some [.int .i64 x.parent, .string x.name.data.toList] := by
    obtain ⟨m, hm⟩ := typesH
    rw [hm]
    have c1 : Try.prog.cellsOf 81 = 2 := by kernel_rfl
    have c2 : Try.prog.cellsOf 3 = 1 := by kernel_rfl
    have c3 : Try.prog.cellsOf 9 = 1 := by kernel_rfl
    have w1 := wf64 h.parent
    have w2 := h.name
    simp [kvS, Value.cells, Program.keyLits, Try.underlying81, Try.underlying3, Try.underlying9, c1, c2, c3, w1, w2]
  unfold keyOf
  rw [Try.underlying81]
  simp only [hk, hf, hl, Bool.and_self, if_true, Option.map_some]
  exact ⟨_, rfl⟩
theorem keyEntry (x : Va) (h : VaOk x) : ∃ l, keyOf Try.prog 85 (kvV x) = some l := by
  have hk : Try.prog.keyType 85 = true := by kernel_rfl
  have hf : (kvV x).formed Try.prog 85 = true := by
    unfold kvV Value.formed
    rw [Try.underlying85]
    simp only
    rw [show Try.prog.cellsOf 85 = 5 by kernel_rfl]
    rfl
  have hl : (Try.prog.keyLits (Try.prog.types.size + 1) 85 (kvV x).cells.toList) = some [.int .i64 x.scope, .string x.name.data.toList, .bool x.ranged, .int .i64 x.msb, .int .i64 x.lsb] := by
    obtain ⟨m, hm⟩ := typesH
    rw [hm]
    have c1 : Try.prog.cellsOf 85 = 5 := by kernel_rfl
    have c2 : Try.prog.cellsOf 3 = 1 := by kernel_rfl
    have c3 : Try.prog.cellsOf 9 = 1 := by kernel_rfl
    have c4 : Try.prog.cellsOf 4 = 1 := by kernel_rfl
    have w1 := wf64 h.scope
    have w2 := h.name
    have w3 := wf64 h.msb
    have w4 := wf64 h.lsb
    simp [kvV, Value.cells, Program.keyLits, Try.underlying85, Try.underlying3, Try.underlying9, Try.underlying4, c1, c2, c3, c4, w1, w2, w3, w4]
  unfold keyOf
  rw [Try.underlying85]
  simp only [hk, hf, hl, Bool.and_self, if_true, Option.map_some]
  exact ⟨_, rfl⟩
theorem zeroBoolH (W : World) : (zeroValue 4).run Try.prog W = .ok (.bool false) W := zero_of (by kernel_rfl) W
theorem check8_any (x : Sc) (w : World) : Calls Try.prog 60 #[scV x] w fun e w' => e = .returned (kvS x) ∧ Below w.heap.size w w' := by
  obtain ⟨nm, ty, pa⟩ := x
  unfold scV kvS
  go_enter Try.func60, Try.ntmps60
  go_wp2
  exact bodyPost_ret (v := .agg #[.int .i64 pa, .string nm]) (results_cellH rfl _ _ (w.heap.size + 1) 81 _ _ _ rfl (alloc_twoH _ _ _) Try.underlying81 rfl (by kernel_rfl)) rfl ⟨rfl, ((Below.refl _ _).alloc (Nat.le_refl _) _).alloc (by simp) _⟩
theorem check9_any (x : Va) (w : World) : Calls Try.prog 62 #[vaV x] w fun e w' => e = .returned (kvV x) ∧ Below w.heap.size w w' := by
  obtain ⟨nm, ty, sc, sg, rg, msb, lsb⟩ := x
  unfold vaV kvV
  go_enter Try.func62, Try.ntmps62
  go_wp2
  exact bodyPost_ret (v := .agg #[.int .i64 sc, .string nm, .bool rg, .int .i64 msb, .int .i64 lsb]) (results_cellH rfl _ _ (w.heap.size + 1) 85 _ _ _ rfl (alloc_twoH _ _ _) Try.underlying85 rfl (by kernel_rfl)) rfl ⟨rfl, ((Below.refl _ _).alloc (Nat.le_refl _) _).alloc (by simp) _⟩

theorem nodup_snoc {β : Type} {l : List β} {b : β} (h : l.Nodup) (hn : b ∉ l) : (l ++ [b]).Nodup := by
  rw [List.nodup_append]
  exact ⟨h, List.nodup_cons.2 ⟨by simp, List.nodup_nil⟩, fun x hx y hy => by rw [List.mem_singleton.1 hy]; rintro rfl; exact hn hx⟩
theorem dup_no {α β : Type} {f : α → β} {xs : List α} {i j : Nat} (hj : j < xs.length) (hij : i < j) (h : f xs[i] = f xs[j]) : ¬ (xs.map f).Nodup := by
  intro hn
  rw [List.nodup_iff_pairwise_ne, List.pairwise_iff_getElem] at hn
  exact hn i j (by simp; omega) (by simpa using hj) hij (by simpa using h)
theorem nodup_iffH {α β γ : Type} {f : α → β} {g : α → γ} (h : ∀ {x y}, f x = f y ↔ g x = g y) {xs : List α} : (xs.map f).Nodup ↔ (xs.map g).Nodup := by
  rw [List.nodup_iff_pairwise_ne, List.nodup_iff_pairwise_ne, List.pairwise_map, List.pairwise_map]
  constructor
  · intro hp; exact hp.imp fun hn he => hn (h.2 he)
  · intro hp; exact hp.imp fun hn he => hn (h.1 he)
/-- the map of the keys met so far -/
def metH (l : List Value) : List (Value × Value) := l.map fun k => (k, .bool true)
theorem metH_mem {l : List Value} {p : Value × Value} (h : p ∈ metH l) : p.1 ∈ l ∧ p.2 = .bool true := by
  unfold metH at h
  obtain ⟨k, hk, rfl⟩ := List.mem_map.1 h
  exact ⟨hk, rfl⟩
theorem metH_nodup {l : List Value} (h : l.Nodup) : (metH l).Pairwise fun p q => p.1 ≠ q.1 := by
  unfold metH
  rw [List.pairwise_map]
  exact h
theorem metH_snoc (l : List Value) (k : Value) : metH (l ++ [k]) = metH l ++ [(k, .bool true)] := by unfold metH; simp

set_option maxRecDepth 20000 in
set_option maxHeartbeats 4000000 in
theorem uniqueS_any (A : Option Addr) (cap : Nat) (xs : List Sc) (w : World) (hs : ScS w A xs) (hl : xs.length ≤ 1000000) (hok : ∀ x ∈ xs, ScOk x) :
    Calls Try.prog 59 #[.slice A xs.length cap, .func (.func 60) #[] #[]] w fun e w' => e = .returned (.bool (decide ((xs.map childK).Nodup))) ∧ Below w.heap.size w w' := by
  obtain ⟨n, hn⟩ : ∃ n, xs.length = n := ⟨_, rfl⟩
  rw [hn]
  have Hn := hide hn
  have Hs := hide hs
  have Hok := hide hok
  have hn6 : n ≤ 1000000 := by omega
  clear hs hok hl hn
  have hmm := @run_makeMap Try.prog
  go_enter Try.func59, Try.ntmps59
  go_wp2_with fail
  go_loopw [11] (fun v wr => ∃ i : Nat, v = .int .i64 (i : Int) ∧ i ≤ n ∧ ((xs.take i).map kvS).Nodup ∧ MpW wr w.heap.size (metH ((xs.take i).map kvS)) ∧ Below w.heap.size w wr) (fun v _ => n - (intOf v).toNat)
  case atStart => exact ⟨0, rfl, Nat.zero_le _, List.nodup_nil, MpW.made _, (Below.refl _ _).alloc (Nat.le_refl _) _⟩
  case round =>
    obtain ⟨i, rfl, hi, hnd, hmp, hb⟩ := hrel
    have Hb := hide hb
    have Hnd := hide hnd
    have Hmp := hide hmp
    clear hnd hmp hb
    by_cases hlt : i < n
    · have hi' : (i : Int) < (n : Int) := by omega
      have hi0 : (0 : Int) ≤ (i : Int) := by omega
      have hw1 : IntKind.i64.wrap ((i : Int) + 1) = (i : Int) + 1 := IntWalk.i64_in _ (by omega)
      have hix : i < xs.length := by rw [Hn.out]; exact hlt
      obtain ⟨b, off, rfl, hbz, hat⟩ := sc_at Hs.out hix
      obtain ⟨c0, c1, c2⟩ := hat wr Hb.out
      have T := hide (fun W : World => check8_any xs[i] W)
      have hcall := fun W => enters (f := 60) (by kernel_rfl) #[scV xs[i]] W
      obtain ⟨lx, hlx⟩ := keyChild xs[i] (Hok.out _ (List.getElem_mem hix))
      have HK : Hid (∀ q ∈ metH ((xs.take i).map kvS), ∃ y, keyOf Try.prog 81 q.1 = some y) := hide (fun q hq => by
        obtain ⟨x, hx, he⟩ := List.mem_map.1 (metH_mem hq).1
        rw [← he]
        exact keyChild x (Hok.out _ (List.mem_of_mem_take hx)))
      by_cases hin : kvS xs[i] ∈ (xs.take i).map kvS
      · have HV := hide (show decide ((xs.map childK).Nodup) = false from decide_eq_false (by
          obtain ⟨x, hx, he⟩ := List.mem_map.1 hin
          obtain ⟨j, hj, rfl⟩ := List.mem_iff_getElem.1 hx
          rw [List.length_take] at hj
          rw [List.getElem_take] at he
          exact dup_no hix (show j < i by omega) (kvS_eq.1 he)))
        have HL := hide (fun W (hm : MpW W w.heap.size (metH ((xs.take i).map kvS))) => run_look_in keyedChild Try.underlying98 hm HK.out (metH_nodup Hnd.out) hlx (v := .bool true) (List.mem_map.2 ⟨_, hin, rfl⟩) false)
        generalize xs[i]'hix = x at *
        unfold scV at hcall T
        clear hat hin hlx HK
        go_wp2_with fail
        refine (T.out _).mono ?_
        rintro e w1 ⟨rfl, hb1⟩
        have Hbw := hide (((Below.refl wr.heap.size wr).alloc (Nat.le_refl _) _).trans (hb1.mono (by rw [World.size_alloc]; exact Nat.le_succ _)))
        have hm1 := Hmp.out.below Hbw.out Hmp.out.lt
        have Hb1 := hide (Hb.out.trans (Hbw.out.mono Hb.out.size))
        have hrun := HL.out w1 hm1
        simp only [Bool.false_eq_true, if_false] at hrun
        clear hb1 hm1
        go_wp2
        go_ret
        exact ⟨by rw [HV.out]; first | done | rfl, Hb1.out⟩
      · have HL := hide (fun W (hm : MpW W w.heap.size (metH ((xs.take i).map kvS))) => run_look_out keyedChild Try.underlying98 hm HK.out hlx (fun p hp he => hin (he ▸ (metH_mem hp).1)) (zeroBoolH W) false)
        have HP := hide (fun W (hm : MpW W w.heap.size (metH ((xs.take i).map kvS))) => run_put_new keyedChild Try.underlying98 hm HK.out hlx (fun p hp he => hin (he ▸ (metH_mem hp).1)) (.bool true))
        have HN := hide (show ((xs.take (i + 1)).map kvS).Nodup by
          rw [List.take_succ_eq_append_getElem hix, List.map_append]
          exact nodup_snoc Hnd.out hin)
        have HM : Hid (metH ((xs.take (i + 1)).map kvS) = metH ((xs.take i).map kvS) ++ [(kvS xs[i], .bool true)]) := hide (by
          rw [List.take_succ_eq_append_getElem hix, List.map_append]
          exact metH_snoc _ _)
        generalize xs[i]'hix = x at *
        unfold scV at hcall T
        clear hat hin hlx HK
        go_wp2_with fail
        refine (T.out _).mono ?_
        rintro e w1 ⟨rfl, hb1⟩
        have Hbw := hide (((Below.refl wr.heap.size wr).alloc (Nat.le_refl _) _).trans (hb1.mono (by rw [World.size_alloc]; exact Nat.le_succ _)))
        have hr1 := hide ((Row.new wr 49 _).below hb1 (by rw [World.size_alloc]; exact Nat.lt_succ_self _))
        have d0 : w1.cell? ⟨wr.heap.size, 0, none⟩ = some (.string x.name) := hr1.out.cell 0
        have d1 : w1.cell? ⟨wr.heap.size, 1, none⟩ = some (.int .i64 x.typ) := hr1.out.cell 1
        have d2 : w1.cell? ⟨wr.heap.size, 2, none⟩ = some (.int .i64 x.parent) := hr1.out.cell 2
        have Hm1 := hide (Hmp.out.below Hbw.out Hmp.out.lt)
        have Hb1 := hide (Hb.out.trans (Hbw.out.mono Hb.out.size))
        have hrun := HL.out w1 Hm1.out
        simp only [Bool.false_eq_true, if_false] at hrun
        clear hb1
        go_wp2_with fail
        refine (T.out _).mono ?_
        rintro e w2 ⟨rfl, hb2⟩
        obtain ⟨w3, hrun2, hm3, hk3, hs3⟩ := HP.out w2 (Hm1.out.below hb2 (Nat.lt_of_lt_of_le Hmp.out.lt Hbw.out.size))
        have Hb3 := hide ((Hb1.out.trans (hb2.mono Hb1.out.size)).trans (hk3.below (fun b hb => by omega) (Nat.le_trans Hb1.out.size hb2.size)))
        have Hm3 := hide hm3
        clear hb2 hm3 hk3 hs3
        go_wp2
        go_roundw
        case rel => exact ⟨i + 1, by go_num, by omega, HN.out, by rw [HM.out]; exact Hm3.out, Hb3.out⟩
        case measure => simp [intOf]; omega
    · obtain rfl : i = n := by omega
      have hi' : ¬ (i : Int) < (i : Int) := by omega
      have HV := hide (show decide ((xs.map childK).Nodup) = true from decide_eq_true (by
        have h := Hnd.out
        rw [List.take_of_length_le (Nat.le_of_eq Hn.out)] at h
        exact (nodup_iffH kvS_eq).1 h))
      go_wp2
      go_ret
      exact ⟨by rw [HV.out]; first | done | rfl, Hb.out⟩
set_option maxRecDepth 20000 in
set_option maxHeartbeats 4000000 in
theorem uniqueV_any (A : Option Addr) (cap : Nat) (xs : List Va) (w : World) (hs : VaS w A xs) (hl : xs.length ≤ 1000000) (hok : ∀ x ∈ xs, VaOk x) :
    Calls Try.prog 61 #[.slice A xs.length cap, .func (.func 62) #[] #[]] w fun e w' => e = .returned (.bool (decide ((xs.map entryK).Nodup))) ∧ Below w.heap.size w w' := by
  obtain ⟨n, hn⟩ : ∃ n, xs.length = n := ⟨_, rfl⟩
  rw [hn]
  have Hn := hide hn
  have Hs := hide hs
  have Hok := hide hok
  have hn6 : n ≤ 1000000 := by omega
  clear hs hok hl hn
  have hmm := @run_makeMap Try.prog
  go_enter Try.func61, Try.ntmps61
  go_wp2_with fail
  go_loopw [11] (fun v wr => ∃ i : Nat, v = .int .i64 (i : Int) ∧ i ≤ n ∧ ((xs.take i).map kvV).Nodup ∧ MpW wr w.heap.size (metH ((xs.take i).map kvV)) ∧ Below w.heap.size w wr) (fun v _ => n - (intOf v).toNat)
  case atStart => exact ⟨0, rfl, Nat.zero_le _, List.nodup_nil, MpW.made _, (Below.refl _ _).alloc (Nat.le_refl _) _⟩
  case round =>
    obtain ⟨i, rfl, hi, hnd, hmp, hb⟩ := hrel
    have Hb := hide hb
    have Hnd := hide hnd
    have Hmp := hide hmp
    clear hnd hmp hb
    by_cases hlt : i < n
    · have hi' : (i : Int) < (n : Int) := by omega
      have hi0 : (0 : Int) ≤ (i : Int) := by omega
      have hw1 : IntKind.i64.wrap ((i : Int) + 1) = (i : Int) + 1 := IntWalk.i64_in _ (by omega)
      have hix : i < xs.length := by rw [Hn.out]; exact hlt
      obtain ⟨b, off, rfl, hbz, hat⟩ := va_at Hs.out hix
      obtain ⟨c0, c1, c2, c3, c4, c5, c6⟩ := hat wr Hb.out
      have T := hide (fun W : World => check9_any xs[i] W)
      have hcall := fun W => enters (f := 62) (by kernel_rfl) #[vaV xs[i]] W
      obtain ⟨lx, hlx⟩ := keyEntry xs[i] (Hok.out _ (List.getElem_mem hix))
      have HK : Hid (∀ q ∈ metH ((xs.take i).map kvV), ∃ y, keyOf Try.prog 85 q.1 = some y) := hide (fun q hq => by
        obtain ⟨x, hx, he⟩ := List.mem_map.1 (metH_mem hq).1
        rw [← he]
        exact keyEntry x (Hok.out _ (List.mem_of_mem_take hx)))
      by_cases hin : kvV xs[i] ∈ (xs.take i).map kvV
      · have HV := hide (show decide ((xs.map entryK).Nodup) = false from decide_eq_false (by
          obtain ⟨x, hx, he⟩ := List.mem_map.1 hin
          obtain ⟨j, hj, rfl⟩ := List.mem_iff_getElem.1 hx
          rw [List.length_take] at hj
          rw [List.getElem_take] at he
          exact dup_no hix (show j < i by omega) (kvV_eq.1 he)))
        have HL := hide (fun W (hm : MpW W w.heap.size (metH ((xs.take i).map kvV))) => run_look_in keyedEntry Try.underlying99 hm HK.out (metH_nodup Hnd.out) hlx (v := .bool true) (List.mem_map.2 ⟨_, hin, rfl⟩) false)
        generalize xs[i]'hix = x at *
        unfold vaV at hcall T
        clear hat hin hlx HK
        go_wp2_with fail
        refine (T.out _).mono ?_
        rintro e w1 ⟨rfl, hb1⟩
        have Hbw := hide (((Below.refl wr.heap.size wr).alloc (Nat.le_refl _) _).trans (hb1.mono (by rw [World.size_alloc]; exact Nat.le_succ _)))
        have hm1 := Hmp.out.below Hbw.out Hmp.out.lt
        have Hb1 := hide (Hb.out.trans (Hbw.out.mono Hb.out.size))
        have hrun := HL.out w1 hm1
        simp only [Bool.false_eq_true, if_false] at hrun
        clear hb1 hm1
        go_wp2
        go_ret
        exact ⟨by rw [HV.out]; first | done | rfl, Hb1.out⟩
      · have HL := hide (fun W (hm : MpW W w.heap.size (metH ((xs.take i).map kvV))) => run_look_out keyedEntry Try.underlying99 hm HK.out hlx (fun p hp he => hin (he ▸ (metH_mem hp).1)) (zeroBoolH W) false)
        have HP := hide (fun W (hm : MpW W w.heap.size (metH ((xs.take i).map kvV))) => run_put_new keyedEntry Try.underlying99 hm HK.out hlx (fun p hp he => hin (he ▸ (metH_mem hp).1)) (.bool true))
        have HN := hide (show ((xs.take (i + 1)).map kvV).Nodup by
          rw [List.take_succ_eq_append_getElem hix, List.map_append]
          exact nodup_snoc Hnd.out hin)
        have HM : Hid (metH ((xs.take (i + 1)).map kvV) = metH ((xs.take i).map kvV) ++ [(kvV xs[i], .bool true)]) := hide (by
          rw [List.take_succ_eq_append_getElem hix, List.map_append]
          exact metH_snoc _ _)
        generalize xs[i]'hix = x at *
        unfold vaV at hcall T
        clear hat hin hlx HK
        go_wp2_with fail
        refine (T.out _).mono ?_
        rintro e w1 ⟨rfl, hb1⟩
        have Hbw := hide (((Below.refl wr.heap.size wr).alloc (Nat.le_refl _) _).trans (hb1.mono (by rw [World.size_alloc]; exact Nat.le_succ _)))
        have hr1 := hide ((Row.new wr 29 _).below hb1 (by rw [World.size_alloc]; exact Nat.lt_succ_self _))
        have d0 : w1.cell? ⟨wr.heap.size, 0, none⟩ = some (.string x.name) := hr1.out.cell 0
        have d1 : w1.cell? ⟨wr.heap.size, 1, none⟩ = some (.int .i64 x.typ) := hr1.out.cell 1
        have d2 : w1.cell? ⟨wr.heap.size, 2, none⟩ = some (.int .i64 x.scope) := hr1.out.cell 2
        have d3 : w1.cell? ⟨wr.heap.size, 3, none⟩ = some (.int .i64 x.signal) := hr1.out.cell 3
        have d4 : w1.cell? ⟨wr.heap.size, 4, none⟩ = some (.bool x.ranged) := hr1.out.cell 4
        have d5 : w1.cell? ⟨wr.heap.size, 5, none⟩ = some (.int .i64 x.msb) := hr1.out.cell 5
        have d6 : w1.cell? ⟨wr.heap.size, 6, none⟩ = some (.int .i64 x.lsb) := hr1.out.cell 6
        have Hm1 := hide (Hmp.out.below Hbw.out Hmp.out.lt)
        have Hb1 := hide (Hb.out.trans (Hbw.out.mono Hb.out.size))
        have hrun := HL.out w1 Hm1.out
        simp only [Bool.false_eq_true, if_false] at hrun
        clear hb1
        go_wp2_with fail
        refine (T.out _).mono ?_
        rintro e w2 ⟨rfl, hb2⟩
        obtain ⟨w3, hrun2, hm3, hk3, hs3⟩ := HP.out w2 (Hm1.out.below hb2 (Nat.lt_of_lt_of_le Hmp.out.lt Hbw.out.size))
        have Hb3 := hide ((Hb1.out.trans (hb2.mono Hb1.out.size)).trans (hk3.below (fun b hb => by omega) (Nat.le_trans Hb1.out.size hb2.size)))
        have Hm3 := hide hm3
        clear hb2 hm3 hk3 hs3
        go_wp2
        go_roundw
        case rel => exact ⟨i + 1, by go_num, by omega, HN.out, by rw [HM.out]; exact Hm3.out, Hb3.out⟩
        case measure => simp [intOf]; omega
    · obtain rfl : i = n := by omega
      have hi' : ¬ (i : Int) < (i : Int) := by omega
      have HV := hide (show decide ((xs.map entryK).Nodup) = true from decide_eq_true (by
        have h := Hnd.out
        rw [List.take_of_length_le (Nat.le_of_eq Hn.out)] at h
        exact (nodup_iffH kvV_eq).1 h))
      go_wp2
      go_ret
      exact ⟨by rw [HV.out]; first | done | rfl, Hb.out⟩
end Go.Proofs.Ytpfiofgchkfkhaa

/- Contract of check. -/
set_option linter.unusedVariables false
set_option linter.unusedSimpArgs false
namespace Go.Proofs.Ytpfiofgchkfkhaa
open Go.RowKit Go.Shelf
structure KeepF (w W : World) (g1 g2 : Nat) : Prop where
  b : Below w.heap.size w W
  c1 : W.cell? ⟨g1, 0, none⟩ = some (.func (.func 48) #[] #[])
  l1 : g1 < W.heap.size
  c2 : W.cell? ⟨g2, 0, none⟩ = some (.func (.func 50) #[] #[])
  l2 : g2 < W.heap.size
theorem KeepF.later {w W W' : World} {g1 g2 : Nat} (h : KeepF w W g1 g2) (hb : Below W.heap.size W W') : KeepF w W' g1 g2 :=
  ⟨h.b.trans (hb.mono h.b.size), (hb.cell (p := ⟨g1, 0, none⟩) h.l1).trans h.c1, Nat.lt_of_lt_of_le h.l1 hb.size, (hb.cell (p := ⟨g2, 0, none⟩) h.l2).trans h.c2, Nat.lt_of_lt_of_le h.l2 hb.size⟩
theorem upF_len (scs : List Sc) : ∀ (f : Nat) (i : Int), (upF scs f i).length ≤ f
  | 0, _ => Nat.le_refl _
  | f + 1, i => by
    unfold upF
    by_cases h : i < 0
    · rw [if_pos h]; exact Nat.zero_le _
    · rw [if_neg h, List.length_cons]; exact Nat.succ_le_succ (upF_len scs f _)
theorem check_few {scs : List Sc} {vs : List Va} (h : 32 < scs.length ∨ 128 < vs.length) : checkE scs vs = 9 := by unfold checkE; rw [if_pos h]
theorem check_decl {scs : List Sc} {vs : List Va} (h : ¬ (32 < scs.length ∨ 128 < vs.length)) (h1 : declB scs vs = false) : checkE scs vs = 1 := by unfold checkE; rw [if_neg h, if_pos h1]
theorem check_deep {scs : List Sc} {vs : List Va} (h : ¬ (32 < scs.length ∨ 128 < vs.length)) (h1 : declB scs vs = true) {i : Nat} (hi : i < scs.length) (h2 : 8 < (pathH scs (i : Int)).length) : checkE scs vs = 9 := by
  unfold checkE; rw [if_neg h, if_neg (by rw [h1]; decide), if_pos]
  unfold deepB
  rw [List.any_eq_true]
  exact ⟨i, List.mem_range.2 hi, decide_eq_true h2⟩
theorem check_rest {scs : List Sc} {vs : List Va} (h : ¬ (32 < scs.length ∨ 128 < vs.length)) (h1 : declB scs vs = true) (h2 : ∀ i, i < scs.length → ¬ 8 < (pathH scs (i : Int)).length) : checkE scs vs =
    if (scs.any badS || vs.any badN) = true then 4 else if ((scs.any fun x => badT x.typ 4) || (vs.any fun v => badT v.typ 18)) = true then 7 else if vs.any badR = true then 2 else if (!decide (scs.map childK).Nodup || !decide (vs.map entryK).Nodup) = true then 5 else 0 := by
  unfold checkE
  rw [if_neg h, if_neg (by rw [h1]; decide), if_neg]
  · have e : (¬ (scs.map childK).Nodup ∨ ¬ (vs.map entryK).Nodup) = ((!decide (scs.map childK).Nodup || !decide (vs.map entryK).Nodup) = true) := by simp
    simp only [e]
  · unfold deepB
    rw [List.any_eq_true]
    rintro ⟨i, hi, h3⟩
    exact h2 i (List.mem_range.1 hi) (of_decide_eq_true h3)
set_option maxRecDepth 20000 in
set_option maxHeartbeats 8000000 in
theorem check_any (scs : List Sc) (vs : List Va) (A A' : Option Addr) (cap cap' : Nat) (w : World) (hs : ScS w A scs) (hv : VaS w A' vs) (hl : scs.length ≤ 1000000) (hl' : vs.length ≤ 1000000)
    (hok : ∀ x ∈ scs, ScOk x) (hok' : ∀ v ∈ vs, VaOk v) (hz : ∀ x ∈ scs, x.name.size ≤ 1000000) (hz' : ∀ v ∈ vs, v.name.size ≤ 1000000) :
    Calls Try.prog 26 #[.slice A scs.length cap, .slice A' vs.length cap'] w fun e w' => e = .returned (.int .i64 (checkE scs vs)) ∧ Below w.heap.size w w' := by
  have DE := hide (fun W (hb : Below w.heap.size w W) => declared_any A A' cap cap' scs vs W (sc_below hs hb) (va_below hv hb) hl hl')
  have hF1 := @check_few scs vs
  have hF2 := @check_decl scs vs
  have hF3 := @check_deep scs vs
  have hF4 := @check_rest scs vs
  obtain ⟨n, hn⟩ : ∃ n, scs.length = n := ⟨_, rfl⟩
  obtain ⟨m, hm⟩ : ∃ m, vs.length = m := ⟨_, rfl⟩
  obtain ⟨E, hE⟩ : ∃ E, checkE scs vs = E := ⟨_, rfl⟩
  obtain ⟨d, hd⟩ : ∃ d, declB scs vs = d := ⟨_, rfl⟩
  rw [hE] at hF1 hF2 hF3 hF4 ⊢
  rw [hd] at hF2 hF3 hF4 DE
  rw [hn, hm] at hF1 hF2 hF3 hF4 DE
  have Hn := hide hn
  have Hm := hide hm
  have Hs := hide hs
  have Hv := hide hv
  have Hok := hide hok
  have Hok' := hide hok'
  have Hz := hide hz
  have Hz' := hide hz'
  have HF1 := hide hF1
  have HF2 := hide hF2
  have HF3 := hide hF3
  have HF4 := hide hF4
  have Hd := hide hd
  rw [hn] at hl ⊢
  rw [hm] at hl' ⊢
  clear hn hm hs hv hok hok' hz hz' hF1 hF2 hF3 hF4 hd hE
  by_cases h1 : 32 < n
  · have HV := hide (HF1.out (.inl h1))
    have h1' : (32 : Int) < (n : Int) := by omega
    go_enter Try.func26, Try.ntmps26
    go_wp2
    go_ret
    exact ⟨by rw [HV.out]; first | done | rfl, Below.refl _ _⟩
  have h1' : ¬ (32 : Int) < (n : Int) := by omega
  by_cases h2 : 128 < m
  · have HV := hide (HF1.out (.inr h2))
    have h2' : (128 : Int) < (m : Int) := by omega
    go_enter Try.func26, Try.ntmps26
    go_wp2
    go_ret
    exact ⟨by rw [HV.out]; first | done | rfl, Below.refl _ _⟩
  have h2' : ¬ (128 : Int) < (m : Int) := by omega
  have H12 : Hid (¬ (32 < n ∨ 128 < m)) := hide (by omega)
  cases d with
  | false =>
    have HV := hide (HF2.out H12.out rfl)
    go_enter Try.func26, Try.ntmps26
    go_wp2_with fail
    refine (DE.out _ (Below.refl _ _)).mono ?_
    rintro e w1 ⟨rfl, hb1⟩
    have Hb1 := hide hb1
    clear hb1
    go_wp2
    go_ret
    exact ⟨by rw [HV.out]; first | done | rfl, Hb1.out⟩
  | true =>
    have HD : Hid (DeclS scs) := hide (by
      have h := Hd.out
      unfold declB at h
      rw [Bool.and_eq_true, decide_eq_true_eq] at h
      exact h.1)
    go_enter Try.func26, Try.ntmps26
    go_wp2_with fail
    refine (DE.out _ (Below.refl _ _)).mono ?_
    rintro e w1 ⟨rfl, hb1⟩
    have Hb1 := hide hb1
    clear hb1
    go_wp2_with fail
    go_loopw [23] (fun v wr => ∃ i : Nat, v = .int .i64 (i : Int) ∧ i ≤ n ∧ (∀ j, j < i → ¬ 8 < (pathH scs (j : Int)).length) ∧ Below w.heap.size w wr) (fun v _ => n - (intOf v).toNat)
    case atStart => exact ⟨0, rfl, Nat.zero_le _, (fun j h => absurd h (by omega)), Hb1.out⟩
    case round =>
      obtain ⟨i, rfl, hi, hall, hb⟩ := hrel
      have Hb := hide hb
      have Hall := hide hall
      clear hall hb
      by_cases hlt : i < n
      · have hi' : (i : Int) < (n : Int) := by omega
        have hi0 : (0 : Int) ≤ (i : Int) := by omega
        have hw1 : IntKind.i64.wrap ((i : Int) + 1) = (i : Int) + 1 := IntWalk.i64_in _ (by omega)
        have hix : i < scs.length := by rw [Hn.out]; exact hlt
        have PA := hide (path_any scs A cap (i : Int) wr (by rw [Hn.out]; omega) HD.out (by rw [Hn.out]; exact hi') (by omega) (sc_below Hs.out Hb.out) (by
          obtain ⟨b, off, rfl, hbz, _⟩ := sc_at Hs.out hix
          intro a ha
          cases ha
          exact Nat.lt_of_lt_of_le hbz Hb.out.size))
        have PA2 := PA.out
        rw [Hn.out] at PA2
        have PA3 := hide PA2
        clear PA PA2
        have HX := hide (fun h => HF3.out H12.out trivial (i := i) hlt h)
        have HA2 := hide (fun (h : ¬ 8 < (pathH scs (i : Int)).length) (j : Nat) (hj : j < i + 1) => show ¬ 8 < (pathH scs (j : Int)).length from by
          rcases Nat.lt_or_ge j i with h1 | h1
          · exact Hall.out j h1
          · obtain rfl : j = i := by omega
            exact h)
        have hpl : (pathH scs (i : Int)).length ≤ 1000000 := by
          rw [pathH_len]
          exact Nat.le_trans (upF_len scs _ _) (by omega)
        generalize pathH scs (i : Int) = pa at *
        go_wp2_with fail
        refine PA3.out.mono ?_
        rintro e w2 ⟨v, rfl, ho2, hb2⟩
        obtain ⟨A2, cap2, rfl⟩ := ownH_sl ho2
        have Hb2 := hide (Hb.out.trans (hb2.mono Hb.out.size))
        clear ho2 hb2 PA3
        by_cases hp : 8 < pa.length
        · have hp' : (8 : Int) < (pa.length : Int) := by omega
          have HV := hide (HX.out hp)
          go_wp2
          go_ret
          exact ⟨by rw [HV.out]; first | done | rfl, Hb2.out⟩
        · have hp' : ¬ (8 : Int) < (pa.length : Int) := by omega
          have HA3 := hide (HA2.out hp)
          clear HX HA2
          go_wp2
          go_roundw
          case rel => exact ⟨i + 1, by go_num, by omega, HA3.out, Hb2.out⟩
          case measure => simp [intOf]; omega
      · obtain rfl : i = n := by omega
        have hi' : ¬ (i : Int) < (i : Int) := by omega
        have HR := hide (HF4.out H12.out trivial Hall.out)
        have C1 := hide (fun W (hb : Below w.heap.size w W) (g : Nat) (hg : W.cell? ⟨g, 0, none⟩ = some (.func (.func 48) #[] #[])) (hgl : g < W.heap.size) =>
          ContainsFuncS_any A cap scs 54 #[.pointer (some ⟨g, 0, none⟩)] badS W (sc_below Hs.out hb) (by rw [Hn.out]; omega) ⟨fun x hx W2 hW2 => check4_any x g W2 (Hz.out x hx) ((hW2.cell (p := ⟨g, 0, none⟩) hgl).trans hg) (Nat.lt_of_lt_of_le hgl hW2.size), fun W2 x => enters (by kernel_rfl) _ W2⟩)
        have C2 := hide (fun W (hb : Below w.heap.size w W) (g : Nat) (hg : W.cell? ⟨g, 0, none⟩ = some (.func (.func 48) #[] #[])) (hgl : g < W.heap.size) =>
          ContainsFuncV_any A' cap' vs 56 #[.pointer (some ⟨g, 0, none⟩)] badN W (va_below Hv.out hb) (by rw [Hm.out]; omega) ⟨fun x hx W2 hW2 => check5_any x g W2 (Hz'.out x hx) ((hW2.cell (p := ⟨g, 0, none⟩) hgl).trans hg) (Nat.lt_of_lt_of_le hgl hW2.size), fun W2 x => enters (by kernel_rfl) _ W2⟩)
        have C3 := hide (fun W (hb : Below w.heap.size w W) (g : Nat) (hg : W.cell? ⟨g, 0, none⟩ = some (.func (.func 50) #[] #[])) (hgl : g < W.heap.size) =>
          ContainsFuncS_any A cap scs 57 #[.pointer (some ⟨g, 0, none⟩)] (fun x => badT x.typ 4) W (sc_below Hs.out hb) (by rw [Hn.out]; omega) ⟨fun x hx W2 hW2 => check6_any x g W2 ((hW2.cell (p := ⟨g, 0, none⟩) hgl).trans hg) (Nat.lt_of_lt_of_le hgl hW2.size), fun W2 x => enters (by kernel_rfl) _ W2⟩)
        have C4 := hide (fun W (hb : Below w.heap.size w W) (g : Nat) (hg : W.cell? ⟨g, 0, none⟩ = some (.func (.func 50) #[] #[])) (hgl : g < W.heap.size) =>
          ContainsFuncV_any A' cap' vs 58 #[.pointer (some ⟨g, 0, none⟩)] (fun v => badT v.typ 18) W (va_below Hv.out hb) (by rw [Hm.out]; omega) ⟨fun x hx W2 hW2 => check7_any x g W2 ((hW2.cell (p := ⟨g, 0, none⟩) hgl).trans hg) (Nat.lt_of_lt_of_le hgl hW2.size), fun W2 x => enters (by kernel_rfl) _ W2⟩)
        have C5 := hide (fun W (hb : Below w.heap.size w W) =>
          ContainsFuncV_any A' cap' vs 51 #[] badR W (va_below Hv.out hb) (by rw [Hm.out]; omega) ⟨fun x hx W2 hW2 => check3_any x W2, fun W2 x => enters (by kernel_rfl) _ W2⟩)
        have C6 := hide (fun W (hb : Below w.heap.size w W) => uniqueS_any A cap scs W (sc_below Hs.out hb) (by rw [Hn.out]; omega) Hok.out)
        have C7 := hide (fun W (hb : Below w.heap.size w W) => uniqueV_any A' cap' vs W (va_below Hv.out hb) (by rw [Hm.out]; omega) Hok'.out)
        have C1' := C1.out
        have C2' := C2.out
        have C3' := C3.out
        have C4' := C4.out
        have C5' := C5.out
        have C6' := C6.out
        have C7' := C7.out
        have hR := HR.out
        generalize scs.any badS = b1 at *
        generalize vs.any badN = b2 at *
        generalize (scs.any fun x => badT x.typ 4) = b3 at *
        generalize (vs.any fun v => badT v.typ 18) = b4 at *
        generalize vs.any badR = b5 at *
        generalize decide (scs.map childK).Nodup = b6 at *
        generalize decide (vs.map entryK).Nodup = b7 at *
        rw [Hn.out] at C1' C3' C6'
        rw [Hm.out] at C2' C4' C5' C7'
        have D1 := hide C1'
        have D2 := hide C2'
        have D3 := hide C3'
        have D4 := hide C4'
        have D5 := hide C5'
        have D6 := hide C6'
        have D7 := hide C7'
        have HE := hide hR
        clear hR C1 C2 C3 C4 C5 C6 C7 C1' C2' C3' C4' C5' C6' C7' HR DE HF1 HF2 HF3 HF4 Hd Hall Hs Hv Hz Hz' Hok Hok' HD Hn Hm
        go_wp2_with fail
        have K0 : Hid (KeepF w ((wr.alloc (.cells #[.func (.func 48) #[] #[]] 74)).alloc (.cells #[.func (.func 50) #[] #[]] 73)) wr.heap.size (wr.heap.size + 1)) := hide ⟨((Hb.out).alloc Hb.out.size _).alloc (by rw [World.size_alloc]; exact Nat.le_succ_of_le Hb.out.size) _, ((Row.new wr _ _).alloc _).cell 0, by rw [World.size_alloc, World.size_alloc]; omega, by rw [← World.size_alloc wr _]; exact (Row.new _ _ _).cell 0, by rw [World.size_alloc, World.size_alloc]; omega⟩
        refine (D1.out _ K0.out.b _ K0.out.c1 K0.out.l1).mono ?_
        rintro e v1 ⟨rfl, hb⟩
        have K1 := hide (K0.out.later hb)
        clear hb
        cases b1 with
        | true =>
          have HV := hide (show E = 4 by have h := HE.out; simpa using h)
          go_wp2
          go_ret
          exact ⟨by rw [HV.out]; first | done | rfl, K1.out.b⟩
        | false =>
          go_wp2_with fail
          refine (D2.out _ K1.out.b _ K1.out.c1 K1.out.l1).mono ?_
          rintro e v2 ⟨rfl, hb⟩
          have K2 := hide (K1.out.later hb)
          clear hb
          cases b2 with
          | true =>
            have HV := hide (show E = 4 by have h := HE.out; simpa using h)
            go_wp2
            go_ret
            exact ⟨by rw [HV.out]; first | done | rfl, K2.out.b⟩
          | false =>
            go_wp2_with fail
            refine (D3.out _ K2.out.b _ K2.out.c2 K2.out.l2).mono ?_
            rintro e v3 ⟨rfl, hb⟩
            have K3 := hide (K2.out.later hb)
            clear hb
            cases b3 with
            | true =>
              have HV := hide (show E = 7 by have h := HE.out; simpa using h)
              go_wp2
              go_ret
              exact ⟨by rw [HV.out]; first | done | rfl, K3.out.b⟩
            | false =>
              go_wp2_with fail
              refine (D4.out _ K3.out.b _ K3.out.c2 K3.out.l2).mono ?_
              rintro e v4 ⟨rfl, hb⟩
              have K4 := hide (K3.out.later hb)
              clear hb
              cases b4 with
              | true =>
                have HV := hide (show E = 7 by have h := HE.out; simpa using h)
                go_wp2
                go_ret
                exact ⟨by rw [HV.out]; first | done | rfl, K4.out.b⟩
              | false =>
                go_wp2_with fail
                refine (D5.out _ K4.out.b).mono ?_
                rintro e v5 ⟨rfl, hb⟩
                have K5 := hide (K4.out.later hb)
                clear hb
                cases b5 with
                | true =>
                  have HV := hide (show E = 2 by have h := HE.out; simpa using h)
                  go_wp2
                  go_ret
                  exact ⟨by rw [HV.out]; first | done | rfl, K5.out.b⟩
                | false =>
                  go_wp2_with fail
                  refine (D6.out _ K5.out.b).mono ?_
                  rintro e v6 ⟨rfl, hb⟩
                  have K6 := hide (K5.out.later hb)
                  clear hb
                  cases b6 with
                  | false =>
                    have HV := hide (show E = 5 by have h := HE.out; simpa using h)
                    go_wp2
                    go_ret
                    exact ⟨by rw [HV.out]; first | done | rfl, K6.out.b⟩
                  | true =>
                    go_wp2_with fail
                    refine (D7.out _ K6.out.b).mono ?_
                    rintro e v7 ⟨rfl, hb⟩
                    have K7 := hide (K6.out.later hb)
                    clear hb
                    cases b7 with
                    | false =>
                      have HV := hide (show E = 5 by have h := HE.out; simpa using h)
                      go_wp2
                      go_ret
                      exact ⟨by rw [HV.out]; first | done | rfl, K7.out.b⟩
                    | true =>
                      have HV := hide (show E = 0 by have h := HE.out; simpa using h)
                      go_wp2
                      go_ret
                      exact ⟨by rw [HV.out]; first | done | rfl, K7.out.b⟩
end Go.Proofs.Ytpfiofgchkfkhaa

/- The walk in preorder: plain, and the contracts of walk and preorder. -/
set_option linter.unusedVariables false
set_option linter.unusedSimpArgs false
namespace Go.Proofs.Ytpfiofgchkfkhaa
open Go.RowKit Go.Shelf
attribute [local go_sem] Oper.semAt_some
/-- the children of p from index i on, each with what is below it -/
def preG (scs : List Sc) (g : Int → List Nat) (p : Int) : Nat → Nat → List Nat
  | 0, _ => []
  | m + 1, i => (if (scH scs i).parent = p then i :: g (i : Int) else []) ++ preG scs g p m (i + 1)
theorem preG_flat (scs : List Sc) (g : Int → List Nat) (p : Int) : ∀ (m i : Nat), (List.range' i m).flatMap (fun j => if (scH scs j).parent = p then j :: g (j : Int) else []) = preG scs g p m i
  | 0, _ => rfl
  | m + 1, i => by rw [List.range'_succ, List.flatMap_cons, preG_flat scs g p m (i + 1)]; rfl
theorem preG_congr {scs : List Sc} {g g' : Int → List Nat} {p : Int} : ∀ (m i : Nat), (∀ j, i ≤ j → j < i + m → (scH scs j).parent = p → g (j : Int) = g' (j : Int)) → preG scs g p m i = preG scs g' p m i
  | 0, _, _ => rfl
  | m + 1, i, h => by
    unfold preG
    rw [preG_congr m (i + 1) (fun j h1 h2 => h j (by omega) (by omega))]
    by_cases hp : (scH scs i).parent = p
    · rw [if_pos hp, if_pos hp, h i (Nat.le_refl _) (by omega) hp]
    · rw [if_neg hp, if_neg hp]
theorem preG_skip {scs : List Sc} {g : Int → List Nat} {p : Int} : ∀ (d m i : Nat), (∀ j, i ≤ j → j < i + d → (scH scs j).parent ≠ p) → preG scs g p (d + m) i = preG scs g p m (i + d)
  | 0, m, i, _ => by rw [Nat.zero_add, Nat.add_zero]
  | d + 1, m, i, h => by
    rw [show d + 1 + m = (d + m) + 1 by omega]
    conv => lhs; unfold preG
    rw [if_neg (h i (Nat.le_refl _) (by omega)), List.nil_append, preG_skip d m (i + 1) (fun j h1 h2 => h j (by omega) (by omega)), show i + 1 + d = i + (d + 1) by omega]
theorem preF_fuel {scs : List Sc} (hd : DeclS scs) : ∀ (f g : Nat) (p : Int), scs.length + 1 ≤ f + (p + 1).toNat → scs.length + 1 ≤ g + (p + 1).toNat → preF scs f p = preF scs g p := by
  have none : ∀ (g : Nat) (p : Int), scs.length ≤ p.toNat → 0 ≤ p → preF scs g p = [] := by
    intro g p h1 h2
    cases g with
    | zero => rfl
    | succ g =>
      unfold preF
      rw [List.flatMap_eq_nil_iff]
      intro i hi
      have hi' := List.mem_range.1 hi
      have := hd i hi'
      rw [if_neg (by omega)]
  intro f
  induction f with
  | zero =>
    intro g p h1 h2
    rw [none g p (by omega) (by omega)]; rfl
  | succ f ih =>
    intro g p h1 h2
    cases g with
    | zero => rw [none (f + 1) p (by omega) (by omega)]; rfl
    | succ g =>
      unfold preF
      rw [List.range_eq_range', preG_flat, preG_flat]
      refine preG_congr _ _ fun j h3 h4 hp => ?_
      have hj : j < scs.length := by omega
      have := hd j hj
      exact ih g _ (by omega) (by omega)
/-- the children of p from index i on, in preorder -/
def preL (scs : List Sc) (p : Int) (i : Nat) : List Nat := preG scs (preT scs) p (scs.length - i) i
theorem preL_end (scs : List Sc) (p : Int) {i : Nat} (h : scs.length ≤ i) : preL scs p i = [] := by unfold preL; rw [show scs.length - i = 0 by omega]; rfl
theorem preL_step (scs : List Sc) (p : Int) {i : Nat} (h : i < scs.length) : preL scs p i = (if (scH scs i).parent = p then i :: preT scs (i : Int) else []) ++ preL scs p (i + 1) := by
  unfold preL
  rw [show scs.length - i = (scs.length - (i + 1)) + 1 by omega]
  rfl
theorem preT_L {scs : List Sc} (hd : DeclS scs) {p : Int} (hp : -1 ≤ p) (hp2 : p < scs.length) : preT scs p = preL scs p (max p 0).toNat := by
  unfold preT preL
  obtain ⟨f, hf⟩ : ∃ f, scs.length + 1 - (p + 1).toNat = f + 1 := ⟨scs.length - (p + 1).toNat, by omega⟩
  rw [hf]
  conv => lhs; unfold preF
  rw [List.range_eq_range', preG_flat]
  have e : scs.length = (max p 0).toNat + (scs.length - (max p 0).toNat) := by omega
  conv => lhs; rw [e]
  rw [preG_skip _ _ _ (fun j _ h2 => by have := hd j (by omega); omega), Nat.zero_add]
  refine preG_congr _ _ fun j h3 h4 hp' => ?_
  unfold preT
  have := hd j (by omega)
  exact preF_fuel hd _ _ _ (by omega) (by omega)
theorem undef_bool {b : Bool} (h : some undef = some (Value.bool b)) : False := by unfold undef at h; cases h
theorem sc_kept2 {W W' : World} {A : Option Addr} {scs : List Sc} {C : Nat → Prop} (h : ScS W A scs) (hk : Keeps C W W') (hC : ∀ a, A = some a → ¬ C a.block) : ScS W' A scs := by
  intro hp
  obtain ⟨b, off, rfl, hat⟩ := h hp
  have hbz : b < W.heap.size := World.block_lt_of_cell? W _ (hat 0 hp 0 (by decide))
  exact ⟨b, off, rfl, fun i hi j hj => (hk.cell (p := ⟨b, off + i * 3 + j, none⟩) hbz (show ¬ C b from hC ⟨b, off, none⟩ rfl)).trans (hat i hi j hj)⟩
set_option maxHeartbeats 4000000 in
set_option maxRecDepth 20000 in
theorem walk_any (scs : List Sc) (A : Option Addr) (cap : Nat) (xs : List Nat) (lp : Nat) (J Jx : Nat → (Nat → Prop) → World → Prop) (hl : scs.length ≤ 1000000) (hd : DeclS scs)
    (hY : ∀ k x C1 W1, xs[k]? = some x → J k C1 W1 → Laid C1 W1 → RoundAt Try.prog lp (fun x : Nat => #[.int .i64 (x : Int)]) J Jx k x C1 W1) :
    ∀ (f : Nat) (p : Int), -1 ≤ p → p < scs.length → scs.length + 1 ≤ f + (p + 1).toNat → ∀ (C : Nat → Prop) (W : World) (k : Nat) (rest : List Nat), ScS W A scs → (∀ a, A = some a → ¬ C a.block) → Laid C W → xs.drop k = preT scs p ++ rest → J k C W → 
      CallsIn Fence.wide 0 Try.prog 64 #[.slice A scs.length cap, .int .i64 p, .func (.yield lp) #[] #[]] W fun e W' => ∃ C', Keeps C W W' ∧ Grew C W C' W' ∧ ((e = .returned (.bool true) ∧ J (k + (preT scs p).length) C' W') ∨ (e = .returned (.bool false) ∧ ∃ k', k' ≤ xs.length ∧ Jx k' C' W')) := by
  intro f
  induction f with
  | zero => intro p h1 h2 h3; omega
  | succ f ih =>
    intro p hp1 hp2 hf C W k rest hs hA hC hdr hj
    obtain ⟨n, hn⟩ : ∃ n, scs.length = n := ⟨_, rfl⟩
    have hT := preT_L hd hp1 hp2
    have Hn := hide hn
    have HT := hide hT
    have IH := hide ih
    have HY := hide hY
    have HC := hide hC
    have HA := hide hA
    have Hs := hide hs
    have Hdr := hide hdr
    have Hj := hide hj
    have Hd := hide hd
    rw [hn] at hp2 hf hl ⊢
    clear hn hT ih hY hC hA hs hdr hj hd
    refine callsIn_of_wp Try.func64 rfl trivial ?_
    simp only [Try.ntmps64, List.size_toArray, List.length_cons, List.length_nil, Nat.reduceAdd, Nat.reduceSub, Array.replicate_succ, Array.replicate_zero, List.push_toArray, List.append_toArray, List.nil_append, List.cons_append]
    gi_wp2_with fail
    gi_loopw [7] (fun v wr => ∃ (i k1 : Nat) (C1 : Nat → Prop), v = .int .i64 (i : Int) ∧ (max p 0).toNat ≤ i ∧ i ≤ n ∧ xs.drop k1 = preL scs p i ++ rest ∧ k1 + (preL scs p i).length = k + (preT scs p).length ∧ J k1 C1 wr ∧ Keeps C W wr ∧ Grew C W C1 wr) (fun v _ => n - (intOf v).toNat)
    case atStart =>
      refine ⟨(max p 0).toNat, k, C, ?_, Nat.le_refl _, by omega, ?_, ?_, Hj.out, Keeps.refl _ _, HC.out.grew⟩
      · exact congrArg (Value.int .i64) (by omega)
      · rw [← HT.out]; exact Hdr.out
      · rw [← HT.out]
    case round =>
      obtain ⟨i, k1, C1, rfl, hi0, hi, hdr, hlen, hj, hkp, hgr⟩ := hrel
      by_cases hlt : i < n
      · have hi' : (i : Int) < (n : Int) := by omega
        have hi00 : (0 : Int) ≤ (i : Int) := by omega
        have hw1 : IntKind.i64.wrap ((i : Int) + 1) = (i : Int) + 1 := IntWalk.i64_in _ (by omega)
        have hix : i < scs.length := by rw [Hn.out]; exact hlt
        have hst := preL_step scs p hix
        have hxe := scH_at hix
        rw [hst] at hdr hlen
        have hsr : ScS wr A scs := sc_kept2 Hs.out hkp HA.out
        obtain ⟨b, off, rfl, hbz, hat⟩ := sc_at hsr hix
        obtain ⟨c0, c1, c2⟩ := hat wr (Below.refl _ _)
        have Hat := hide hat
        have Hsr := hide hsr
        have Hkp := hide hkp
        have Hgr := hide hgr
        have hAb : ¬ C b := HA.out _ rfl
        have hbW : b < W.heap.size := by
          obtain ⟨b2, o2, e2, hz2, _⟩ := sc_at Hs.out hix
          cases e2; exact hz2
        have hAb1 : ¬ C1 b := fun e => (hgr b e).1.elim hAb (by omega)
        have HAb1 := hide hAb1
        obtain ⟨x, hx⟩ : ∃ x, scs[i]'hix = x := ⟨_, rfl⟩
        rw [hx] at c0 c1 c2
        rw [hxe, hx] at hdr hlen
        have hpar := (Hd.out i hix).2
        rw [hxe, hx] at hpar
        clear hat hsr hst hx hxe hkp hgr hAb hAb1
        obtain ⟨nm, ty, pa⟩ := x
        simp only at c0 c1 c2 hdr hlen hpar
        by_cases hpa : pa = p
        · subst hpa
          rw [if_pos rfl] at hdr hlen
          rw [List.cons_append, List.cons_append, List.append_assoc] at hdr
          simp only [List.cons_append, List.length_cons, List.length_append] at hlen
          obtain ⟨d1, d2, d3⟩ := drop_consH hdr
          have D2 := hide d2
          have D3 := hide d3
          have Hlen := hide hlen
          obtain ⟨fn, tmps, assign, body, hy, hR⟩ := HY.out k1 i C1 wr d1 hj (fun b hb => (Hgr.out b hb).2)
          have HR := hide hR
          simp only at hy
          clear hR hdr hlen d1 d2 d3 hj
          gi_wp2_with fail
          refine HR.out.mono ?_
          rintro e W6 ⟨C6, hk6, hg6, hj6⟩
          have HK6 := hide (Hkp.out.trans_grew hk6 Hgr.out)
          have HG6 := hide (Hgr.out.trans hg6 Hkp.out.size)
          have HS6 := hide (sc_kept2 Hsr.out hk6 (fun a ha => by cases ha; exact HAb1.out))
          have HN6 := hide (show ¬ C6 b from fun e => (hg6 b e).1.elim HAb1.out (by omega))
          have HL6 := hide hg6.laid
          clear hk6 hg6 hy
          rcases hj6 with ⟨rfl, hj6⟩ | ⟨rfl, hj6⟩
          · have II := hide (IH.out (i : Int) (by omega) (by rw [Hn.out]; exact hi') (by rw [Hn.out]; omega) C6 W6 (k1 + 1) (preL scs pa (i + 1) ++ rest) HS6.out (fun a ha => by cases ha; exact HN6.out) HL6.out D2.out hj6)
            have II2 := II.out
            rw [Hn.out] at II2
            have II3 := hide II2
            clear II II2 hj6
            gi_wp2_with fail
            refine II3.out.mono ?_
            rintro e W7 ⟨C7, hk7, hg7, hj7⟩
            have HK7 := hide (HK6.out.trans_grew hk7 HG6.out)
            have HG7 := hide (HG6.out.trans hg7 HK6.out.size)
            clear hk7 hg7
            rcases hj7 with ⟨rfl, hj7⟩ | ⟨rfl, k', hk', hj7⟩
            · have Hj7 := hide hj7
              clear hj7
              gi_wp2
              go_roundw
              case rel =>
                refine ⟨i + 1, k1 + 1 + (preT scs (i : Int)).length, C7, by go_num, by omega, by omega, ?_, ?_, Hj7.out, HK7.out, HG7.out⟩
                · have h := congrArg (List.drop (preT scs (i : Int)).length) D2.out
                  rw [List.drop_drop, List.drop_left] at h
                  rw [← h]
                · have := Hlen.out; omega
              case measure => simp [intOf]; omega
            · have Hj7 := hide (show ∃ k', k' ≤ xs.length ∧ Jx k' C7 W7 from ⟨k', hk', hj7⟩)
              clear hj7 hk'
              gi_wp2
              go_ret
              exact ⟨C7, HK7.out, HG7.out, .inr ⟨rfl, Hj7.out⟩⟩
          · have Hj6 := hide hj6
            clear hj6
            gi_wp2
            go_ret
            exact ⟨C6, HK6.out, HG6.out, .inr ⟨rfl, k1 + 1, by have := D3.out; omega, Hj6.out⟩⟩
        · rw [if_neg hpa, List.nil_append] at hdr
          rw [if_neg hpa] at hlen
          have Hdr1 := hide hdr
          have Hlen := hide (show k1 + (preL scs p (i + 1)).length = k + (preT scs p).length by simpa using hlen)
          have Hj1 := hide hj
          have e1 : (pa == p) = false := beq_eq_false_iff_ne.2 hpa
          clear hdr hlen hj
          gi_wp2_with fail
          any_goals first | (rename_i hu hb; exact (undef_bool hu).elim) | skip
          go_roundw
          case rel => exact ⟨i + 1, k1, C1, by go_num, by omega, by omega, Hdr1.out, Hlen.out, Hj1.out, Hkp.out, Hgr.out⟩
          case measure => simp [intOf]; omega
      · obtain rfl : i = n := by omega
        have hi' : ¬ (i : Int) < (i : Int) := by omega
        have HJE := hide (show J (k + (preT scs p).length) C1 wr by
          rw [preL_end scs p (Nat.le_of_eq Hn.out)] at hlen
          rw [← hlen]; simpa using hj)
        have Hkp := hide hkp
        have Hgr := hide hgr
        clear hdr hlen hj hkp hgr
        gi_wp2
        go_ret
        exact ⟨Hkp.out, C1, Hgr.out, .inl ⟨rfl, HJE.out⟩⟩
theorem preorder_any (A : Option Addr) (n cap : Nat) (i : Int) (w : World) :
    Calls Try.prog 27 #[.slice A n cap, .int .i64 i] w fun e w' => e = .returned (.func (.func 63) #[] #[.pointer (some ⟨w.heap.size, 0, none⟩), .pointer (some ⟨w.heap.size + 1, 0, none⟩)]) ∧ (w.alloc (.cells #[.slice A n cap] 22)).alloc (.cells #[.int .i64 i] 3) = w' := by
  have hmf : ∀ (fn : Fn) (first cap : Array Value) (w : World), (Instr.makeFunc fn first cap).run Try.prog w = .ok (.func fn first cap) w := fun _ _ _ _ => rfl
  go_enter Try.func27, Try.ntmps27
  go_wp2
  go_ret
  exact ⟨rfl, rfl⟩
/-- the blocks that preorder's iterator reads -/
def ReadP (A : Option Addr) (bs bi b : Nat) : Prop := b = bi ∨ ReadS A bs b
set_option maxHeartbeats 4000000 in
theorem pre_iter (scs : List Sc) (A : Option Addr) (cap : Nat) (p : Int) (bi bs : Nat) (w : World) (hl : scs.length ≤ 1000000) (hd : DeclS scs) (hp1 : -1 ≤ p) (hp2 : p < scs.length)
    (hbi : Row w bi 3 #[.int .i64 p]) (hbs : Row w bs 22 #[.slice A scs.length cap]) (hs : ScS w A scs) :
    IterO Try.prog 63 #[.pointer (some ⟨bs, 0, none⟩), .pointer (some ⟨bi, 0, none⟩)] (fun x : Nat => #[.int .i64 (x : Int)]) (preT scs p) (ReadP A bs bi) (fun _ => False) w := by
  intro lp J Jx C0 W hR hRC hOC hC hRl hOl hJ hJx hY h0
  have hbiW : Row W bi 3 #[.int .i64 p] := (hR.block bi (.inl (.inl rfl))).trans hbi
  have hbsW : Row W bs 22 #[.slice A scs.length cap] := (hR.block bs (.inl (.inr (.inl rfl)))).trans hbs
  have hsW : ScS W A scs := sc_same (bs := bs) hs hR (fun b hb => .inl (.inr hb))
  have hW := hide (walk_any scs A cap (preT scs p) lp J Jx hl hd hY (scs.length + 1) p hp1 hp2 (by omega) C0 W 0 [] hsW (fun a ha => hRC _ (.inr (.inr ⟨a, ha, rfl⟩))) hC (by simp) h0)
  have hcs : W.cell? ⟨bs, 0, none⟩ = some (.slice A scs.length cap) := hbsW.cell 0
  have hci : W.cell? ⟨bi, 0, none⟩ = some (.int .i64 p) := hbiW.cell 0
  generalize hn : scs.length = n at *
  clear hR hRC hOC hC hRl hOl hJ hJx hY h0 hbiW hbsW hsW hbi hbs hs hd hn
  refine callsIn_of_wp Try.func63 rfl trivial ?_
  simp only [Try.ntmps63, List.size_toArray, List.length_cons, List.length_nil, Nat.reduceAdd, Nat.reduceSub, Array.replicate_succ, Array.replicate_zero, List.push_toArray, List.append_toArray, List.nil_append, List.cons_append]
  gi_wp2_with fail
  refine hW.out.mono ?_
  rintro e W1 ⟨C1, hk1, hg1, hj1⟩
  have Hk1 := hide (hk1.mono (C' := fun b => C0 b ∨ False) (fun b h => .inl h))
  have Hg1 := hide hg1
  clear hk1 hg1
  rcases hj1 with ⟨rfl, hj1⟩ | ⟨rfl, k', hk', hj1⟩
  · have Hj1 := hide hj1
    clear hj1
    gi_wp2
    go_end0
    exact ⟨⟨_, rfl⟩, C1, Hk1.out, Hg1.out, .inl (by have := Hj1.out; rwa [Nat.zero_add] at this)⟩
  · have Hj1 := hide (show ∃ k', k' ≤ (preT scs p).length ∧ Jx k' C1 W1 from ⟨k', hk', hj1⟩)
    clear hj1 hk'
    gi_wp2
    go_end0
    exact ⟨⟨_, rfl⟩, C1, Hk1.out, Hg1.out, .inr Hj1.out⟩
end Go.Proofs.Ytpfiofgchkfkhaa
