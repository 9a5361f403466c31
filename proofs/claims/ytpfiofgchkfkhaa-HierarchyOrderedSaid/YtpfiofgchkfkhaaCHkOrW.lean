/- The walk of HierarchyOrdered. -/
import Derived.Test.YtpfiofgchkfkhaaMgM
import Derived.Deep.RegionHeld3
import Derived.Deep.AppendLies
import Derived.BigQuiet
import Derived.Deep.QuietTactic
set_option linter.unusedVariables false
set_option linter.unusedSimpArgs false
namespace Go.Proofs.Ytpfiofgchkfkhaa
open Go.RowKit Go.Shelf Go.Maps
/-- what the loop over the variables leans on -/
structure OrdK (w W : World) (scs : List Sc) (vs : List Va) (A A' a1 a2 : Option Addr) (n m cap cap' c1 c2 : Nat) (F : List Int) (B : List Va) (a3 : Option Addr) : Prop where
  below : Below w.heap.size w W
  bs : VaS W a2 B
  fs : Sl intV W a3 F
  vs_ : VaS W A' vs
  hn : scs.length = n
  hm : vs.length = m
  hB : B.length = m
  path : ∀ (i : Int) (W' : World), Below W.heap.size W W' → Calls Try.prog 13 #[.slice A n cap, .int .i64 i] W' fun e w' => ∃ g c, e = .returned (.slice (some ⟨g, 0, none⟩) (refP scs i).length c) ∧ w'.ownsRow W'.heap.size 9 1 (.slice (some ⟨g, 0, none⟩) (refP scs i).length c) (refP scs i).length ((refP scs i).map Value.string) ∧ Below W'.heap.size W' w'
  look : ∀ (p : List ByteArray) (W' : World), Below W.heap.size W W' → ∀ (C : Option Addr) (c : Nat), p.length ≤ 100000 → Sl Value.string W' C p → Calls Try.prog 12 #[.slice a1 n c1, .slice a2 m c2, .slice C p.length c] W' fun e w' => ∃ v, e = .returned v ∧ w'.ownsRow W'.heap.size 3 1 v (LookOf (orderS scs) B p).length ((LookOf (orderS scs) B p).map intV) ∧ Below W'.heap.size W' w'
  inn : ∀ (p : List ByteArray) (k : Int), k ∈ LookOf (orderS scs) B p → ∃ (q : Nat) (y : Va), k = ((q : Nat) : Int) ∧ q < m ∧ B[q]? = some y ∧ 0 ≤ y.signal ∧ y.signal < (F.length : Int)
  hit : ∀ v ∈ vs, ∃ (q : Nat) (y : Va), B[q]? = some y ∧ ((q : Nat) : Int) ∈ LookOf (orderS scs) B (wantP scs v) ∧ y.ranged = v.ranged ∧ y.msb = v.msb ∧ y.lsb = v.lsb ∧ y.typ = v.typ ∧ F[y.signal.toNat]? = some v.signal
  len : ∀ p, (LookOf (orderS scs) B p).length ≤ m
  plen : ∀ i, (refP scs i).length ≤ n
  few : n ≤ 40 ∧ m ≤ 140 ∧ F.length ≤ m
theorem intsN_at {n i : Nat} (h : i < (intsN n).length) : (intsN n)[i] = (i : Int) := by
  unfold intsN at h ⊢
  rw [List.getElem_map, List.getElem_range]
set_option maxRecDepth 20000 in
set_option maxHeartbeats 16000000 in
theorem ordered_walk (A : Option Addr) (n cap : Nat) (scs : List Sc) (A' : Option Addr) (m cap' : Nat) (vs : List Va) (w : World) (hn : scs.length = n) (hn0 : n ≤ maxLen) (hs : InScs w A scs) (hm : vs.length = m) (hm0 : m ≤ maxLen) (hv : InVas w A' cap' vs) (hg : Gm w) :
    Calls Try.prog 4 #[.slice A n cap, .slice A' m cap'] w fun e w' => e = .returned (.bool true) ∧ Below w.heap.size w w' := by
  subst hn; subst hm
  have AW := hide (awake_hi w hg)
  have FW := hide (fun W (hb : Below w.heap.size w W) => FewH_any cap cap' (sc_below hs.s hb) (va_below hv.s hb) hn0 hm0 (fun x hx => (hs.ok x hx).name) (fun v hv' => (hv.ok v hv').name))
  cases hf : fewHB scs vs with
  | false =>
    have FW' := FW.out
    rw [hf] at FW'
    have FW2 := hide FW'
    generalize scs.length = n at *
    generalize vs.length = m at *
    clear FW FW' hs hv hf
    go_enter Try.func4, Try.ntmps4
    go_wp2_with fail
    refine AW.out.mono ?_
    rintro e w1 ⟨rfl, hb⟩
    have HB1 := hide hb
    clear hb
    go_wp2_with fail
    refine (FW2.out w1 HB1.out).mono ?_
    rintro e w2 ⟨rfl, rfl⟩
    go_wp2
    go_ret
    exact ⟨rfl, HB1.out⟩
  | true =>
    have FW' := FW.out
    rw [hf] at FW'
    have FW2 := hide FW'
    have hI := in_few hs hv hf
    obtain ⟨_, _, hsl, hvl⟩ := few_spec hf
    by_cases hE : checkE scs vs = 0
    · have hgd := checkE_ok.1 hE
      have HI := hide hI
      have OR1 := hide (fun W (hb : Below w.heap.size w W) => have h := hI.below hb; order_good scs vs A A' cap cap' W h.hs h.hv h.hl h.hl' h.ok h.ok' h.z h.z' h.a h.a' hgd)
      have g2 := order_goodH hgd
      have hl1 := orderS_len hgd.decl
      have hl2 := orderV_len hgd
      have hag := order_again hgd
      have OR2 := hide (fun (W : World) (a1 a2 : Option Addr) (c1 c2 : Nat) (h : InH W (orderS scs) (orderV scs vs).1 a1 a2 c2) => order_good (orderS scs) (orderV scs vs).1 a1 a2 c1 c2 W h.hs h.hv h.hl h.hl' h.ok h.ok' h.z h.z' h.a h.a' g2)
      have VA := hide (fun (W : World) (a1 a2 : Option Addr) (c1 c2 : Nat) (h : InH W (orderS scs) (orderV scs vs).1 a1 a2 c2) => Valid_H (orderS scs) (orderV scs vs).1 a1 a2 c1 c2 W h)
      have SM := hide (fun (W : World) (a1 a2 b1 b2 : Option Addr) (c1 c2 d1 d2 : Nat) (h1 : ScS W a1 (orderS scs)) (h2 : ScS W b1 (orderS scs)) (h3 : VaS W a2 (orderV scs vs).1) (h4 : VaS W b2 (orderV scs vs).1) => Same_any c1 d1 c2 d2 h1 h2 h3 h4 (by omega) (by omega) (by omega) (by omega))
      have IO := hide (fun (W1 W : World) (hb1 : Below w.heap.size w W1) (a1 a2 : Option Addr) (c2 : Nat) (hs' : ScS W a1 (orderS scs)) (hv' : VaS W a2 (orderV scs vs).1) (ha : ∀ a, a1 = some a → a.block < W.heap.size) (hc : a2 = none → c2 = 0) => order_inH (hI.below hb1) hgd hs' hv' ha hc)
      have OR2' := OR2.out
      have VA' := VA.out
      have SM' := SM.out
      rw [hag.1, hag.2, hl1, hl2] at OR2'
      rw [order_validH hgd, hl1, hl2] at VA'
      rw [show sameB (orderS scs) (orderS scs) (orderV scs vs).1 (orderV scs vs).1 = true by unfold sameB; simp, hl1, hl2] at SM'
      have OR3 := hide OR2'
      have VA2 := hide VA'
      have SM2 := hide SM'
      have KK := hide (fun (W : World) (hb : Below w.heap.size w W) (a1 a2 a3 : Option Addr) (c1 c2 : Nat) (hs' : ScS W a1 (orderS scs)) (hv' : VaS W a2 (orderV scs vs).1) (ha : ∀ a, a1 = some a → a.block < W.heap.size) (hc : a2 = none → c2 = 0) (hf : Sl intV W a3 (orderV scs vs).2) =>
        show OrdK w W scs vs A A' a1 a2 scs.length vs.length cap cap' c1 c2 (orderV scs vs).2 (orderV scs vs).1 a3 from
          ⟨hb, hv', hf, va_below hv.s hb, rfl, rfl, hl2, fun i W' hb' => refPath_any cap i (sc_below hs.s (hb.trans (hb'.mono hb.size))) hgd.decl (by omega),
            fun p W' hb' C c hpl hp => by
              have h := Lookup_any (A2 := C) c1 c2 c p ((order_inH hI hgd hs' hv' ha hc).below hb') (by omega) hp hpl
              rw [hl1, hl2] at h
              exact h,
            fun p k hk => by
              obtain ⟨q, y, h1, h2, h3⟩ := look_in hgd p hk
              exact ⟨q, y, h1, h2, h3, orderV_sig hgd h3⟩,
            fun v hv => look_hit hgd hv, fun p => by rw [← hl2]; exact LookOf_len _ _ _, fun i => refP_len scs i, ⟨hsl, hvl, former_len hgd⟩⟩)
      have hFl := former_len hgd
      generalize hB : (orderV scs vs).1 = B at *
      generalize hF : (orderV scs vs).2 = F at *
      generalize hS2 : orderS scs = S2 at *
      obtain ⟨n, hn⟩ : ∃ n, scs.length = n := ⟨_, rfl⟩
      obtain ⟨m, hm⟩ : ∃ m, vs.length = m := ⟨_, rfl⟩
      have OR1' := OR1.out
      have OR3' := OR3.out
      have VA3 := VA2.out
      have SM3 := SM2.out
      have FW3 := FW2.out
      have KK' := KK.out
      rw [hn] at OR1' OR3' VA3 SM3 FW3 KK' hsl
      rw [hm] at OR1' OR3' VA3 SM3 FW3 KK' hvl hFl
      rw [hn, hm]
      have OR1 := hide OR1'
      have OR3 := hide OR3'
      have VA4 := hide VA3
      have SM4 := hide SM3
      have FW4 := hide FW3
      have KK2 := hide KK'
      clear hn0 hm0 FW FW' FW2 FW3 hs hv hf hI OR1' OR2 OR2' OR3' VA VA' VA2 VA3 SM SM' SM2 SM3 KK KK' hE hgd g2 hl1 hl2 hag hB hF hS2 hn hm HI
      go_enter Try.func4, Try.ntmps4
      go_wp2_with fail
      refine AW.out.mono ?_
      rintro e w1 ⟨rfl, hb⟩
      have HB1 := hide hb
      clear hb
      go_wp2_with fail
      refine (FW4.out w1 HB1.out).mono ?_
      rintro e w2 ⟨rfl, rfl⟩
      go_wp2_with fail
      refine (OR1.out w1 HB1.out).mono ?_
      rintro e w2 ⟨a1, c1, a2, c2, v3, rfl, h1, h2, h3, hb, h4, h5⟩
      obtain ⟨a3, cp3, rfl⟩ := ownH_sl h3
      have HB2 := hide (HB1.out.trans (hb.mono HB1.out.size))
      have HSC := hide h1
      have HVA := hide h2
      have HFS := hide (show Sl intV w2 a3 F from by obtain ⟨A9, c9, e9, h9, _⟩ := Sl_own h3 rfl; cases e9; exact h9)
      have HAL := hide h4
      have HCN := hide h5
      have HIN := hide (IO.out w1 w2 HB1.out a1 a2 c2 h1 h2 h4 h5)
      clear hb h1 h2 h3 h4 h5
      go_wp2_with fail
      refine (OR3.out w2 a1 a2 c1 c2 HIN.out).mono ?_
      rintro e w3 ⟨b1, d1, b2, d2, u3, rfl, h1, h2, h3, hb, _, _⟩
      obtain ⟨b3, dp3, rfl⟩ := ownH_sl h3
      have HB3 := hide (HB2.out.trans (hb.mono HB2.out.size))
      have HSD := hide h1
      have HVD := hide h2
      have hil : (intsN F.length).length = F.length := by unfold intsN; simp
      rw [hil] at h3 ⊢
      have HIS := hide (show Sl intV w3 b3 (intsN F.length) from by obtain ⟨A9, c9, e9, h9, _⟩ := Sl_own h3 hil.symm; cases e9; exact h9)
      have HIN3 := hide (HIN.out.below hb)
      have HSC3 := hide (sc_below HSC.out hb)
      have HVA3 := hide (va_below HVA.out hb)
      have HFS3 := hide (HFS.out.below hb)
      have HAL3 := hide (fun a ha => Nat.lt_of_lt_of_le (HAL.out a ha) hb.size)
      clear hb h1 h2 h3
      have hil' := hil
      clear hil
      go_wp2_with fail
      refine (VA4.out w3 a1 a2 c1 c2 HIN3.out).mono ?_
      rintro e w4 ⟨rfl, hb⟩
      have HB4 := hide (HB3.out.trans (hb.mono HB3.out.size))
      have HSC4 := hide (sc_below HSC3.out hb)
      have HVA4 := hide (va_below HVA3.out hb)
      have HSD4 := hide (sc_below HSD.out hb)
      have HVD4 := hide (va_below HVD.out hb)
      have HFS4 := hide (HFS3.out.below hb)
      have HIS4 := hide (HIS.out.below hb)
      have HAL4 := hide (fun a ha => Nat.lt_of_lt_of_le (HAL3.out a ha) hb.size)
      clear hb
      go_wp2_with fail
      refine (SM4.out w4 a1 a2 b1 b2 c1 c2 d1 d2 HSC4.out HSD4.out HVA4.out HVD4.out).mono ?_
      rintro e w5 ⟨rfl, hb⟩
      have HB5 := hide (HB4.out.trans (hb.mono HB4.out.size))
      have HIS5 := hide (HIS4.out.below hb)
      have HK := hide (KK2.out w5 HB5.out a1 a2 a3 c1 c2 (sc_below HSC4.out hb) (va_below HVA4.out hb) (fun a ha => Nat.lt_of_lt_of_le (HAL4.out a ha) hb.size) HCN.out (HFS4.out.below hb))
      clear hb
      go_wp2_with fail
      have hF140 : F.length ≤ 140 := by omega
      go_loopw [92] (fun v wr => ∃ i : Nat, v = .int .i64 (i : Int) ∧ i ≤ F.length ∧ w5 = wr) (fun v _ => F.length - (intOf v).toNat)
      case atStart => exact ⟨0, rfl, Nat.zero_le _, rfl⟩
      case round =>
        obtain ⟨i, rfl, hi, rfl⟩ := hrel
        by_cases hlt : i < F.length
        · have hi' : (i : Int) < (F.length : Int) := by omega
          have hi0 : (0 : Int) ≤ (i : Int) := by omega
          have hw1 : IntKind.i64.wrap ((i : Int) + 1) = (i : Int) + 1 := IntWalk.i64_in _ (by omega)
          have hix : i < (intsN F.length).length := by rw [hil']; exact hlt
          obtain ⟨b, off, rfl, hbz, hat⟩ := Sl.at HIS5.out hix
          have c0 := hat w5 (Below.refl _ _)
          have hge : (intsN F.length)[i] = (i : Int) := intsN_at hix
          rw [hge] at c0
          have c0' : w5.cell? ⟨b, off + i, none⟩ = some (.int .i64 (i : Int)) := c0
          have hii : ((i : Int) == (i : Int)) = true := beq_self_eq_true _
          clear hat c0 hge
          go_wp2
          go_roundw
          case rel => exact ⟨i + 1, by go_num, by omega, by first | rfl | trivial⟩
          case measure => simp [intOf]; omega
        · obtain rfl : i = F.length := by omega
          have hi' : ¬ (F.length : Int) < (F.length : Int) := by omega
          go_wp2_with fail
          go_loopw [103] (fun v wr => ∃ k : Nat, v = .int .i64 (k : Int) ∧ k ≤ m ∧ Hid (Below w5.heap.size w5 wr)) (fun v _ => m - (intOf v).toNat)
          case atStart => exact ⟨0, rfl, Nat.zero_le _, hide (Below.refl _ _)⟩
          case round =>
            obtain ⟨k, rfl, hk, HB⟩ := hrel
            obtain ⟨W3, hW3⟩ : ∃ W3, W3 = wr := ⟨_, rfl⟩
            subst hW3
            by_cases hlt2 : k < m
            · as_aux_lemma =>
                have hk' : (k : Int) < (m : Int) := by omega
                have hk0 : (0 : Int) ≤ (k : Int) := by omega
                have hw1 : IntKind.i64.wrap ((k : Int) + 1) = (k : Int) + 1 := IntWalk.i64_in _ (by omega)
                have hix : k < vs.length := by rw [HK.out.hm]; exact hlt2
                obtain ⟨qh, yh, hy1, hy2, hy3⟩ := HK.out.hit vs[k] (List.getElem_mem hix)
                obtain ⟨b, off, rfl, hbz, hat⟩ := va_at HK.out.vs_ hix
                obtain ⟨c0, c1', c2', c3', c4, c5, c6⟩ := hat W3 HB.out
                have hwant : wantP scs vs[k] = refP scs vs[k].scope ++ [vs[k].name] := rfl
                generalize vs[k]'hix = x at *
                obtain ⟨nm, ty, sc, sg, rg, msb, lsb⟩ := x
                simp only at c0 c1' c2' c3' c4 c5 c6 hwant hy3
                rw [hwant] at hy2
                have RP := hide (HK.out.path sc)
                have hpl := HK.out.plen sc
                generalize refP scs sc = P at *
                have LK := hide (HK.out.look (P ++ [nm]))
                obtain ⟨L, hL⟩ : ∃ L, LookOf (orderS scs) B (P ++ [nm]) = L := ⟨_, rfl⟩
                have LK' := LK.out
                have INN := hide (HK.out.inn (P ++ [nm]))
                have hLl := HK.out.len (P ++ [nm])
                have INN' := INN.out
                rw [hL] at LK' hy2 INN' hLl
                have hpl1 : (P ++ [nm]).length = P.length + 1 := by simp
                have LK2 := hide (fun (W' : World) (hb : Below w5.heap.size w5 W') (g c : Nat) (ho : W'.ownsRow w.heap.size 9 1 (.slice (some ⟨g, 0, none⟩) (P.length + 1) c) (P.length + 1) (P.map Value.string ++ [.string nm])) => show Calls Try.prog 12 #[.slice a1 n c1, .slice a2 m c2, .slice (some ⟨g, 0, none⟩) (P.length + 1) c] W' fun e w' => ∃ v, e = .returned v ∧ w'.ownsRow W'.heap.size 3 1 v L.length (L.map intV) ∧ Below W'.heap.size W' w' from by
                  have h := LK' W' hb (some ⟨g, 0, none⟩) c (by rw [hpl1]; omega) (by
                    have ho2 : W'.ownsRow w.heap.size 9 1 (.slice (some ⟨g, 0, none⟩) (P.length + 1) c) (P.length + 1) ((P ++ [nm]).map Value.string) := by rw [List.map_append]; exact ho
                    obtain ⟨A9, c9, e9, h9, _⟩ := Sl_own ho2 hpl1.symm
                    cases e9; exact h9)
                  rw [hpl1] at h
                  exact h)
                have INN2 := hide INN'
                have Hy1 := hide hy1
                have Hy2 := hide hy2
                have Hy3 := hide hy3
                obtain ⟨W0, hW0⟩ : ∃ W0, W3.alloc (.cells #[.string nm, .int .i64 ty, .int .i64 sc, .int .i64 sg, .bool rg, .int .i64 msb, .int .i64 lsb] 29) = W0 := ⟨_, rfl⟩
                have HRA := hide (show Row W0 W3.heap.size 29 _ from hW0 ▸ Row.new W3 29 #[.string nm, .int .i64 ty, .int .i64 sc, .int .i64 sg, .bool rg, .int .i64 msb, .int .i64 lsb])
                have HBA := hide (show Below w5.heap.size w5 W0 from hW0 ▸ HB.out.alloc HB.out.size _)
                have HBW := hide (show Below w.heap.size w W0 from HB5.out.trans (HBA.out.mono HB5.out.size))
                have hc2 : W0.cell? ⟨W3.heap.size, 2, none⟩ = some (.int .i64 sc) := HRA.out.cell 2
                have hc0 : W0.cell? ⟨W3.heap.size, 0, none⟩ = some (.string nm) := HRA.out.cell 0
                obtain ⟨iS, hiS, hz0', hz1', hz2'⟩ := info_parts infoStrH
                have HI := hide hiS
                have HZ0 := hide hz0'
                have HZ1 := hide hz1'
                have HZ2 := hide hz2'
                have H1C := hide (show ∀ u ∈ [Value.string nm], u.oneCell' = true by intro u hu; simp only [List.mem_cons, List.not_mem_nil, or_false] at hu; rcases hu with rfl; rfl)
                have HK1 := hide (show P.length + 1 ≤ maxLen by unfold maxLen; omega)
                have HK2 := hide (show (P.length + 1) * 16 ≤ 140737488355328 by omega)
                have hwA := HBW.out.size
                clear hat hwant hL LK LK' INN INN' hy1 hy2 hy3 hiS hz0' hz1' hz2' hpl1
                go_wp2_with fail
                clear hW0
                go_region_held3 (fun w' => w'.cell? ⟨W3.heap.size, 2, none⟩ = some (.int .i64 sc) ∧ w'.cell? ⟨W3.heap.size, 0, none⟩ = some (.string nm)) (go_keep) (first
                  | (go_at_call 13; refine (RP.out W0.drew HBA.out.drew).mono ?_; rintro e w6 ⟨g1, cp1, rfl, ho5, hb5'⟩; have hb5 : Below W0.heap.size W0 w6 := ⟨hb5'.os, hb5'.tape, hb5'.output, hb5'.size, hb5'.block⟩; clear hb5'; have hd0 : w6.cell? ⟨W3.heap.size, 0, none⟩ = some (.string nm) := (hb5.cell (p := ⟨W3.heap.size, 0, none⟩) HRA.out.lt).trans hc0; have hd2 : w6.cell? ⟨W3.heap.size, 2, none⟩ = some (.int .i64 sc) := (hb5.cell (p := ⟨W3.heap.size, 2, none⟩) HRA.out.lt).trans hc2; have HX5 := hide (show (Value.slice (some ⟨g1, 0, none⟩) P.length cp1).ownBlock ≠ some W3.heap.size from fun e => Nat.not_lt.2 (ho5.lt _ e).1 HRA.out.lt); have HY5 := hide (show ∀ b, (Value.slice (some ⟨g1, 0, none⟩) P.length cp1).ownBlock = some b → w5.heap.size ≤ b from fun b e => Nat.le_trans HBA.out.size (ho5.lt _ e).1); have HR5 := hide (HRA.out.below hb5 HRA.out.lt); have Ho5 := hide (ownsRow_mono ho5 hwA); have Hb5 := hide (HBA.out.trans (hb5.mono HBA.out.size)); clear ho5 hb5)
                  | (go_at_call 13; refine (RP.out (W0.drew.alloc (.cells #[.string nm] 9)) (HBA.out.drew.alloc HBA.out.size _)).mono ?_; rintro e w6 ⟨g1, cp1, rfl, ho5, hb5⟩; have hd0 : w6.cell? ⟨W3.heap.size, 0, none⟩ = some (.string nm) := (hb5.cell (p := ⟨W3.heap.size, 0, none⟩) (by rw [World.size_alloc]; exact Nat.lt_succ_of_lt HRA.out.lt)).trans ((HRA.out.drew.alloc _).cell 0); have hd2 : w6.cell? ⟨W3.heap.size, 2, none⟩ = some (.int .i64 sc) := (hb5.cell (p := ⟨W3.heap.size, 2, none⟩) (by rw [World.size_alloc]; exact Nat.lt_succ_of_lt HRA.out.lt)).trans ((HRA.out.drew.alloc _).cell 2); have HX5 := hide (show (Value.slice (some ⟨g1, 0, none⟩) P.length cp1).ownBlock ≠ some W3.heap.size from fun e => Nat.not_lt.2 (ho5.lt _ e).1 (by rw [World.size_alloc]; exact Nat.lt_succ_of_lt HRA.out.lt)); have HY5 := hide (show ∀ b, (Value.slice (some ⟨g1, 0, none⟩) P.length cp1).ownBlock = some b → w5.heap.size ≤ b from fun b e => Nat.le_trans (Nat.le_trans HBA.out.size (by rw [World.size_alloc]; exact Nat.le_succ _)) (ho5.lt _ e).1); have HR5 := hide ((HRA.out.drew.alloc _).below hb5 (by rw [World.size_alloc]; exact Nat.lt_succ_of_lt HRA.out.lt)); have Ho5 := hide (ownsRow_mono ho5 (Nat.le_trans hwA (by rw [World.size_alloc]; exact Nat.le_succ _))); have Hb5 := hide ((HBA.out.drew.alloc HBA.out.size (.cells #[.string nm] 9)).trans (hb5.mono (Nat.le_trans HBA.out.size (by rw [World.size_alloc]; exact Nat.le_succ _)))); have Hn5 := hide ((Row.new W0.drew 9 #[.string nm]).below hb5 (by rw [World.size_alloc]; exact Nat.lt_succ_self _)); clear ho5 hb5)
                  | (refine step_append_lies _ rfl _ _ 37 rfl w.heap.size 9 iS _ 1 16 Try.underlying37 HI.out HZ0.out HZ1.out HZ2.out rfl (by decide) (.slice (some ⟨g1, 0, none⟩) P.length cp1) P.length (P.map Value.string) rfl (Ho5.out.alloc _) ⟨w6.heap.size, 0, none⟩ 1 1 [.string nm] rfl rfl (cells_new _ _ rfl) H1C.out (by decide) HK1.out HK2.out (Nat.le_trans (Nat.le_trans HB5.out.size Hb5.out.size) (by rw [World.size_alloc]; exact Nat.le_succ _)) _ rfl ?_; intro g6 cap6 w7 hown6 hgrow6 hat6 hlt6; have hk0 : w7.cell? ⟨W3.heap.size, 0, none⟩ = some (.string nm) := (hgrow6.cell_far ⟨W3.heap.size, 0, none⟩ (by rw [World.size_alloc]; exact Nat.lt_succ_of_lt (World.block_lt_of_cell? w6 _ hd0)) (fun e => HX5.out e.symm)).trans ((((Below.refl w6.heap.size w6).alloc (Nat.le_refl _) _).cell (p := ⟨W3.heap.size, 0, none⟩) (World.block_lt_of_cell? w6 _ hd0)).trans hd0); have hk2 : w7.cell? ⟨W3.heap.size, 2, none⟩ = some (.int .i64 sc) := (hgrow6.cell_far ⟨W3.heap.size, 2, none⟩ (by rw [World.size_alloc]; exact Nat.lt_succ_of_lt (World.block_lt_of_cell? w6 _ hd2)) (fun e => HX5.out e.symm)).trans ((((Below.refl w6.heap.size w6).alloc (Nat.le_refl _) _).cell (p := ⟨W3.heap.size, 2, none⟩) (World.block_lt_of_cell? w6 _ hd2)).trans hd2); have HB7 := hide (show Below w5.heap.size w5 w7 from (Hb5.out.alloc Hb5.out.size (.cells #[.string nm] 9)).grown hgrow6 (Nat.le_trans Hb5.out.size (by rw [World.size_alloc]; exact Nat.le_succ _)) (fun j hj => HY5.out j hj)); have HR7 := hide (show Row w7 W3.heap.size 29 _ from (HR5.out.alloc _).grown hgrow6 (fun e => HX5.out e.symm)); have HO7 := hide hown6; clear hown6 hgrow6 hat6 hlt6)
                  | (refine step_append_lies _ rfl _ _ 37 rfl w.heap.size 9 iS _ 1 16 Try.underlying37 HI.out HZ0.out HZ1.out HZ2.out rfl (by decide) (.slice (some ⟨g1, 0, none⟩) P.length cp1) P.length (P.map Value.string) rfl Ho5.out ⟨W0.heap.size, 0, none⟩ 1 1 [.string nm] rfl rfl (World.news_of_block (cs := #[.string nm]) (t := 9) (fr := (0, 0)) Hn5.out) H1C.out (by decide) HK1.out HK2.out (Nat.le_trans HB5.out.size Hb5.out.size) _ rfl ?_; intro g6 cap6 w7 hown6 hgrow6 hat6 hlt6; have hk0 : w7.cell? ⟨W3.heap.size, 0, none⟩ = some (.string nm) := (hgrow6.cell_far ⟨W3.heap.size, 0, none⟩ (World.block_lt_of_cell? w6 _ hd0) (fun e => HX5.out e.symm)).trans hd0; have hk2 : w7.cell? ⟨W3.heap.size, 2, none⟩ = some (.int .i64 sc) := (hgrow6.cell_far ⟨W3.heap.size, 2, none⟩ (World.block_lt_of_cell? w6 _ hd2) (fun e => HX5.out e.symm)).trans hd2; have HB7 := hide (show Below w5.heap.size w5 w7 from Hb5.out.grown hgrow6 Hb5.out.size (fun j hj => HY5.out j hj)); have HR7 := hide (show Row w7 W3.heap.size 29 _ from HR5.out.grown hgrow6 (fun e => HX5.out e.symm)); have HO7 := hide hown6; clear hown6 hgrow6 hat6 hlt6)
                  | (go_at_call 12; refine (LK2.out w7 HB7.out g6 cap6 HO7.out).mono ?_; rintro e w8 ⟨v8, rfl, ho8, hb8⟩; obtain ⟨A8, cp8, rfl⟩ := ownH_sl ho8; have HR8 := hide (HR7.out.below hb8 HR7.out.lt); have hj0 : w8.cell? ⟨W3.heap.size, 0, none⟩ = some (.string nm) := HR8.out.cell 0; have hj2 : w8.cell? ⟨W3.heap.size, 2, none⟩ = some (.int .i64 sc) := HR8.out.cell 2; have HB8 := hide (HB7.out.trans (hb8.mono HB7.out.size)); have HL8 := hide (show Sl intV w8 A8 L from (by obtain ⟨A9, c9, e9, h9, _⟩ := Sl_own ho8 rfl; cases e9; exact h9)); clear ho8 hb8))
                all_goals
                  go_wp2_with fail
                  go_loopw [17, 119] (fun v17 v wr => ∃ (j : Nat) (fb : Bool), v17 = .bool fb ∧ v = .int .i64 (j : Int) ∧ j ≤ L.length ∧ Hid (∀ j0, j0 < j → L[j0]? = some (qh : Int) → fb = true) ∧ Hid (Below w8.heap.size w8 wr)) (fun _ v _ => L.length - (intOf v).toNat)
                  case atStart => exact ⟨0, false, rfl, rfl, Nat.zero_le _, hide (fun _ h _ => absurd h (by omega)), hide (Below.refl _ _)⟩
                  case round =>
                    obtain ⟨j, fb, rfl, rfl, hj, HFB, HB9⟩ := hrel
                    obtain ⟨W9, hW9⟩ : ∃ W9, W9 = wr := ⟨_, rfl⟩
                    subst hW9
                    by_cases hlt3 : j < L.length
                    · as_aux_lemma =>
                        have hj' : (j : Int) < (L.length : Int) := by omega
                        have hj0 : (0 : Int) ≤ (j : Int) := by omega
                        have hw2 : IntKind.i64.wrap ((j : Int) + 1) = (j : Int) + 1 := IntWalk.i64_in _ (by omega)
                        obtain ⟨b8, o8, rfl, hb8z, hat8⟩ := Sl.at HL8.out hlt3
                        have d0 := hat8 W9 HB9.out
                        obtain ⟨q, y, hqe, hqm, hyq, hs0, hs1⟩ := INN2.out L[j] (List.getElem_mem hlt3)
                        have HLJ := hide (show L[j]? = some (q : Int) by rw [List.getElem?_eq_getElem hlt3, hqe])
                        have d0' : W9.cell? ⟨b8, o8 + j, none⟩ = some (.int .i64 (q : Int)) := by rw [d0, hqe]; rfl
                        have hqB : q < B.length := (List.getElem?_eq_some_iff.1 hyq).1
                        obtain ⟨bq, oq, rfl, hbqz, hatq⟩ := va_at HK.out.bs hqB
                        have hyq2 : B[q]'hqB = y := (List.getElem?_eq_some_iff.1 hyq).2
                        have HB95 := hide (HB8.out.trans (HB9.out.mono HB8.out.size))
                        obtain ⟨e0, e1, e2, e3, e4, e5, e6⟩ := hatq W9 HB95.out
                        rw [hyq2] at e0 e1 e2 e3 e4 e5 e6
                        have hsF : y.signal.toNat < F.length := by omega
                        obtain ⟨bf, of_, rfl, hbfz, hatf⟩ := Sl.at HK.out.fs hsF
                        have f0 := hatf W9 HB95.out
                        obtain ⟨fv, hfv⟩ : ∃ fv, F[y.signal.toNat]'hsF = fv := ⟨_, rfl⟩
                        rw [hfv] at f0
                        have HQ := hide (show L[j]? = some (qh : Int) → y.ranged = rg ∧ y.msb = msb ∧ y.lsb = lsb ∧ y.typ = ty ∧ fv = sg from fun h => by
                          have h1 := HLJ.out
                          rw [h] at h1
                          have h2 : qh = q := by have := Option.some.inj h1; omega
                          subst h2
                          have h3 := Hy1.out
                          rw [hyq] at h3
                          obtain rfl := Option.some.inj h3
                          have h4 := Hy3.out
                          refine ⟨h4.1, h4.2.1, h4.2.2.1, h4.2.2.2.1, ?_⟩
                          have h5 := h4.2.2.2.2
                          rw [List.getElem?_eq_getElem hsF, hfv] at h5
                          exact Option.some.inj h5)
                        obtain ⟨ynm, yty, ysc, ysg, yrg, ymsb, ylsb⟩ := y
                        simp only at e0 e1 e2 e3 e4 e5 e6 f0 HQ hs0 hs1
                        have hq0 : (0 : Int) ≤ (q : Int) := by omega
                        have hq1 : ¬ (q : Int) < 0 := by omega
                        have hqm' : (q : Int) < (m : Int) := by omega
                        have hq2 : ¬ (m : Int) ≤ (q : Int) := by omega
                        have hq3 : ¬ m ≤ q := by omega
                        have hs2 : ¬ ysg < 0 := by omega
                        have hs3 : ¬ (F.length : Int) ≤ ysg := by omega
                        have f0' : W9.cell? ⟨bf, of_ + ysg.toNat, none⟩ = some (.int .i64 fv) := f0
                        have HR9 := hide (HR8.out.below HB9.out HR8.out.lt)
                        obtain ⟨W10, hW10⟩ : ∃ W10, W9.alloc (.cells #[.string ynm, .int .i64 yty, .int .i64 ysc, .int .i64 ysg, .bool yrg, .int .i64 ymsb, .int .i64 ylsb] 29) = W10 := ⟨_, rfl⟩
                        have HRY := hide (show Row W10 W9.heap.size 29 _ from hW10 ▸ Row.new W9 29 #[.string ynm, .int .i64 yty, .int .i64 ysc, .int .i64 ysg, .bool yrg, .int .i64 ymsb, .int .i64 ylsb])
                        have HRX := hide (show Row W10 W3.heap.size 29 _ from hW10 ▸ HR9.out.alloc _)
                        have HB10 := hide (show Below w8.heap.size w8 W10 from hW10 ▸ HB9.out.alloc HB9.out.size _)
                        have y1 : W10.cell? ⟨W9.heap.size, 1, none⟩ = some (.int .i64 yty) := HRY.out.cell 1
                        have y3 : W10.cell? ⟨W9.heap.size, 3, none⟩ = some (.int .i64 ysg) := HRY.out.cell 3
                        have y4 : W10.cell? ⟨W9.heap.size, 4, none⟩ = some (.bool yrg) := HRY.out.cell 4
                        have y5 : W10.cell? ⟨W9.heap.size, 5, none⟩ = some (.int .i64 ymsb) := HRY.out.cell 5
                        have y6 : W10.cell? ⟨W9.heap.size, 6, none⟩ = some (.int .i64 ylsb) := HRY.out.cell 6
                        have x1 : W10.cell? ⟨W3.heap.size, 1, none⟩ = some (.int .i64 ty) := HRX.out.cell 1
                        have x3 : W10.cell? ⟨W3.heap.size, 3, none⟩ = some (.int .i64 sg) := HRX.out.cell 3
                        have x4 : W10.cell? ⟨W3.heap.size, 4, none⟩ = some (.bool rg) := HRX.out.cell 4
                        have x5 : W10.cell? ⟨W3.heap.size, 5, none⟩ = some (.int .i64 msb) := HRX.out.cell 5
                        have x6 : W10.cell? ⟨W3.heap.size, 6, none⟩ = some (.int .i64 lsb) := HRX.out.cell 6
                        have f0'' : W10.cell? ⟨bf, of_ + ysg.toNat, none⟩ = some (.int .i64 fv) := by rw [← hW10, ((Below.refl W9.heap.size W9).alloc (Nat.le_refl _) _).cell (p := ⟨bf, of_ + ysg.toNat, none⟩) (World.block_lt_of_cell? W9 _ f0')]; exact f0'
                        have HWN := hide (fun (hno : ¬ (yrg = rg ∧ ymsb = msb ∧ ylsb = lsb ∧ yty = ty ∧ fv = sg)) (hfb : fb = false) => show ∀ j0, j0 < j + 1 → L[j0]? = some (qh : Int) → false = true from fun j0 hj0 hl0 => by
                          rcases Nat.lt_or_ge j0 j with h1 | h1
                          · rw [← hfb]; exact HFB.out j0 h1 hl0
                          · obtain rfl : j0 = j := by omega
                            exact absurd (HQ.out hl0) hno)
                        clear hat8 d0 hqe hyq hyq2 hatq hatf f0 hfv
                        cases fb with
                        | true =>
                          as_aux_lemma =>
                            go_wp2_with fail
                            go_quiet (fail)
                            go_wp2
                            go_roundw
                            case rel => exact ⟨j + 1, true, by first | rfl | trivial, by go_num, by omega, hide (fun _ _ _ => rfl), hide (Below_drewN HB10.out _)⟩
                            case measure => simp [intOf]; omega
                        | false =>
                          by_cases g1 : yrg = rg
                          · subst g1
                            by_cases g2 : ymsb = msb
                            · subst g2
                              by_cases g3 : ylsb = lsb
                              · subst g3
                                by_cases g4 : yty = ty
                                · subst g4
                                  by_cases g5 : fv = sg
                                  · subst g5
                                    have q5 : (fv == fv) = true := beq_self_eq_true _
                                    as_aux_lemma =>
                                      go_wp2_with fail
                                      go_quiet (fail)
                                      go_wp2
                                      go_roundw
                                      case rel => exact ⟨j + 1, true, by first | rfl | trivial, by go_num, by omega, hide (fun _ _ _ => rfl), hide (Below_drewN HB10.out _)⟩
                                      case measure => simp [intOf]; omega
                                  · have q5 : (fv == sg) = false := beq_eq_false_iff_ne.2 g5
                                    have HNO := hide (HWN.out (fun h => g5 h.2.2.2.2) rfl)
                                    as_aux_lemma =>
                                      go_wp2_with fail
                                      go_quiet (fail)
                                      go_wp2
                                      go_roundw
                                      case rel => exact ⟨j + 1, false, by first | rfl | trivial, by go_num, by omega, HNO, hide (Below_drewN HB10.out _)⟩
                                      case measure => simp [intOf]; omega
                                · have q4 : (yty == ty) = false := beq_eq_false_iff_ne.2 g4
                                  have HNO := hide (HWN.out (fun h => g4 h.2.2.2.1) rfl)
                                  as_aux_lemma =>
                                    go_wp2_with fail
                                    go_quiet (fail)
                                    go_wp2
                                    go_roundw
                                    case rel => exact ⟨j + 1, false, by first | rfl | trivial, by go_num, by omega, HNO, hide (Below_drewN HB10.out _)⟩
                                    case measure => simp [intOf]; omega
                              · have q3 : (ylsb == lsb) = false := beq_eq_false_iff_ne.2 g3
                                have HNO := hide (HWN.out (fun h => g3 h.2.2.1) rfl)
                                as_aux_lemma =>
                                  go_wp2_with fail
                                  go_quiet (fail)
                                  go_wp2
                                  go_roundw
                                  case rel => exact ⟨j + 1, false, by first | rfl | trivial, by go_num, by omega, HNO, hide (Below_drewN HB10.out _)⟩
                                  case measure => simp [intOf]; omega
                            · have q2 : (ymsb == msb) = false := beq_eq_false_iff_ne.2 g2
                              have HNO := hide (HWN.out (fun h => g2 h.2.1) rfl)
                              as_aux_lemma =>
                                go_wp2_with fail
                                go_quiet (fail)
                                go_wp2
                                go_roundw
                                case rel => exact ⟨j + 1, false, by first | rfl | trivial, by go_num, by omega, HNO, hide (Below_drewN HB10.out _)⟩
                                case measure => simp [intOf]; omega
                          · have q1 : (yrg == rg) = false := beq_eq_false_iff_ne.2 g1
                            have HNO := hide (HWN.out (fun h => g1 h.1) rfl)
                            as_aux_lemma =>
                              go_wp2_with fail
                              go_quiet (fail)
                              go_wp2
                              go_roundw
                              case rel => exact ⟨j + 1, false, by first | rfl | trivial, by go_num, by omega, HNO, hide (Below_drewN HB10.out _)⟩
                              case measure => simp [intOf]; omega
                    · obtain rfl : j = L.length := by omega
                      have hj' : ¬ (L.length : Int) < (L.length : Int) := by omega
                      have hfb : fb = true := by
                        obtain ⟨j0, hj0⟩ := List.mem_iff_getElem?.1 Hy2.out
                        exact HFB.out j0 (List.getElem?_eq_some_iff.1 hj0).1 hj0
                      subst hfb
                      go_wp2
                      go_roundw
                      case rel => exact ⟨k + 1, by go_num, by omega, hide (HB8.out.trans (HB9.out.mono HB8.out.size))⟩
                      case measure => simp [intOf]; omega
            · obtain rfl : k = m := by omega
              have hk' : ¬ (k : Int) < (k : Int) := by omega
              go_wp2
              go_ret
              exact ⟨rfl, HB5.out.trans (HB.out.mono HB5.out.size)⟩
    · have OR1 := hide (fun W (hb : Below w.heap.size w W) => order_bad scs vs A A' cap cap' W (hI.below hb) hE)
      have VH := hide (fun W (hb : Below w.heap.size w W) => Valid_H scs vs A A' cap cap' W (hI.below hb))
      have VH' := VH.out
      rw [validH_bad hE] at VH'
      have VH2 := hide VH'
      have e1 : (checkE scs vs == 0) = false := beq_eq_false_iff_ne.2 hE
      generalize checkE scs vs = E at *
      generalize scs.length = n at *
      generalize vs.length = m at *
      clear FW FW' hs hv hf hI VH VH' 
      go_enter Try.func4, Try.ntmps4
      go_wp2_with fail
      refine AW.out.mono ?_
      rintro e w1 ⟨rfl, hb⟩
      have HB1 := hide hb
      clear hb
      go_wp2_with fail
      refine (FW2.out w1 HB1.out).mono ?_
      rintro e w2 ⟨rfl, rfl⟩
      go_wp2_with fail
      refine (OR1.out w1 HB1.out).mono ?_
      rintro e w2 ⟨rfl, hb⟩
      have HB2 := hide (HB1.out.trans (hb.mono HB1.out.size))
      clear hb
      go_wp2_with fail
      refine (VH2.out w2 HB2.out).mono ?_
      rintro e w3 ⟨rfl, hb⟩
      have HB3 := hide (HB2.out.trans (hb.mono HB2.out.size))
      clear hb
      go_wp2
      go_ret
      exact ⟨rfl, HB3.out⟩
end Go.Proofs.Ytpfiofgchkfkhaa
