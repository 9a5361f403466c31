/- The walk of HierarchyMixed. -/
import Derived.Test.YtpfiofgchkfkhaaMgO
import Derived.Deep.RegionHeld3
import Derived.Deep.AppendLies
import Derived.Deep.LoopGhost
import Derived.BigQuiet
import Derived.Deep.QuietTactic
set_option linter.unusedVariables false
set_option linter.unusedSimpArgs false
namespace Go.Proofs.Ytpfiofgchkfkhaa
open Go.RowKit Go.Shelf Go.Maps
theorem intsN_len' (n : Nat) : (intsN n).length = n := by unfold intsN; simp
theorem leftH_max {R : Int → List Va} {n C m : Nat} (h1 : n ≤ 40) (h2 : m ≤ 140) : 0 + leftH R (n + 1) C m 0 0 ≤ C * 42 + 140 * 42 + 41 := by
  unfold leftH
  have h3 := gapH_le R (n + 1) (n + 1) 0
  have h4 : (C - 0) * (n + 1 + 1) ≤ C * 42 := Nat.mul_le_mul (by omega) (by omega)
  have h5 : (m - 0) * (n + 1 + 1) ≤ 140 * 42 := Nat.mul_le_mul (by omega) (by omega)
  split <;> omega
theorem va_kept {W W' : World} {A : Option Addr} {xs : List Va} {C : Nat → Prop} (h : VaS W A xs) (hk : Keeps C W W') (hA : ∀ a, A = some a → ¬ C a.block) : VaS W' A xs := by
  intro hp
  obtain ⟨b, off, rfl, hat⟩ := h hp
  have hbz : b < W.heap.size := by
    have h1 := hat 0 hp 0 (by decide)
    exact World.block_lt_of_cell? W _ (h1.trans (by rw [List.getElem?_eq_getElem (show 0 < (vaE xs[0]).length from by rw [vaE_len]; decide)]))
  exact ⟨b, off, rfl, fun i hi j hj => (hk.cell (p := ⟨b, off + i * 7 + j, none⟩) hbz (hA ⟨b, off, none⟩ rfl)).trans (hat i hi j hj)⟩
theorem intsN_at' {n i : Nat} (h : i < (intsN n).length) : (intsN n)[i] = (i : Int) := by
  unfold intsN at h ⊢
  rw [List.getElem_map, List.getElem_range]
theorem LefK.made (W : World) : LefK (W.alloc (.map #[] 0)) W.heap.size (W.heap.size + 1) [] [] :=
  ⟨MpB.made W, List.Pairwise.nil, fun p hp => (by cases hp), List.Pairwise.nil, fun p hp => (by cases hp), fun v hv => (by cases hv), fun p hp => (by cases hp), Nat.lt_succ_self _⟩
set_option maxRecDepth 20000 in
set_option maxHeartbeats 16000000 in
theorem mixed_walk (A : Option Addr) (n cap : Nat) (scs : List Sc) (A' : Option Addr) (m cap' : Nat) (vs : List Va) (A2 : Option Addr) (C cap2 : Nat) (ch : List Int) (w : World) (hn : scs.length = n) (hn0 : n ≤ maxLen) (hs : InScs w A scs) (hm : vs.length = m) (hm0 : m ≤ maxLen) (hv : InVas w A' cap' vs) (hC : ch.length = C) (hC0 : C ≤ 140737488351232) (hch : Sl (Value.int .u8) w A2 ch) (hchb : ∀ x ∈ ch, 0 ≤ x ∧ x ≤ 255) (hg : Gm w) :
    Calls Try.prog 3 #[.slice A n cap, .slice A' m cap', .slice A2 C cap2] w fun e w' => e = .returned (.bool true) ∧ Below w.heap.size w w' := by
  subst hn; subst hm; subst hC
  have AW := hide (awake_hi w hg)
  have FW := hide (fun W (hb : Below w.heap.size w W) => FewH_any cap cap' (sc_below hs.s hb) (va_below hv.s hb) hn0 hm0 (fun x hx => (hs.ok x hx).name) (fun v hv' => (hv.ok v hv').name))
  cases hf : fewHB scs vs with
  | false =>
    have FW' := FW.out
    rw [hf] at FW'
    have FW2 := hide FW'
    generalize scs.length = n at *
    generalize vs.length = m at *
    generalize ch.length = C at *
    clear hC0 FW FW' hs hv hf hch hchb
    go_enter Try.func3, Try.ntmps3
    go_wp2_with fail
    refine AW.out.mono ?_
    rintro e w1 ⟨rfl, hb⟩
    have HB1 := hide hb
    clear hb
    go_wp2_with fail
    refine (FW2.out w1 HB1.out).mono ?_
    rintro e w2 ⟨rfl, rfl⟩
    go_wp2
    any_goals first | (rename_i hu hb; exact (undef_bool hu).elim) | skip
    go_ret
    exact ⟨rfl, HB1.out⟩
  | true =>
    have FW' := FW.out
    rw [hf] at FW'
    have FW2 := hide FW'
    have hI := in_few hs hv hf
    have VA := hide (fun W (hb : Below w.heap.size w W) => Valid_H scs vs A A' cap cap' W (hI.below hb))
    obtain ⟨_, _, hsl, hvl⟩ := few_spec hf
    cases hval : validH scs vs with
    | false =>
      have VA' := VA.out
      rw [hval] at VA'
      have VA2 := hide VA'
      generalize scs.length = n at *
      generalize vs.length = m at *
      generalize ch.length = C at *
      clear hC0 FW FW' VA VA' hs hv hf hch hchb hI hval
      go_enter Try.func3, Try.ntmps3
      go_wp2_with fail
      refine AW.out.mono ?_
      rintro e w1 ⟨rfl, hb⟩
      have HB1 := hide hb
      clear hb
      go_wp2_with fail
      refine (FW2.out w1 HB1.out).mono ?_
      rintro e w2 ⟨rfl, rfl⟩
      go_wp2_with fail
      refine (VA2.out w1 HB1.out).mono ?_
      rintro e w2 ⟨rfl, hb⟩
      have HB2 := hide (HB1.out.trans (hb.mono HB1.out.size))
      clear hb
      go_wp2
      go_ret
      exact ⟨rfl, HB2.out⟩
    | true =>
      have VA' := VA.out
      rw [hval] at VA'
      have gd := validH_decl hval
      have HVS := hide hv.s
      have HOK := hide (fun (i : Nat) (hi : i < vs.length) => show In64 vs[i].scope from (hv.ok _ (List.getElem_mem hi)).scope)
      have HIN := hide (fun (v : Va) (h : v ∈ vs) => show -1 ≤ v.scope ∧ v.scope < scs.length from ⟨(gd.declV v h).1, (gd.declV v h).2.1⟩)
      have HCH := hide hch
      have HCB := hide hchb
      have OR := hide (fun (W : World) (hb : Below w.heap.size w W) (M : List Va) (hfil : ∀ s, fil s M = fil s vs) (aM : Option Addr) (cM : Nat) (hM : VaS W aM M) (hnil : aM = none → cM = 0 ∧ M = []) =>
        show Calls Try.prog 10 #[.slice A scs.length cap, .slice aM vs.length cM] W fun e w' => ∃ a1 c1 a2 c2 a3 k c3, e = .returned (.tuple #[.slice a1 scs.length c1, .slice a2 vs.length c2, .slice a3 k c3, .int .i64 0]) ∧ k ≤ vs.length ∧ ScS w' a1 scs ∧ VaS w' a2 vs ∧ Sl intV w' a3 (intsN k) ∧ Below W.heap.size W w' from by
          obtain ⟨g1, g2, k, g3⟩ := mixed_plain hval hfil
          have hp := fil_perm hfil
          have hok : ∀ v ∈ M, VaOk v := fun v h => hI.ok' v (hp.mem_iff.1 h)
          have hz : ∀ v ∈ M, v.name.size ≤ 1000000 := fun v h => hI.z' v (hp.mem_iff.1 h)
          have hfl := former_len g1
          have h := order_good scs M A aM cap cM W (sc_below hI.hs hb) hM hI.hl (by rw [hp.length_eq]; exact hI.hl') hI.ok hok hI.z hz (fun a ha => Nat.lt_of_lt_of_le (hI.a a ha) hb.size) hnil g1
          rw [g2, g3, hp.length_eq] at h
          rw [g3, hp.length_eq] at hfl
          simp only [intsN_len'] at hfl
          refine h.mono ?_
          rintro e w' ⟨a1, c1, a2, c2, v3, rfl, h1, h2, h3, h4, _⟩
          obtain ⟨A3, c3, rfl, h5, _⟩ := Sl_own h3 rfl
          exact ⟨a1, c1, a2, c2, A3, (intsN k).length, c3, rfl, by rw [intsN_len']; exact hfl, h1, h2, by rw [intsN_len']; exact h5, h4⟩)
      have SM := hide (fun (W : World) (hb : Below w.heap.size w W) (a1 a2 : Option Addr) (c1 c2 : Nat) (h1 : ScS W a1 scs) (h2 : VaS W a2 vs) => show Calls Try.prog 11 #[.slice a1 scs.length c1, .slice A scs.length cap, .slice a2 vs.length c2, .slice A' vs.length cap'] W fun e w' => e = .returned (.bool true) ∧ Below W.heap.size W w' from by
        have h := Same_any c1 cap c2 cap' h1 (sc_below hI.hs hb) h2 (va_below hI.hv hb) hI.hl hI.hl hI.hl' hI.hl'
        rw [show sameB scs scs vs vs = true by unfold sameB; simp] at h
        exact h)
      obtain ⟨n, hn⟩ : ∃ n, scs.length = n := ⟨_, rfl⟩
      obtain ⟨m, hm⟩ : ∃ m, vs.length = m := ⟨_, rfl⟩
      obtain ⟨C, hC⟩ : ∃ C, ch.length = C := ⟨_, rfl⟩
      have FW3 := FW2.out
      have HOK' := HOK.out
      have HIN' := HIN.out
      have OR' := OR.out
      have SM' := SM.out
      rw [hn] at FW3 VA' HIN' OR' SM' hsl
      rw [hm] at FW3 VA' OR' SM' hvl
      rw [hC] at hC0
      have HC0 := hide hC0
      clear hC0
      rw [hn, hm, hC]
      have Hn := hide hn
      have Hm := hide hm
      have HC := hide hC
      have FW4 := hide FW3
      have VA4 := hide VA'
      have OR4 := hide OR'
      have SM4 := hide SM'
      have HIN4 := hide HIN'
      clear hn0 hm0 FW FW' FW2 FW3 VA VA' OR OR' SM SM' HIN HIN' HOK' hs hv hf hch hchb hI hval gd hn hm hC
      go_enter Try.func3, Try.ntmps3
      go_wp2_with fail
      refine AW.out.mono ?_
      rintro e w1 ⟨rfl, hb⟩
      have HB1 := hide hb
      clear hb
      go_wp2_with fail
      refine (FW4.out w1 HB1.out).mono ?_
      rintro e w2 ⟨rfl, rfl⟩
      go_wp2_with fail
      refine (VA4.out w1 HB1.out).mono ?_
      rintro e w2 ⟨rfl, hb⟩
      have HB2 := hide (HB1.out.trans (hb.mono HB1.out.size))
      clear hb
      have hmm := @run_makeMap Try.prog
      have HL0 := hide (LefK.made w2)
      have HB3 := hide ((Below.refl w2.heap.size w2).alloc (Nat.le_refl _) (.map #[] 0))
      go_wp2_with fail
      clear hmm
      have HB3z := hide (show w2.heap.size + 1 ≤ (w2.alloc (.map #[] 0)).heap.size from by rw [World.size_alloc]; exact Nat.le_refl _)
      go_loopw [35] (fun v wr => ∃ (i : Nat) (es : List (Int × Value)), v = .int .i64 (i : Int) ∧ i ≤ m ∧ Hid (LefK wr w2.heap.size (w2.heap.size + 1) es (vs.take i)) ∧ Hid (Below w2.heap.size w2 wr) ∧ w2.heap.size + 1 ≤ wr.heap.size) (fun v _ => m - (intOf v).toNat)
      case atStart => exact ⟨0, [], rfl, Nat.zero_le _, HL0, HB3, HB3z.out⟩
      case round =>
        obtain ⟨i, es, rfl, hi, HL, HB, hBz⟩ := hrel
        by_cases hlt : i < m
        · have hi' : (i : Int) < (m : Int) := by omega
          have hi0 : (0 : Int) ≤ (i : Int) := by omega
          have hw1 : IntKind.i64.wrap ((i : Int) + 1) = (i : Int) + 1 := IntWalk.i64_in _ (by omega)
          have hix : i < vs.length := by rw [Hm.out]; exact hlt
          obtain ⟨b, off, rfl, hbz, hat⟩ := va_at HVS.out hix
          obtain ⟨c0, c1, c2, c3, c4, c5, c6⟩ := hat wr (HB2.out.trans (HB.out.mono HB2.out.size))
          have hs64 := HOK.out i hix
          have HTK := hide (show vs.take (i + 1) = vs.take i ++ [vs[i]] from List.take_succ_eq_append_getElem hix)
          have hlen : (fil (vs[i]'hix).scope (vs.take i)).length ≤ 140 := by
            unfold fil
            refine Nat.le_trans (List.length_filter_le _ _) ?_
            rw [List.length_take]; omega
          generalize vs[i]'hix = v at *
          have HPUT := hide (fun (Y w' : World) (hb : Below wr.heap.size wr Y) (v' : Value) (k : Nat) (ho : w'.ownsRow (w2.heap.size + 1) 29 7 v' k ((fil v.scope (vs.take i) ++ [v]).flatMap vaE)) (hk : k = (fil v.scope (vs.take i)).length + 1) (hg : Y.grownBy w' (valL es v.scope).ownBlock) (hat : v'.ownBlock = (valL es v.scope).ownBlock ∨ v'.ownBlock = some Y.heap.size) => HL.out.put hb hs64 ho hk hg hat hBz)
          have HLK := hide (fun (Y : World) (hb : Below wr.heap.size wr Y) => (HL.out.below hb).look hs64)
          have hrow := HL.out.row v.scope
          generalize valL es v.scope = lv at *
          generalize fil v.scope (vs.take i) = L at *
          obtain ⟨nm, ty, sc, sg, rg, msb, lsb⟩ := v
          simp only at c0 c1 c2 c3 c4 c5 c6 HPUT HLK hs64
          have hr3 := Row.new wr 29 #[.string nm, .int .i64 ty, .int .i64 sc, .int .i64 sg, .bool rg, .int .i64 msb, .int .i64 lsb]
          obtain ⟨W3, hW3⟩ : ∃ W3, wr.alloc (.cells #[.string nm, .int .i64 ty, .int .i64 sc, .int .i64 sg, .bool rg, .int .i64 msb, .int .i64 lsb] 29) = W3 := ⟨_, rfl⟩
          have hz3 : W3.heap.size = wr.heap.size + 1 := by rw [← hW3, World.size_alloc]
          have hb3 : Below wr.heap.size wr W3 := by rw [← hW3]; exact (Below.refl _ _).alloc (Nat.le_refl _) _
          have hown3 := ownsRow_below hrow hb3
          rw [hW3] at hr3
          have HZ3 := hide hz3
          have HB3 := hide hb3
          have HO3 := hide hown3
          have HR3 := hide hr3
          have k0 : W3.cell? ⟨wr.heap.size, 0, none⟩ = some (.string nm) := hr3.cell 0
          have k1 : W3.cell? ⟨wr.heap.size, 1, none⟩ = some (.int .i64 ty) := hr3.cell 1
          have k2 : W3.cell? ⟨wr.heap.size, 2, none⟩ = some (.int .i64 sc) := hr3.cell 2
          have k3 : W3.cell? ⟨wr.heap.size, 3, none⟩ = some (.int .i64 sg) := hr3.cell 3
          have k4 : W3.cell? ⟨wr.heap.size, 4, none⟩ = some (.bool rg) := hr3.cell 4
          have k5 : W3.cell? ⟨wr.heap.size, 5, none⟩ = some (.int .i64 msb) := hr3.cell 5
          have k6 : W3.cell? ⟨wr.heap.size, 6, none⟩ = some (.int .i64 lsb) := hr3.cell 6
          have hlook1 := HLK.out W3.drew hb3.drew
          have hlook2 := HLK.out (W3.drew.alloc (.cells #[.string nm, .int .i64 ty, .int .i64 sc, .int .i64 sg, .bool rg, .int .i64 msb, .int .i64 lsb] 29)) (hb3.drew.alloc (by show wr.heap.size ≤ W3.heap.size; omega) _)
          have hlook3 := HLK.out (W3.alloc (.cells #[.string nm, .int .i64 ty, .int .i64 sc, .int .i64 sg, .bool rg, .int .i64 msb, .int .i64 lsb] 29)).drew (hb3.alloc (by omega) _).drew
          obtain ⟨iV, hiV, hz0', hz1', hz2'⟩ := info_parts infoVa
          have HI := hide hiV
          have HZ0 := hide hz0'
          have HZ1 := hide hz1'
          have HZ2 := hide hz2'
          have H1C := hide (show ∀ u ∈ [Value.string nm, .int .i64 ty, .int .i64 sc, .int .i64 sg, .bool rg, .int .i64 msb, .int .i64 lsb], u.oneCell' = true by intro u hu; simp at hu; rcases hu with rfl | rfl | rfl | rfl | rfl | rfl | rfl <;> rfl)
          have HK1 := hide (show L.length + 1 ≤ maxLen by unfold maxLen; omega)
          have HK2 := hide (show (L.length + 1) * 64 ≤ 140737488355328 by omega)
          have HBz := hide (show w2.heap.size + 1 ≤ W3.heap.size + 1 by omega)
          have HLE := hide (show vaE ⟨nm, ty, sc, sg, rg, msb, lsb⟩ = [.string nm, .int .i64 ty, .int .i64 sc, .int .i64 sg, .bool rg, .int .i64 msb, .int .i64 lsb] from rfl)
          have HOA := hide (show (W3.drew.alloc (.cells #[.string nm, .int .i64 ty, .int .i64 sc, .int .i64 sg, .bool rg, .int .i64 msb, .int .i64 lsb] 29)).ownsRow (w2.heap.size + 1) 29 7 lv L.length (L.flatMap vaE) from World.ownsRow.alloc (w := W3.drew) HO3.out _)
          have HCN := hide (show ∀ (j : Nat) (u : Value), ([Value.string nm, .int .i64 ty, .int .i64 sc, .int .i64 sg, .bool rg, .int .i64 msb, .int .i64 lsb] : List Value)[j]? = some u → (W3.drew.alloc (.cells #[.string nm, .int .i64 ty, .int .i64 sc, .int .i64 sg, .bool rg, .int .i64 msb, .int .i64 lsb] 29)).cell? ((⟨W3.heap.size, 0, none⟩ : Addr).add j) = some u from cells_new (W := W3.drew) _ _ rfl)
          have HBA := hide (show w2.heap.size + 1 ≤ (W3.drew.alloc (.cells #[.string nm, .int .i64 ty, .int .i64 sc, .int .i64 sg, .bool rg, .int .i64 msb, .int .i64 lsb] 29)).heap.size from by rw [World.size_alloc]; exact HBz.out)
          have HB4 := hide (show Below wr.heap.size wr (W3.drew.alloc (.cells #[.string nm, .int .i64 ty, .int .i64 sc, .int .i64 sg, .bool rg, .int .i64 msb, .int .i64 lsb] 29)) from HB3.out.drew.alloc (by show wr.heap.size ≤ W3.heap.size; have := HZ3.out; omega) _)
          have AR := hide (fun (g cap : Nat) (w6 : World) (ho : w6.ownsRow (w2.heap.size + 1) 29 7 (.slice (some ⟨g, 0, none⟩) (L.length + 1) cap) (L.length + 1) (L.flatMap vaE ++ [.string nm, .int .i64 ty, .int .i64 sc, .int .i64 sg, .bool rg, .int .i64 msb, .int .i64 lsb])) (hgr : (W3.drew.alloc (.cells #[.string nm, .int .i64 ty, .int .i64 sc, .int .i64 sg, .bool rg, .int .i64 msb, .int .i64 lsb] 29)).grownBy w6 lv.ownBlock) (hat : lv.ownBlock = some g ∨ g = (W3.drew.alloc (.cells #[.string nm, .int .i64 ty, .int .i64 sc, .int .i64 sg, .bool rg, .int .i64 msb, .int .i64 lsb] 29)).heap.size) =>
            show ∃ W7 es7, (Instr.mapUpdate 27 (.map (some w2.heap.size)) (.int .i64 sc) (.slice (some ⟨g, 0, none⟩) (L.length + 1) cap)).run Try.prog w6 = .ok () W7 ∧ w6.cell? ⟨wr.heap.size, 0, none⟩ = some (.string nm) ∧ w6.cell? ⟨wr.heap.size, 1, none⟩ = some (.int .i64 ty) ∧ w6.cell? ⟨wr.heap.size, 2, none⟩ = some (.int .i64 sc) ∧ w6.cell? ⟨wr.heap.size, 3, none⟩ = some (.int .i64 sg) ∧ w6.cell? ⟨wr.heap.size, 4, none⟩ = some (.bool rg) ∧ w6.cell? ⟨wr.heap.size, 5, none⟩ = some (.int .i64 msb) ∧ w6.cell? ⟨wr.heap.size, 6, none⟩ = some (.int .i64 lsb) ∧ W7.cell? ⟨wr.heap.size, 0, none⟩ = some (.string nm) ∧ W7.cell? ⟨wr.heap.size, 1, none⟩ = some (.int .i64 ty) ∧ W7.cell? ⟨wr.heap.size, 2, none⟩ = some (.int .i64 sc) ∧ W7.cell? ⟨wr.heap.size, 3, none⟩ = some (.int .i64 sg) ∧ W7.cell? ⟨wr.heap.size, 4, none⟩ = some (.bool rg) ∧ W7.cell? ⟨wr.heap.size, 5, none⟩ = some (.int .i64 msb) ∧ W7.cell? ⟨wr.heap.size, 6, none⟩ = some (.int .i64 lsb) ∧
              Hid (LefK W7 w2.heap.size (w2.heap.size + 1) es7 (vs.take (i + 1))) ∧ Hid (Below w2.heap.size w2 W7) ∧ Hid (w2.heap.size + 1 ≤ W7.heap.size) from by
            have HOW : ∀ b, lv.ownBlock = some b → w2.heap.size + 1 ≤ b ∧ b < wr.heap.size := fun b hb => hrow.lt b hb
            have hzY : (W3.drew.alloc (.cells #[.string nm, .int .i64 ty, .int .i64 sc, .int .i64 sg, .bool rg, .int .i64 msb, .int .i64 lsb] 29)).heap.size = wr.heap.size + 2 := by rw [World.size_alloc]; show W3.heap.size + 1 = _; have := HZ3.out; omega
            have ho' : w6.ownsRow (w2.heap.size + 1) 29 7 (.slice (some ⟨g, 0, none⟩) (L.length + 1) cap) (L.length + 1) ((L ++ [(⟨nm, ty, sc, sg, rg, msb, lsb⟩ : Va)]).flatMap vaE) := by
              have e : (L ++ [(⟨nm, ty, sc, sg, rg, msb, lsb⟩ : Va)]).flatMap vaE = L.flatMap vaE ++ [.string nm, .int .i64 ty, .int .i64 sc, .int .i64 sg, .bool rg, .int .i64 msb, .int .i64 lsb] := by rw [List.flatMap_append]; rfl
              rw [e]; exact ho
            obtain ⟨W7, es7, hrun7, hL7, hk7, hz7⟩ := HPUT.out _ w6 HB4.out (.slice (some ⟨g, 0, none⟩) (L.length + 1) cap) _ ho' rfl hgr (by
              rcases hat with h | h
              · exact .inl h.symm
              · exact .inr (congrArg some h))
            have h := ((show Row W3.drew wr.heap.size 29 _ from HR3.out).alloc (.cells #[.string nm, .int .i64 ty, .int .i64 sc, .int .i64 sg, .bool rg, .int .i64 msb, .int .i64 lsb] 29)).grown hgr (fun e => by have := (HOW _ e.symm).2; omega)
            have hz6 := hgr.size
            have h7 := h.keep hk7 (by show ¬ wr.heap.size = w2.heap.size; omega)
            refine ⟨W7, es7, hrun7, h.cell 0, h.cell 1, h.cell 2, h.cell 3, h.cell 4, h.cell 5, h.cell 6, h7.cell 0, h7.cell 1, h7.cell 2, h7.cell 3, h7.cell 4, h7.cell 5, h7.cell 6, hide ?_, hide ?_, hide (by omega)⟩
            · rw [HTK.out]; exact hL7
            · exact ((HB.out.trans (HB4.out.mono HB.out.size)).grown hgr (by omega) (fun j hj => by have := (HOW j hj).1; omega)).trans (hk7.below (fun b hb => Nat.le_of_eq hb.symm) (by omega)))
          clear hat hrow hr3 hz3 hb3 hown3 hlen hiV hz0' hz1' hz2'
          go_wp2_with fail
          go_region_held3 (fun w' => w'.cell? ⟨wr.heap.size, 0, none⟩ = some (.string nm) ∧ w'.cell? ⟨wr.heap.size, 1, none⟩ = some (.int .i64 ty) ∧ w'.cell? ⟨wr.heap.size, 2, none⟩ = some (.int .i64 sc) ∧ w'.cell? ⟨wr.heap.size, 3, none⟩ = some (.int .i64 sg) ∧ w'.cell? ⟨wr.heap.size, 4, none⟩ = some (.bool rg) ∧ w'.cell? ⟨wr.heap.size, 5, none⟩ = some (.int .i64 msb) ∧ w'.cell? ⟨wr.heap.size, 6, none⟩ = some (.int .i64 lsb)) (go_keep) (first
            | (refine step_append_lies _ rfl _ _ 23 rfl (w2.heap.size + 1) 29 iV _ 7 64 Try.underlying23 HI.out HZ0.out HZ1.out HZ2.out rfl (by decide) lv L.length (L.flatMap vaE) rfl HOA.out ⟨W3.heap.size, 0, none⟩ 1 1 [.string nm, .int .i64 ty, .int .i64 sc, .int .i64 sg, .bool rg, .int .i64 msb, .int .i64 lsb] rfl rfl HCN.out H1C.out (by decide) HK1.out HK2.out HBA.out _ rfl ?_; intro g6 cap6 w6 hown6 hgrow6 hat6 hlt6; obtain ⟨W7, es7, hrun7, d0, d1, d2, d3, d4, d5, d6, e0, e1, e2, e3, e4, e5, e6, HL7, HB7, HZ7⟩ := AR.out g6 cap6 w6 hown6 hgrow6 hat6; clear hown6 hgrow6 hat6 hlt6))
          all_goals
            as_aux_lemma =>
              go_wp2
              go_roundw
              case rel => exact ⟨i + 1, es7, by go_num, by omega, HL7, HB7, HZ7.out⟩
              case measure => simp [intOf]; omega
        · obtain rfl : i = m := by omega
          have hi' : ¬ (i : Int) < (i : Int) := by omega
          have HR0 := hide (show RemK wr wr w2.heap.size es (fun s => fil s vs) from RemK.start (by
            have h := HL.out
            rw [List.take_of_length_le (Nat.le_of_eq Hm.out)] at h
            exact h))
          obtain ⟨w4, hw4⟩ : ∃ w4, w4 = wr := ⟨_, rfl⟩
          subst hw4
          have HB4 := hide (HB2.out.trans (HB.out.mono HB2.out.size))
          have HRZ := hide (show w2.heap.size < w4.heap.size by omega)
          have HF0 := hide (show ∀ s, fil s ([] : List Va) ++ (fun s => fil s vs) s = fil s vs from fun s => rfl)
          have HK0 := hide (Keeps.refl (fun b => b = w2.heap.size) w4)
          obtain ⟨r, hr⟩ : ∃ r, w2.heap.size = r := ⟨_, rfl⟩
          rw [hr] at HR0 HRZ HK0
          have HRW := hide (show w.heap.size ≤ r by rw [← hr]; exact HB2.out.size)
          have HMB := hide (show C * 42 + 140 * 42 + 41 < 9000000000000000000 by have := HC0.out; omega)
          clear HL HB hi hi' hBz HL0 HB3 HB3z FW4 VA4 hlt
          go_wp2_with fail
          clear hr
          go_loopg [10, 11] (leftH (fun s => fil s vs) (n + 1) C i 0 0) (fun g v10 v11 ws => ∃ (nn : Nat) (M : List Va) (R : Int → List Va) (es : List (Int × Value)) (A10 : Option Addr) (c10 : Nat), v11 = .int .i64 (nn : Int) ∧ v10 = .slice A10 M.length c10 ∧ M.length ≤ i ∧ Hid (g = leftH R (n + 1) C i nn M.length) ∧ Hid (nn + g ≤ C * 42 + 140 * 42 + 41) ∧ Hid (∀ s, fil s M ++ R s = fil s vs) ∧ Hid (RemK w4 ws r es R) ∧ Hid (ws.ownsRow w4.heap.size 29 7 (.slice A10 M.length c10) M.length (M.flatMap vaE)) ∧ Hid (Keeps (fun b => b = r) w4 ws))
          case atStart => exact ⟨0, [], fun s => fil s vs, es, none, 0, rfl, rfl, Nat.zero_le _, hide rfl, hide (leftH_max (by omega) hvl), HF0, HR0, hide (World.ownsRow_nil _ _ _ _), HK0⟩
          case round =>
            obtain ⟨ws, hws⟩ : ∃ ws, ws = wr := ⟨_, rfl⟩
            subst hws
            obtain ⟨nn, M, R, es, A10, c10, rfl, rfl, hM, HG, HN, HF, HR, HO, HK⟩ := hrel
            by_cases hlt : M.length < i
            · have hM' : (M.length : Int) < (i : Int) := by omega
              have hn0 : (0 : Int) ≤ (nn : Int) := by omega
              have hw1 : IntKind.i64.wrap ((nn : Int) + 1) = (nn : Int) + 1 := IntWalk.i64_in _ (by have := HN.out; have := HMB.out; omega)
              obtain ⟨at0, hat0⟩ : ∃ at0 : Int, (if h : nn < ch.length then ch[nn] else (nn : Int)) = at0 := ⟨_, rfl⟩
              have HA0 := hide hat0
              have hp0 : 0 ≤ at0 := by
                rw [← hat0]; split
                · exact (HCB.out _ (List.getElem_mem _)).1
                · exact hn0
              have hp1 : at0 ≤ 9000000000000000000 := by
                rw [← hat0]; split
                · have := (HCB.out _ (List.getElem_mem ‹nn < ch.length›)).2; omega
                · have := HN.out; have := HMB.out; omega
              have HP1 := hide hp1
              clear hat0 hp1
              go_upto_if 61 with fail
              go_cut [12] (fun v12 wx => v12 = .int .i64 at0 ∧ wx = ws)
              case first =>
                by_cases hc : nn < C
                · have hix : nn < ch.length := by rw [HC.out]; exact hc
                  have hc' : (nn : Int) < (C : Int) := by omega
                  obtain ⟨b2, o2, rfl, hbz2, hat2⟩ := HCH.out.at hix
                  have hcell := (HK.out.cell (p := ⟨b2, o2 + nn, none⟩) (by show b2 < _; have := HB4.out.size; omega) (by show ¬ b2 = r; have := HRW.out; omega)).trans (hat2 w4 HB4.out)
                  have HE := hide (show ch[nn] = at0 by rw [← HA0.out, dif_pos hix])
                  have hq := HCB.out _ (List.getElem_mem hix)
                  obtain ⟨hq1, hq2⟩ := hq
                  generalize ch[nn]'hix = q at *
                  clear hat2
                  go_wp2_with fail
                  go_meet
                  exact ⟨by rw [HE.out], rfl⟩
                · have hc' : ¬ (nn : Int) < (C : Int) := by omega
                  have HE := hide (show (nn : Int) = at0 by rw [← HA0.out, dif_neg (by rw [HC.out]; exact hc)])
                  go_wp2_with fail
                  go_meet
                  exact ⟨by rw [HE.out], rfl⟩
              case rest =>
                obtain ⟨rfl, hwc⟩ := hcut
                subst wc
                have hn40 : (n : Int) + 1 ≤ 41 := by omega
                have hm0 : 0 ≤ at0 % ((n : Int) + 1) := Int.emod_nonneg _ (by omega)
                have hm1 : at0 % ((n : Int) + 1) < (n : Int) + 1 := Int.emod_lt_of_pos _ (by omega)
                obtain ⟨s, hs⟩ : ∃ s, at0 % ((n : Int) + 1) - 1 = s := ⟨_, rfl⟩
                have hws : wrap64 (at0 % ((n : Int) + 1) - 1) = s := (IntWalk.wrap64_in _ ⟨by omega, by omega⟩).trans hs
                have hs1 : -1 ≤ s := by omega
                have hs2 : s < n := by omega
                have HS := hide hs
                have hs64 : In64 s := ⟨by omega, by omega⟩
                clear hs hm0 hm1
                go_upto_region 19 with fail
                rw [hws]
                clear hws
                cases hRs : R s with
                | nil =>
                  obtain ⟨A13, c13, hlk⟩ := HR.out.look_none hs64 hRs
                  have HRS := hide hRs
                  clear hRs
                  have HMS := hide (show leftH R (n + 1) C i (nn + 1) M.length < gk from by
                    rw [HG.out]
                    by_cases hc : nn < C
                    · exact leftH_lt1 hc (Nat.le_refl _)
                    · refine leftH_lt3 hc ?_
                      obtain ⟨s', hs'⟩ := (take_len HF.out).1 (by rw [Hm.out]; exact hlt)
                      obtain ⟨u, r', hu⟩ := List.exists_cons_of_ne_nil hs'
                      have hu2 := rem_scope HF.out (s := s') u (by rw [hu]; simp)
                      have hu3 := HIN4.out u hu2.1
                      refine gapH_step (by omega) (s := s') (by omega) (by omega) hs' ?_
                      have e : (((nn % (n + 1) : Nat) : Int) - 1) = s := by
                        have h := HS.out
                        rw [← HA0.out, dif_neg (by rw [HC.out]; exact hc)] at h
                        rw [← h]; rfl
                      rw [e]; exact HRS.out)
                  go_wp2
                  go_roundg (leftH R (n + 1) C i (nn + 1) M.length)
                  case measure => exact HMS.out
                  case rel => exact ⟨nn + 1, M, R, es, A10, c10, by go_num, rfl, hM, hide rfl, hide (by have h1 := HN.out; have h2 := HMS.out; omega), HF, HR, HO, HK⟩
                | cons v rest =>
                  obtain ⟨b3, off3, c3, st, hlk, hc3, hb3r, hvas, hte, hts⟩ := HR.out.take hs64 hRs
                  have hlook := hlk ws rfl
                  have hvin := rem_scope HF.out (s := s) v (by rw [hRs]; simp)
                  have hvasW := va_kept hvas HK.out (fun a ha => by cases ha; exact hb3r)
                  have hb3lt : b3 < w4.heap.size := by
                    obtain ⟨b', o', e, _, _⟩ := va_at hvas (i := 0) (by simp)
                    cases e; assumption
                  obtain ⟨b', o', e, _, hat⟩ := va_at hvasW (i := 0) (by simp)
                  cases e
                  obtain ⟨c0, c1, c2, c3', c4, c5, c6⟩ := hat ws (Below.refl _ _)
                  have HVR := hide (show VaS w4 (some ⟨b3, off3 + 7, none⟩) rest from fun hp => ⟨b3, off3 + 7, rfl, fun i hi j hj => by
                    obtain ⟨b', o', e, hat⟩ := hvas (by simp)
                    cases e
                    have h := hat (i + 1) (by simp; omega) j hj
                    rw [show off3 + (i + 1) * 7 + j = off3 + 7 + i * 7 + j by omega] at h
                    exact h⟩)
                  simp only [List.getElem_cons_zero, Nat.zero_mul, Nat.add_zero] at c0 c1 c2 c3' c4 c5 c6
                  have HTE := hide hte
                  have HTS := hide hts
                  have HRS := hide hRs
                  have HB3z := hide hb3lt
                  have HBr := hide hb3r
                  have HVIN := hide hvin
                  have HFT := hide (rem_take HF.out hRs)
                  obtain ⟨nm, ty, sc, sg, rg, msb, lsb⟩ := v
                  simp only at c0 c1 c2 c3' c4 c5 c6
                  have HCS := hide (And.intro c0 (And.intro c1 (And.intro c2 (And.intro c3' (And.intro c4 (And.intro c5 c6))))))
                  have he1 := hte ws.drew rfl
                  have he2 := hte (ws.drew.alloc (.cells #[.string nm, .int .i64 ty, .int .i64 sc, .int .i64 sg, .bool rg, .int .i64 msb, .int .i64 lsb] 29)) (Below.heap_alloc ws.drew _ _ (by show r < ws.heap.size; have := HRZ.out; have := HK.out.size; omega))
                  have he3 := hte (ws.alloc (.cells #[.string nm, .int .i64 ty, .int .i64 sc, .int .i64 sg, .bool rg, .int .i64 msb, .int .i64 lsb] 29)).drew (Below.heap_alloc ws _ _ (by have := HRZ.out; have := HK.out.size; omega))
                  obtain ⟨iV, hiV, hz0', hz1', hz2'⟩ := info_parts infoVa
                  have HI := hide hiV
                  have HZ0 := hide hz0'
                  have HZ1 := hide hz1'
                  have HZ2 := hide hz2'
                  have H1C := hide (show ∀ u ∈ [Value.string nm, .int .i64 ty, .int .i64 sc, .int .i64 sg, .bool rg, .int .i64 msb, .int .i64 lsb], u.oneCell' = true by intro u hu; simp at hu; rcases hu with rfl | rfl | rfl | rfl | rfl | rfl | rfl <;> rfl)
                  have HK1 := hide (show M.length + 1 ≤ maxLen by unfold maxLen; omega)
                  have HK2 := hide (show (M.length + 1) * 64 ≤ 140737488355328 by omega)
                  have HOA := hide (show (ws.drew.alloc (.cells #[.string nm, .int .i64 ty, .int .i64 sc, .int .i64 sg, .bool rg, .int .i64 msb, .int .i64 lsb] 29)).ownsRow w4.heap.size 29 7 (.slice A10 M.length c10) M.length (M.flatMap vaE) from World.ownsRow.alloc (w := ws.drew) HO.out _)
                  have HCN := hide (show ∀ (j : Nat) (u : Value), ([Value.string nm, .int .i64 ty, .int .i64 sc, .int .i64 sg, .bool rg, .int .i64 msb, .int .i64 lsb] : List Value)[j]? = some u → (ws.drew.alloc (.cells #[.string nm, .int .i64 ty, .int .i64 sc, .int .i64 sg, .bool rg, .int .i64 msb, .int .i64 lsb] 29)).cell? ((⟨ws.heap.size, 0, none⟩ : Addr).add j) = some u from cells_new (W := ws.drew) _ _ rfl)
                  have HBA := hide (show w4.heap.size ≤ (ws.drew.alloc (.cells #[.string nm, .int .i64 ty, .int .i64 sc, .int .i64 sg, .bool rg, .int .i64 msb, .int .i64 lsb] 29)).heap.size from by rw [World.size_alloc]; show w4.heap.size ≤ ws.heap.size + 1; have := HK.out.size; omega)
                  clear hat hvas hvasW hte hts hRs hlk hb3lt hb3r hvin hiV hz0' hz1' hz2'
                  have hr0 : (0 : Int) < (rest.length : Int) + 1 := by omega
                  have hr1 : (1 : Int) ≤ (rest.length : Int) + 1 := by omega
                  have hr2 : 1 ≤ rest.length + 1 := by omega
                  have hr3 : (0 : Int) ≤ (rest.length : Int) := by omega
                  by_cases hc1 : c3 = 1
                  · obtain rfl : rest = [] := List.eq_nil_of_length_eq_zero (by omega)
                    subst hc1
                    simp only [List.length_nil, Nat.zero_add] at hlook he1 he2 he3 HTE HTS
                    clear hr0 hr1 hr2 hr3 hc3
                    have HMS := hide (show leftH (fun x => if x = s then [] else R x) (n + 1) C i (nn + 1) (M.length + 1) < gk from by
                      rw [HG.out]
                      by_cases hc : nn < C
                      · exact leftH_lt1 hc (Nat.le_succ _)
                      · exact leftH_lt2 hc hlt)
                    go_wp2_with fail

                    have AR := hide (fun (g cap : Nat) (w6 : World) (ho : w6.ownsRow w4.heap.size 29 7 (.slice (some ⟨g, 0, none⟩) (M.length + 1) cap) (M.length + 1) (M.flatMap vaE ++ [.string nm, .int .i64 ty, .int .i64 sc, .int .i64 sg, .bool rg, .int .i64 msb, .int .i64 lsb])) (hgr : (ws.drew.alloc (.cells #[.string nm, .int .i64 ty, .int .i64 sc, .int .i64 sg, .bool rg, .int .i64 msb, .int .i64 lsb] 29)).grownBy w6 (Value.slice A10 M.length c10).ownBlock) =>
                      show ∃ W7 es7, (Instr.mapEntry 27 (.map (some r)) (.int .i64 s)).run Try.prog w6 = .ok (.tuple #[.slice (some ⟨b3, off3, none⟩) 1 1, .int .i64 (st : Int)]) w6 ∧ (Instr.entryStore 27 (.map (some r)) (.int .i64 (st : Int)) (.slice (some ⟨b3, off3, none⟩) 0 0)).run Try.prog w6 = .ok () W7 ∧ w6.cell? ⟨b3, off3, none⟩ = some (.string nm) ∧ w6.cell? ⟨b3, off3 + 1, none⟩ = some (.int .i64 ty) ∧ w6.cell? ⟨b3, off3 + 2, none⟩ = some (.int .i64 sc) ∧ w6.cell? ⟨b3, off3 + 3, none⟩ = some (.int .i64 sg) ∧ w6.cell? ⟨b3, off3 + 4, none⟩ = some (.bool rg) ∧ w6.cell? ⟨b3, off3 + 5, none⟩ = some (.int .i64 msb) ∧ w6.cell? ⟨b3, off3 + 6, none⟩ = some (.int .i64 lsb) ∧ W7.cell? ⟨b3, off3, none⟩ = some (.string nm) ∧ W7.cell? ⟨b3, off3 + 1, none⟩ = some (.int .i64 ty) ∧ W7.cell? ⟨b3, off3 + 2, none⟩ = some (.int .i64 sc) ∧ W7.cell? ⟨b3, off3 + 3, none⟩ = some (.int .i64 sg) ∧ W7.cell? ⟨b3, off3 + 4, none⟩ = some (.bool rg) ∧ W7.cell? ⟨b3, off3 + 5, none⟩ = some (.int .i64 msb) ∧ W7.cell? ⟨b3, off3 + 6, none⟩ = some (.int .i64 lsb) ∧
                        Hid (RemK w4 W7 r es7 (fun x => if x = s then [] else R x)) ∧ Hid (W7.ownsRow w4.heap.size 29 7 (.slice (some ⟨g, 0, none⟩) (M.length + 1) cap) (M.length + 1) ((M ++ [(⟨nm, ty, sc, sg, rg, msb, lsb⟩ : Va)]).flatMap vaE)) ∧ Hid (Keeps (fun b => b = r) w4 W7) from by
                      have hOW : ∀ b, (Value.slice A10 M.length c10).ownBlock = some b → w4.heap.size ≤ b := fun b hb => (HO.out.lt b hb).1
                      have hz := HK.out.size
                      have hrz := HRZ.out
                      have hblk : ∀ b, b < w4.heap.size → w6.heap[b]? = ws.heap[b]? := fun b hb => (hgr.block b (by rw [World.size_alloc]; show b < ws.heap.size + 1; omega) (fun e => by have := hOW b e.symm; omega)).trans (Below.heap_alloc ws.drew _ _ (by show b < ws.heap.size; omega))
                      have hr6 := hblk r hrz
                      obtain ⟨W7, es7, hrun, hR7, hk7, hz7⟩ := HTS.out w6 hr6 ⟨b3, off3, none⟩ 0 (Nat.le_refl _) rfl (fun hp => absurd hp (by simp))
                      have hc6 : ∀ (o : Nat) (u : Value), ws.cell? ⟨b3, o, none⟩ = some u → w6.cell? ⟨b3, o, none⟩ = some u ∧ W7.cell? ⟨b3, o, none⟩ = some u := fun o u h => by
                        have h1 : w6.cell? ⟨b3, o, none⟩ = some u := (World.cell?_of_block (a := ⟨b3, o, none⟩) (hblk b3 HB3z.out)).trans h
                        exact ⟨h1, (hk7.cell (p := ⟨b3, o, none⟩) (World.block_lt_of_cell? w6 _ h1) HBr.out).trans h1⟩
                      obtain ⟨l0, l1, l2, l3, l4, l5, l6⟩ := HCS.out
                      have eV : (M ++ [(⟨nm, ty, sc, sg, rg, msb, lsb⟩ : Va)]).flatMap vaE = M.flatMap vaE ++ [.string nm, .int .i64 ty, .int .i64 sc, .int .i64 sg, .bool rg, .int .i64 msb, .int .i64 lsb] := by rw [List.flatMap_append]; rfl
                      refine ⟨W7, es7, HTE.out w6 hr6, hrun, (hc6 _ _ l0).1, (hc6 _ _ l1).1, (hc6 _ _ l2).1, (hc6 _ _ l3).1, (hc6 _ _ l4).1, (hc6 _ _ l5).1, (hc6 _ _ l6).1, (hc6 _ _ l0).2, (hc6 _ _ l1).2, (hc6 _ _ l2).2, (hc6 _ _ l3).2, (hc6 _ _ l4).2, (hc6 _ _ l5).2, (hc6 _ _ l6).2, hide hR7, hide ?_, hide ?_⟩
                      · rw [eV]
                        exact ownsRow_sameH ho (fun b hb => hk7.block b (ho.lt b hb).2 (by show ¬ b = r; have := (ho.lt b hb).1; omega))
                      · exact ((HK.out.trans (Keeps.of_below ((Below.refl ws.heap.size ws).drew.alloc (Nat.le_refl _) _) (Nat.le_refl _) : Keeps (fun b => b = r) ws _)).grown hgr (fun b hb => .inr (hOW b hb))).trans' hk7 (fun b hb => .inl hb))
                    go_region_held3 (fun w' => w'.cell? ⟨b3, off3, none⟩ = some (.string nm) ∧ w'.cell? ⟨b3, off3 + 1, none⟩ = some (.int .i64 ty) ∧ w'.cell? ⟨b3, off3 + 2, none⟩ = some (.int .i64 sc) ∧ w'.cell? ⟨b3, off3 + 3, none⟩ = some (.int .i64 sg) ∧ w'.cell? ⟨b3, off3 + 4, none⟩ = some (.bool rg) ∧ w'.cell? ⟨b3, off3 + 5, none⟩ = some (.int .i64 msb) ∧ w'.cell? ⟨b3, off3 + 6, none⟩ = some (.int .i64 lsb)) (go_keep) (first
                      | (refine step_append_lies _ rfl _ _ 23 rfl w4.heap.size 29 iV _ 7 64 Try.underlying23 HI.out HZ0.out HZ1.out HZ2.out rfl (by decide) (.slice A10 M.length c10) M.length (M.flatMap vaE) rfl HOA.out ⟨ws.heap.size, 0, none⟩ 1 1 [.string nm, .int .i64 ty, .int .i64 sc, .int .i64 sg, .bool rg, .int .i64 msb, .int .i64 lsb] rfl rfl HCN.out H1C.out (by decide) HK1.out HK2.out HBA.out _ rfl ?_; intro g6 cap6 w6 hown6 hgrow6 hat6 hlt6; obtain ⟨W7, es7, hme7, hrun7, d0, d1, d2, d3, d4, d5, d6, e0, e1, e2, e3, e4, e5, e6, HR7, HO7, HK7⟩ := AR.out g6 cap6 w6 hown6 hgrow6; clear hown6 hgrow6 hat6 hlt6))
                    all_goals
                      as_aux_lemma =>
                        go_wp2
                        go_roundg (leftH (fun x => if x = s then [] else R x) (n + 1) C i (nn + 1) (M.length + 1))
                        case measure => exact HMS.out
                        case rel => exact ⟨nn + 1, M ++ [⟨nm, ty, sc, sg, rg, msb, lsb⟩], fun x => if x = s then [] else R x, es7, some ⟨g6, 0, none⟩, cap6, by go_num, by rw [List.length_append]; rfl, by rw [List.length_append]; exact hlt, hide (by rw [List.length_append]; rfl), hide (by have h1 := HN.out; have h2 := HMS.out; omega), HFT, HR7, hide (by rw [List.length_append]; exact HO7.out), HK7⟩

                  · have hc4 : rest.length ≤ c3 - 1 := by omega
                    have HMS := hide (show leftH (fun x => if x = s then rest else R x) (n + 1) C i (nn + 1) (M.length + 1) < gk from by
                      rw [HG.out]
                      by_cases hc : nn < C
                      · exact leftH_lt1 hc (Nat.le_succ _)
                      · exact leftH_lt2 hc hlt)
                    go_wp2_with fail

                    have AR := hide (fun (g cap : Nat) (w6 : World) (ho : w6.ownsRow w4.heap.size 29 7 (.slice (some ⟨g, 0, none⟩) (M.length + 1) cap) (M.length + 1) (M.flatMap vaE ++ [.string nm, .int .i64 ty, .int .i64 sc, .int .i64 sg, .bool rg, .int .i64 msb, .int .i64 lsb])) (hgr : (ws.drew.alloc (.cells #[.string nm, .int .i64 ty, .int .i64 sc, .int .i64 sg, .bool rg, .int .i64 msb, .int .i64 lsb] 29)).grownBy w6 (Value.slice A10 M.length c10).ownBlock) =>
                      show ∃ W7 es7, (Instr.mapEntry 27 (.map (some r)) (.int .i64 s)).run Try.prog w6 = .ok (.tuple #[.slice (some ⟨b3, off3, none⟩) (rest.length + 1) c3, .int .i64 (st : Int)]) w6 ∧ (Instr.entryStore 27 (.map (some r)) (.int .i64 (st : Int)) (.slice (some ⟨b3, off3 + 7, none⟩) rest.length (c3 - 1))).run Try.prog w6 = .ok () W7 ∧ w6.cell? ⟨b3, off3, none⟩ = some (.string nm) ∧ w6.cell? ⟨b3, off3 + 1, none⟩ = some (.int .i64 ty) ∧ w6.cell? ⟨b3, off3 + 2, none⟩ = some (.int .i64 sc) ∧ w6.cell? ⟨b3, off3 + 3, none⟩ = some (.int .i64 sg) ∧ w6.cell? ⟨b3, off3 + 4, none⟩ = some (.bool rg) ∧ w6.cell? ⟨b3, off3 + 5, none⟩ = some (.int .i64 msb) ∧ w6.cell? ⟨b3, off3 + 6, none⟩ = some (.int .i64 lsb) ∧ W7.cell? ⟨b3, off3, none⟩ = some (.string nm) ∧ W7.cell? ⟨b3, off3 + 1, none⟩ = some (.int .i64 ty) ∧ W7.cell? ⟨b3, off3 + 2, none⟩ = some (.int .i64 sc) ∧ W7.cell? ⟨b3, off3 + 3, none⟩ = some (.int .i64 sg) ∧ W7.cell? ⟨b3, off3 + 4, none⟩ = some (.bool rg) ∧ W7.cell? ⟨b3, off3 + 5, none⟩ = some (.int .i64 msb) ∧ W7.cell? ⟨b3, off3 + 6, none⟩ = some (.int .i64 lsb) ∧
                        Hid (RemK w4 W7 r es7 (fun x => if x = s then rest else R x)) ∧ Hid (W7.ownsRow w4.heap.size 29 7 (.slice (some ⟨g, 0, none⟩) (M.length + 1) cap) (M.length + 1) ((M ++ [(⟨nm, ty, sc, sg, rg, msb, lsb⟩ : Va)]).flatMap vaE)) ∧ Hid (Keeps (fun b => b = r) w4 W7) from by
                      have hOW : ∀ b, (Value.slice A10 M.length c10).ownBlock = some b → w4.heap.size ≤ b := fun b hb => (HO.out.lt b hb).1
                      have hz := HK.out.size
                      have hrz := HRZ.out
                      have hblk : ∀ b, b < w4.heap.size → w6.heap[b]? = ws.heap[b]? := fun b hb => (hgr.block b (by rw [World.size_alloc]; show b < ws.heap.size + 1; omega) (fun e => by have := hOW b e.symm; omega)).trans (Below.heap_alloc ws.drew _ _ (by show b < ws.heap.size; omega))
                      have hr6 := hblk r hrz
                      obtain ⟨W7, es7, hrun, hR7, hk7, hz7⟩ := HTS.out w6 hr6 ⟨b3, off3 + 7, none⟩ (c3 - 1) (by omega) rfl (by exact HVR.out)
                      have hc6 : ∀ (o : Nat) (u : Value), ws.cell? ⟨b3, o, none⟩ = some u → w6.cell? ⟨b3, o, none⟩ = some u ∧ W7.cell? ⟨b3, o, none⟩ = some u := fun o u h => by
                        have h1 : w6.cell? ⟨b3, o, none⟩ = some u := (World.cell?_of_block (a := ⟨b3, o, none⟩) (hblk b3 HB3z.out)).trans h
                        exact ⟨h1, (hk7.cell (p := ⟨b3, o, none⟩) (World.block_lt_of_cell? w6 _ h1) HBr.out).trans h1⟩
                      obtain ⟨l0, l1, l2, l3, l4, l5, l6⟩ := HCS.out
                      have eV : (M ++ [(⟨nm, ty, sc, sg, rg, msb, lsb⟩ : Va)]).flatMap vaE = M.flatMap vaE ++ [.string nm, .int .i64 ty, .int .i64 sc, .int .i64 sg, .bool rg, .int .i64 msb, .int .i64 lsb] := by rw [List.flatMap_append]; rfl
                      refine ⟨W7, es7, HTE.out w6 hr6, hrun, (hc6 _ _ l0).1, (hc6 _ _ l1).1, (hc6 _ _ l2).1, (hc6 _ _ l3).1, (hc6 _ _ l4).1, (hc6 _ _ l5).1, (hc6 _ _ l6).1, (hc6 _ _ l0).2, (hc6 _ _ l1).2, (hc6 _ _ l2).2, (hc6 _ _ l3).2, (hc6 _ _ l4).2, (hc6 _ _ l5).2, (hc6 _ _ l6).2, hide hR7, hide ?_, hide ?_⟩
                      · rw [eV]
                        exact ownsRow_sameH ho (fun b hb => hk7.block b (ho.lt b hb).2 (by show ¬ b = r; have := (ho.lt b hb).1; omega))
                      · exact ((HK.out.trans (Keeps.of_below ((Below.refl ws.heap.size ws).drew.alloc (Nat.le_refl _) _) (Nat.le_refl _) : Keeps (fun b => b = r) ws _)).grown hgr (fun b hb => .inr (hOW b hb))).trans' hk7 (fun b hb => .inl hb))
                    go_region_held3 (fun w' => w'.cell? ⟨b3, off3, none⟩ = some (.string nm) ∧ w'.cell? ⟨b3, off3 + 1, none⟩ = some (.int .i64 ty) ∧ w'.cell? ⟨b3, off3 + 2, none⟩ = some (.int .i64 sc) ∧ w'.cell? ⟨b3, off3 + 3, none⟩ = some (.int .i64 sg) ∧ w'.cell? ⟨b3, off3 + 4, none⟩ = some (.bool rg) ∧ w'.cell? ⟨b3, off3 + 5, none⟩ = some (.int .i64 msb) ∧ w'.cell? ⟨b3, off3 + 6, none⟩ = some (.int .i64 lsb)) (go_keep) (first
                      | (refine step_append_lies _ rfl _ _ 23 rfl w4.heap.size 29 iV _ 7 64 Try.underlying23 HI.out HZ0.out HZ1.out HZ2.out rfl (by decide) (.slice A10 M.length c10) M.length (M.flatMap vaE) rfl HOA.out ⟨ws.heap.size, 0, none⟩ 1 1 [.string nm, .int .i64 ty, .int .i64 sc, .int .i64 sg, .bool rg, .int .i64 msb, .int .i64 lsb] rfl rfl HCN.out H1C.out (by decide) HK1.out HK2.out HBA.out _ rfl ?_; intro g6 cap6 w6 hown6 hgrow6 hat6 hlt6; obtain ⟨W7, es7, hme7, hrun7, d0, d1, d2, d3, d4, d5, d6, e0, e1, e2, e3, e4, e5, e6, HR7, HO7, HK7⟩ := AR.out g6 cap6 w6 hown6 hgrow6; clear hown6 hgrow6 hat6 hlt6))
                    all_goals
                      as_aux_lemma =>
                        go_wp2
                        go_roundg (leftH (fun x => if x = s then rest else R x) (n + 1) C i (nn + 1) (M.length + 1))
                        case measure => exact HMS.out
                        case rel => exact ⟨nn + 1, M ++ [⟨nm, ty, sc, sg, rg, msb, lsb⟩], fun x => if x = s then rest else R x, es7, some ⟨g6, 0, none⟩, cap6, by go_num, by rw [List.length_append]; rfl, by rw [List.length_append]; exact hlt, hide (by rw [List.length_append]; rfl), hide (by have h1 := HN.out; have h2 := HMS.out; omega), HFT, HR7, hide (by rw [List.length_append]; exact HO7.out), HK7⟩

            · obtain rfl : i = M.length := by omega
              have hM' : ¬ (M.length : Int) < (M.length : Int) := by omega
              have HFI := hide (show ∀ s, fil s M = fil s vs from fun s => by
                have h := HF.out s
                rw [(take_len HF.out).2 Hm.out.symm s, List.append_nil] at h
                exact h)
              have HBW := hide (show Below w.heap.size w ws from HB4.out.trans (HK.out.below (fun b hb => by have := HRW.out; omega) HB4.out.size))
              have OM := hide (OR4.out ws HBW.out M HFI.out A10 c10 (by obtain ⟨A9, c9, e9, h9⟩ := FlS.own vaE_len HO.out; cases e9; exact h9) (fun e => by
                subst e
                rcases HO.out.2 with ⟨h1, h2⟩ | ⟨g, cap, cur, h1, _⟩
                · exact ⟨(Value.slice.inj h1).2.2, List.eq_nil_of_length_eq_zero h2⟩
                · cases h1))
              go_wp2_with fail
              refine OM.out.mono ?_
              rintro e w8 ⟨a1, c1, a2, c2, a3, k, c3, rfl, hk, h1, h2, h3, hb⟩
              have HB8 := hide (HBW.out.trans (hb.mono HBW.out.size))
              have SM8 := hide (SM4.out w8 HB8.out a1 a2 c1 c2 h1 h2)
              have HS3 := hide h3
              clear h1 h2 h3 hb
              go_wp2_with fail
              refine SM8.out.mono ?_
              rintro e w9 ⟨rfl, hb⟩
              have HB9 := hide (HB8.out.trans (hb.mono HB8.out.size))
              have HS9 := hide (HS3.out.below hb)
              clear hb
              go_wp2_with fail
              go_loopw [111] (fun v wx => ∃ j : Nat, v = .int .i64 (j : Int) ∧ j ≤ k ∧ w9 = wx) (fun v _ => k - (intOf v).toNat)
              case atStart => exact ⟨0, rfl, Nat.zero_le _, rfl⟩
              case round =>
                obtain ⟨j, rfl, hj, rfl⟩ := hrel
                by_cases hlt2 : j < k
                · have hj' : (j : Int) < (k : Int) := by omega
                  have hj0 : (0 : Int) ≤ (j : Int) := by omega
                  have hw2 : IntKind.i64.wrap ((j : Int) + 1) = (j : Int) + 1 := IntWalk.i64_in _ (by omega)
                  have hjx : j < (intsN k).length := by rw [intsN_len']; exact hlt2
                  obtain ⟨b2, o2, rfl, _, hat2⟩ := HS9.out.at hjx
                  have hcell : w9.cell? ⟨b2, o2 + j, none⟩ = some (.int .i64 (j : Int)) := (hat2 w9 (Below.refl _ _)).trans (by unfold intV; rw [intsN_at'])
                  have q1 : ((j : Int) == (j : Int)) = true := beq_self_eq_true _
                  clear hat2
                  go_wp2
                  go_roundw
                  case rel => exact ⟨j + 1, by go_num, by omega, by first | rfl | trivial⟩
                  case measure => simp [intOf]; omega
                · obtain rfl : j = k := by omega
                  have hj' : ¬ (j : Int) < (j : Int) := by omega
                  go_wp2
                  go_ret
                  exact ⟨rfl, HB9.out⟩
end Go.Proofs.Ytpfiofgchkfkhaa
