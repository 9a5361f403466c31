/- The walk of HierarchyTree. -/
import Derived.Test.YtpfiofgchkfkhaaMgN
import Derived.Test.YtpfiofgchkfkhaaMgJ
import Derived.ChangeAlike
set_option linter.unusedVariables false
set_option linter.unusedSimpArgs false
namespace Go.Proofs.Ytpfiofgchkfkhaa
open Go.RowKit Go.Shelf Go.Maps
/-- what the loops lean on -/
structure TreK (w : World) (scs : List Sc) (vs : List Va) (A A' : Option Addr) (n m cap cap' : Nat) : Prop where
  ss : ScS w A scs
  vs_ : VaS w A' vs
  hn : scs.length = n
  hm : vs.length = m
  few : n ≤ 40 ∧ m ≤ 140
  vd : validH scs vs = true
  kids : ∀ (i : Int) (W : World), Below w.heap.size w W → Calls Try.prog 19 #[.slice A n cap, .slice A' m cap', .int .i64 i] W fun e w' => ∃ v1 v2, e = .returned (.tuple #[v1, v2]) ∧ w'.ownsRow W.heap.size 3 1 v1 (kidsS scs vs i).length ((kidsS scs vs i).map intV) ∧ w'.ownsRow W.heap.size 3 1 v2 (kidsV scs vs i).length ((kidsV scs vs i).map intV) ∧ Below W.heap.size W w'
  path : ∀ (i : Int) (W : World), Below w.heap.size w W → Calls Try.prog 15 #[.slice A n cap, .int .i64 i] W fun e w' => ∃ v, e = .returned v ∧ w'.ownsRow W.heap.size 9 1 v (PathOf scs i).length ((PathOf scs i).map Value.string) ∧ Below W.heap.size W w'
  full : ∀ (v : Va) (W : World), Below w.heap.size w W → Calls Try.prog 17 #[.slice A n cap, vaV v] W fun e w' => ∃ u, e = .returned u ∧ w'.ownsRow W.heap.size 9 1 u (FullOf scs v).length ((FullOf scs v).map Value.string) ∧ Below W.heap.size W w'
  plen : ∀ i, (PathOf scs i).length ≤ n
theorem treK_of {w : World} {scs : List Sc} {vs : List Va} {A A' : Option Addr} {cap cap' : Nat} (h : InH w scs vs A A' cap') (h1 : scs.length ≤ 40) (h2 : vs.length ≤ 140) (hv : validH scs vs = true) : TreK w scs vs A A' scs.length vs.length cap cap' :=
  ⟨h.hs, h.hv, rfl, rfl, ⟨h1, h2⟩, hv, fun i W hb => Children_any cap cap' i (h.below hb), fun i W hb => Path_any cap i (h.toS.below hb) (by omega), fun v W hb => Full_any cap v (h.toS.below hb) (by omega), fun i => PathOf_len scs i⟩
set_option maxRecDepth 20000 in
set_option maxHeartbeats 16000000 in
theorem tree_walk (A : Option Addr) (n cap : Nat) (scs : List Sc) (A' : Option Addr) (m cap' : Nat) (vs : List Va) (w : World) (hn : scs.length = n) (hn0 : n ≤ maxLen) (hs : InScs w A scs) (hm : vs.length = m) (hm0 : m ≤ maxLen) (hv : InVas w A' cap' vs) (hg : Gm w) :
    Calls Try.prog 6 #[.slice A n cap, .slice A' m cap'] w fun e w' => e = .returned (.bool true) ∧ ∃ w2, Below w.heap.size w w2 ∧ w'.Alike w2 := by
  subst hn; subst hm
  have AW := hide (awake_hi w hg)
  have FW := hide (fun W (hb : Below w.heap.size w W) => FewH_any cap cap' (sc_below hs.s hb) (va_below hv.s hb) hn0 hm0 (fun x hx => (hs.ok x hx).name) (fun v hv' => (hv.ok v hv').name))
  cases hf : fewHB scs vs with
  | false =>
    have FW' := FW.out
    rw [hf] at FW'
    have FW2 := hide FW'
    generalize scs.length = n at *
    generalize vs.length = m at *
    clear FW FW' hs hv hf
    go_enter Try.func6, Try.ntmps6
    go_wp2_with fail
    refine AW.out.mono ?_
    rintro e w1 ⟨rfl, hb⟩
    have HB1 := hide hb
    clear hb
    go_wp2_with fail
    refine (FW2.out w1 HB1.out).mono ?_
    rintro e w2 ⟨rfl, rfl⟩
    go_wp2
    any_goals first | (rename_i hu hb; exact (undef_bool hu).elim) | skip
    go_ret
    exact ⟨rfl, _, HB1.out, rfl, rfl, rfl⟩
  | true =>
    have FW' := FW.out
    rw [hf] at FW'
    have FW2 := hide FW'
    have hI := in_few hs hv hf
    obtain ⟨_, _, hsl, hvl⟩ := few_spec hf
    have VH := hide (fun W (hb : Below w.heap.size w W) => Valid_H scs vs A A' cap cap' W (hI.below hb))
    cases hvd : validH scs vs with
    | false =>
      have VH' := VH.out
      rw [hvd] at VH'
      have VH2 := hide VH'
      generalize scs.length = n at *
      generalize vs.length = m at *
      clear FW FW' hs hv hf hI VH VH' hvd
      go_enter Try.func6, Try.ntmps6
      go_wp2_with fail
      refine AW.out.mono ?_
      rintro e w1 ⟨rfl, hb⟩
      have HB1 := hide hb
      clear hb
      go_wp2_with fail
      refine (FW2.out w1 HB1.out).mono ?_
      rintro e w2 ⟨rfl, rfl⟩
      go_wp2_with fail
      refine (VH2.out w1 HB1.out).mono ?_
      rintro e w3 ⟨rfl, hb⟩
      have HB3 := hide (HB1.out.trans (hb.mono HB1.out.size))
      clear hb
      go_wp2
      go_ret
      exact ⟨rfl, _, HB3.out, rfl, rfl, rfl⟩
    | true =>
      have VH' := VH.out
      rw [hvd] at VH'
      have VH2 := hide VH'
      have TK := hide (treK_of (cap := cap) hI hsl hvl hvd)
      have FW3 := FW2.out
      have VH3 := VH2.out
      have TK' := TK.out
      generalize scs.length = n at *
      generalize vs.length = m at *
      have TK2 := hide TK'
      have VH4 := hide VH3
      have FW4 := hide FW3
      clear hn0 hm0 FW FW' FW2 FW3 hs hv hf hI VH VH' VH2 VH3 hvd TK TK'
      go_enter Try.func6, Try.ntmps6
      go_wp2_with fail
      refine AW.out.mono ?_
      rintro e w1 ⟨rfl, hb⟩
      have HB1 := hide hb
      clear hb
      go_wp2_with fail
      refine (FW4.out w1 HB1.out).mono ?_
      rintro e w2 ⟨rfl, rfl⟩
      go_wp2_with fail
      refine (VH4.out w1 HB1.out).mono ?_
      rintro e w3 ⟨rfl, hb⟩
      have HB3 := hide (HB1.out.trans (hb.mono HB1.out.size))
      clear hb
      have hmm := @run_makeMap Try.prog
      go_wp2_with fail
      have hz3 : ∃ r1, w3.heap.size = r1 := ⟨_, rfl⟩
      obtain ⟨r1, hr1⟩ := hz3
      have hwr : w.heap.size ≤ r1 := by rw [← hr1]; exact HB3.out.size
      have HM1 := hide (show MpB ((w3.alloc (.map #[] 0)).alloc (.map #[] 0)) r1 (onesE []) from by
        have h := MpB.made w3
        rw [hr1] at h
        exact h.below (B := r1 + 1) ((Below.refl _ _).alloc (by rw [World.size_alloc, hr1]; exact Nat.le_refl _) _) (Nat.lt_succ_self _))
      have HM2 := hide (show MpB ((w3.alloc (.map #[] 0)).alloc (.map #[] 0)) (r1 + 1) (onesE []) from by
        have h := MpB.made (w3.alloc (.map #[] 0))
        rw [World.size_alloc, hr1] at h
        exact h)
      have HB4 := hide ((HB3.out.alloc HB3.out.size (.map #[] 0)).alloc (by rw [World.size_alloc]; exact Nat.le_succ_of_le HB3.out.size) (.map #[] 0))
      rw [hr1]
      have hfew := TK2.out.few
      go_loopw [7] (fun v wr => ∃ t : Nat, v = .int .i64 ((t : Int) - 1) ∧ t ≤ n + 1 ∧ Hid (MpB wr r1 (onesE (keysT (·.parent) scs t))) ∧ Hid (MpB wr (r1 + 1) (onesE (keysT (·.scope) vs t))) ∧ Hid (Below w.heap.size w wr)) (fun v _ => n + 1 - (intOf v + 1).toNat)
      case atStart => exact ⟨0, rfl, Nat.zero_le _, HM1, HM2, HB4⟩
      case round =>
        obtain ⟨t, rfl, ht, HN1, HN2, HB⟩ := hrel
        by_cases hlt : t ≤ n
        · have hi' : (t : Int) - 1 < (n : Int) := by omega
          have hw1 : IntKind.i64.wrap ((t : Int) - 1 + 1) = (t : Int) := by rw [IntWalk.i64_in _ (by omega)]; omega
          have CH := hide (TK2.out.kids ((t : Int) - 1))
          have PA := hide (TK2.out.path ((t : Int) - 1))
          have hpl := TK2.out.plen ((t : Int) - 1)
          obtain ⟨P, hP⟩ : ∃ P, PathOf scs ((t : Int) - 1) = P := ⟨_, rfl⟩
          obtain ⟨KA, hKA⟩ : ∃ KA, kidsS scs vs ((t : Int) - 1) = KA := ⟨_, rfl⟩
          obtain ⟨KB, hKB⟩ : ∃ KB, kidsV scs vs ((t : Int) - 1) = KB := ⟨_, rfl⟩
          have hkal : KA.length ≤ n := by
            rw [← hKA, kidsS_eq TK2.out.vd (by rw [TK2.out.hn]; exact hlt), ← TK2.out.hn]; exact idxsF_len _ _ _
          have hkbl : KB.length ≤ m := by
            rw [← hKB, kidsV_eq TK2.out.vd (by rw [TK2.out.hn]; exact hlt), ← TK2.out.hm]; exact idxsF_len _ _ _
          have CH' := CH.out
          have PA' := PA.out
          rw [hKA, hKB] at CH'
          rw [hP] at PA' hpl
          have CH2 := hide CH'
          have PA2 := hide PA'
          have HP := hide hP
          have HKA := hide hKA
          have HKB := hide hKB
          clear CH CH' PA PA' hP hKA hKB
          go_wp2_with fail
          refine (CH2.out wr HB.out).mono ?_
          rintro e w5 ⟨v1, v2, rfl, ho1, ho2, hb5⟩
          obtain ⟨B1, p1, rfl⟩ := ownH_sl ho1
          obtain ⟨B2, p2, rfl⟩ := ownH_sl ho2
          have HB5 := hide (HB.out.trans (hb5.mono HB.out.size))
          have HA1 := hide (Sl_own ho1 rfl)
          have HA2 := hide (Sl_own ho2 rfl)
          have HO1 := hide (HN1.out.below hb5 HN1.out.lt)
          have HO2 := hide (HN2.out.below hb5 HN2.out.lt)
          have hr2w : r1 + 1 < wr.heap.size := HN2.out.lt
          clear ho1 ho2 hb5
          go_wp2_with fail
          refine (PA2.out w5 HB5.out).mono ?_
          rintro e w6 ⟨v3, rfl, ho3, hb6⟩
          have hv3 : ∃ A3 p3, v3 = .slice A3 P.length p3 ∧ ∀ a, A3 = some a → w5.heap.size ≤ a.block := by
            obtain ⟨A3, p3, rfl⟩ := ownH_sl ho3
            obtain ⟨A9, c9, e9, _, h9⟩ := Sl_own ho3 rfl
            cases e9
            exact ⟨A3, p3, rfl, fun a ha => (h9 a ha).1⟩
          have HPV := hide (PVal.own ho3 rfl)
          obtain ⟨A3, p3, rfl, hA3⟩ := hv3
          have HA3 := hide (show ∀ a, A3 = some a → r1 + 1 < a.block from fun a ha => by have := hA3 a ha; have h2 := HO2.out.lt; omega)
          have HS1 := hide (show Sl intV w6 B1 KA ∧ ∀ a, B1 = some a → r1 + 1 < a.block from by
            obtain ⟨A9, c9, e9, h9, h8⟩ := HA1.out; cases e9; exact ⟨h9.below hb6, fun a ha => by have := (h8 a ha).1; omega⟩)
          have HS2 := hide (show Sl intV w6 B2 KB ∧ ∀ a, B2 = some a → r1 + 1 < a.block from by
            obtain ⟨A9, c9, e9, h9, h8⟩ := HA2.out; cases e9; exact ⟨h9.below hb6, fun a ha => by have := (h8 a ha).1; omega⟩)
          have HB6 := hide (HB5.out.trans (hb6.mono HB5.out.size))
          have HQ1 := hide (HO1.out.below hb6 HO1.out.lt)
          have HQ2 := hide (HO2.out.below hb6 HO2.out.lt)
          clear ho3 hb6 hA3
          go_wp2_with fail
          go_loopw [51] (fun v wr => ∃ j : Nat, v = .int .i64 (j : Int) ∧ j ≤ KA.length ∧ Hid (MpB wr r1 (onesE (keysT (·.parent) scs t ++ KA.take j))) ∧ Hid (Keeps (fun b => b = r1) w6 wr)) (fun v _ => KA.length - (intOf v).toNat)
          case atStart => exact ⟨0, rfl, Nat.zero_le _, hide (by rw [List.take_zero, List.append_nil]; exact HQ1.out), hide (Keeps.refl _ _)⟩
          case round =>
            obtain ⟨j, rfl, hj, HM, HKp⟩ := hrel
            obtain ⟨W0, hW0⟩ : ∃ W0, W0 = wr := ⟨_, rfl⟩
            subst hW0
            by_cases hlt2 : j < KA.length
            · as_aux_lemma =>
                have hj' : (j : Int) < (KA.length : Int) := by omega
                have hj0 : (0 : Int) ≤ (j : Int) := by omega
                have hw2 : IntKind.i64.wrap ((j : Int) + 1) = (j : Int) + 1 := IntWalk.i64_in _ (by omega)
                have hkm : KA[j] ∈ kidsS scs vs ((t : Int) - 1) := by rw [HKA.out]; exact List.getElem_mem hlt2
                rw [kidsS_eq TK2.out.vd (by rw [TK2.out.hn]; exact hlt), idxsP_mem] at hkm
                obtain ⟨q, hq, hqe, hqp⟩ := hkm
                have hqp' := of_decide_eq_true hqp
                have HPK := hide (show PathOf scs (q : Int) = P ++ [scs[q].name] from by rw [← HP.out]; exact kid_path TK2.out.vd (by omega) (by rw [TK2.out.hn]; omega) hq hqp')
                have hsl := Sl.keeps HS1.out.1 HKp.out (fun a ha h => by have := HS1.out.2 a ha; omega)
                obtain ⟨b1, o1, rfl, hb1z, hat1⟩ := Sl.at hsl hlt2
                have d0 := hat1 W0 (Below.refl _ _)
                rw [hqe] at d0
                have d0' : W0.cell? ⟨b1, o1 + j, none⟩ = some (.int .i64 (q : Int)) := d0
                have hqn : q < n := by rw [← TK2.out.hn]; exact hq
                have hnot : (q : Int) ∉ keysT (·.parent) scs t ++ KA.take j := by
                  rw [List.mem_append]
                  rintro (h | h)
                  · obtain ⟨q2, hq2, e2, h3, h4⟩ := (keysT_mem _ _ _ _).1 h
                    obtain rfl : q = q2 := by omega
                    omega
                  · have hasc := idxsP_asc (fun x : Sc => decide (x.parent = (t : Int) - 1)) scs
                    rw [← kidsS_eq TK2.out.vd (by rw [TK2.out.hn]; exact hlt), HKA.out] at hasc
                    obtain ⟨j2, hj2⟩ := List.mem_iff_getElem?.1 h
                    rw [List.getElem?_take] at hj2
                    split at hj2
                    · rename_i hlt3
                      obtain ⟨h5, h6⟩ := List.getElem?_eq_some_iff.1 hj2
                      have := List.pairwise_iff_getElem.1 hasc j2 j h5 hlt2 hlt3
                      rw [h6, hqe] at this
                      omega
                    · cases hj2
                have hbig : ∀ x ∈ keysT (·.parent) scs t ++ KA.take j, In64 x := fun x hx => by
                  rcases List.mem_append.1 hx with h | h
                  · obtain ⟨q2, hq2, e2, _⟩ := (keysT_mem _ _ _ _).1 h
                    have := TK2.out.hn
                    exact ⟨by omega, by omega⟩
                  · have h2 : x ∈ kidsS scs vs ((t : Int) - 1) := by rw [HKA.out]; exact List.mem_of_mem_take h
                    rw [kidsS_eq TK2.out.vd (by rw [TK2.out.hn]; exact hlt), idxsP_mem] at h2
                    obtain ⟨q2, hq2, e2, _⟩ := h2
                    have := TK2.out.hn
                    exact ⟨by omega, by omega⟩
                obtain ⟨hlook, W1, hput, hm1, hk1, hz1⟩ := ones_step HM.out hbig ⟨by omega, by omega⟩ hnot
                have htk : KA.take (j + 1) = KA.take j ++ [(q : Int)] := by rw [List.take_succ_eq_append_getElem hlt2, hqe]
                have HM' := hide (show MpB W1 r1 (onesE (keysT (·.parent) scs t ++ KA.take (j + 1))) from by rw [htk, ← List.append_assoc]; exact hm1)
                have HK1 := hide (HKp.out.trans hk1)
                have hw3 : IntKind.i64.wrap (0 + 1) = 1 := rfl
                have HB1' := hide (show Below w.heap.size w W1 from HB6.out.trans (HK1.out.below (fun b hb => by omega) HB6.out.size))
                obtain ⟨bs, os, rfl, hbsz, hats⟩ := sc_at TK2.out.ss hq
                obtain ⟨c0, _, _⟩ := hats W1 HB1'.out
                have HPV1 := hide (HPV.out.keeps HK1.out (fun a ha h => by have := HA3.out a ha; omega))
                have PAq := hide (TK2.out.path (q : Int))
                have PAq' := PAq.out
                rw [HPK.out] at PAq'
                generalize scs[q]'hq = x at *
                obtain ⟨nm, ty, pa⟩ := x
                simp only at c0 PAq'
                have PAQ := hide PAq'
                have hq0 : (0 : Int) ≤ (q : Int) := by omega
                have hq1 : ¬ (q : Int) < 0 := by omega
                have hqm' : (q : Int) < (n : Int) := by omega
                have hq2 : ¬ (n : Int) ≤ (q : Int) := by omega
                have hq3 : ¬ n ≤ q := by omega
                have hq4 : decide ((n : Int) ≤ (q : Int)) = false := decide_eq_false hq2
                have hq5 : decide (n ≤ q) = false := decide_eq_false hq3
                have hq6 : decide ((q : Int) < 0) = false := decide_eq_false hq1
                have mixed := mixedH
                clear hat1 d0 hats hm1 hk1 hz1 htk hbig hnot hqp hqp' hqe hsl PAq PAq'
                have PA3 := hide (fun (X : World) (hb : Below W1.heap.size W1 X) => show Calls Try.prog 15 #[.slice (some ⟨bs, os, none⟩) n cap, .int .i64 (q : Int)] X fun e w' => ∃ AP cP, e = .returned (.slice AP (P.length + 1) cP) ∧ PVal w' (.slice AP (P.length + 1) cP) (P ++ [nm]) ∧ (∀ a, AP = some a → X.heap.size ≤ a.block ∧ a.block < w'.heap.size) ∧ Below W1.heap.size W1 w' ∧ Below X.heap.size X w' from by
                  have hl : (P ++ [nm]).length = P.length + 1 := by simp
                  refine (PAQ.out X (HB1'.out.trans (hb.mono HB1'.out.size))).mono ?_
                  rintro e w' ⟨v, rfl, ho, hb2⟩
                  have hpv := PVal.own ho rfl
                  obtain ⟨A9, c9, rfl, _, h9⟩ := Sl_own ho (by simp)
                  rw [hl] at hpv ⊢
                  exact ⟨A9, c9, rfl, hpv, fun a ha => h9 a ha, hb.trans (hb2.mono hb.size), hb2⟩)
                have TX := hide (fun (W : World) (AP : Option Addr) (cP g7 c7 : Nat) (h1 : PVal W (.slice AP (P.length + 1) cP) (P ++ [nm])) (h2 : W.ownsRow W1.heap.size 9 1 (.slice (some ⟨g7, 0, none⟩) (P.length + [nm].length) c7) (P.length + [nm].length) ((P ++ [nm]).map Value.string)) => Texts_eq AP (some ⟨g7, 0, none⟩) (P.length + 1) (P.length + [nm].length) cP c7 (P ++ [nm]) W (by simp) (by simp) (by rw [List.length_append]; simp; omega) h1.sl.1 (by obtain ⟨A9, c9, e9, h9, _⟩ := Sl_own h2 (by simp); cases e9; exact h9))
                have HH1 := hide (show 0 + P.length ≤ 1000000 by omega)
                have HH2 := hide (show P.length + [nm].length ≤ 1000000 by simp; omega)
                go_wp2_with fail
                go_region_held3 (fun w' => w'.cell? ⟨bs, os + q * 3, none⟩ = some (.string nm)) (go_keep) (first
                  | (go_at_call 15; refine (PA3.out _ (by first | exact (Below.refl W1.heap.size W1).drew | exact (Below.refl W1.heap.size W1).drew.alloc (Nat.le_refl _) _ | exact ((Below.refl W1.heap.size W1).drew.alloc (Nat.le_refl _) _).alloc (by rw [World.size_alloc]; exact Nat.le_succ _) _)).mono ?_; rintro e w5 ⟨AP, cP, rfl, hpv5, hap5, hb05, hbx5⟩; have HPK5 := hide hpv5; have HAP5 := hide hap5; have HB05 := hide hb05; have HBX5 := hide hbx5; have hsw5_0 : w5.cell? ⟨bs, os + q * 3, none⟩ = some (.string nm) := (hb05.cell (p := ⟨bs, os + q * 3, none⟩) (World.block_lt_of_cell? W1 _ c0)).trans c0; clear hpv5 hap5 hb05 hbx5)
                  | (refine step_app (W1 := W1) (base := W1.heap.size) (n := 0) (xs := []) (ys := P) (AP := AP) (nP := P.length + 1) (cP := cP) (PK := P ++ [nm]) (by rfl) _ _ rfl rfl rfl rfl (by first | exact ownsRow_below (lit0 W1.heap.size W1.drew (Nat.le_refl _)) HBX5.out | exact ownsRow_below ((lit0 W1.heap.size W1.drew (Nat.le_refl _)).alloc _) HBX5.out | exact ownsRow_below (lit0s W1.heap.size W1.drew _ (Nat.le_refl _)) HBX5.out | exact (ownsRow_below (lit0 W1.heap.size W1.drew (Nat.le_refl _)) HBX5.out).alloc _ | exact lit0 W1.heap.size w5 HB05.out.size | exact (lit0 W1.heap.size w5 HB05.out.size).alloc _ | exact lit0s W1.heap.size w5 _ HB05.out.size) (by first | exact HPV1.out.below (HB05.out) | exact HPV1.out.below (HB05.out.alloc HB05.out.size _) | exact HPV1.out.below ((HB05.out.alloc HB05.out.size _).alloc (Nat.le_trans HB05.out.size (by rw [World.size_alloc]; exact Nat.le_succ _)) _)) HH1.out (by first | exact HB05.out | exact HB05.out.alloc HB05.out.size _ | exact (HB05.out.alloc HB05.out.size _).alloc (Nat.le_trans HB05.out.size (by rw [World.size_alloc]; exact Nat.le_succ _)) _) (by first | exact HB05.out.size | (rw [World.size_alloc]; exact Nat.le_succ_of_le HB05.out.size) | (rw [World.size_alloc, World.size_alloc]; exact Nat.le_succ_of_le (Nat.le_succ_of_le HB05.out.size))) (by first | exact HPK5.out | exact HPK5.out.alloc _ | exact (HPK5.out.alloc _).alloc _) (fun a ha => by have h := HAP5.out a ha; have h2 := HB05.out.size; have h3 : W1.drew.heap.size = W1.heap.size := rfl; (try simp only [drew_sz, World.size_alloc] at h); (try simp only [drew_sz, World.size_alloc]); exact ⟨by omega, by omega⟩) ?_; intro g6 cc6 w6 hown6 hb6 hpk6 hap6 hcar6; rw [Nat.zero_add] at hown6 ⊢; (first | (have hn6 := hcar6 _ 0 1 1 [nm] (((lit1 W1.drew nm).below HBX5.out).alloc _) (by have h2 := HB05.out.size; have h3 : W1.drew.heap.size = W1.heap.size := rfl; have h4 := HBX5.out.size; (try simp only [drew_sz, World.size_alloc] at h4); (try simp only [drew_sz, World.size_alloc]); omega) (by have h2 := HB05.out.size; have h3 : W1.drew.heap.size = W1.heap.size := rfl; have h4 := HBX5.out.size; (try simp only [drew_sz, World.size_alloc] at h4); (try simp only [drew_sz, World.size_alloc]); omega); have HN6 := hide hn6; clear hn6) | (have hn6 := hcar6 _ 0 1 1 [nm] (((lit1 W1.drew nm).alloc _).below HBX5.out) (by have h2 := HB05.out.size; have h3 : W1.drew.heap.size = W1.heap.size := rfl; have h4 := HBX5.out.size; (try simp only [drew_sz, World.size_alloc] at h4); (try simp only [drew_sz, World.size_alloc]); omega) (by have h2 := HB05.out.size; have h3 : W1.drew.heap.size = W1.heap.size := rfl; have h4 := HBX5.out.size; (try simp only [drew_sz, World.size_alloc] at h4); (try simp only [drew_sz, World.size_alloc]); omega); have HN6 := hide hn6; clear hn6) | (have hn6 := hcar6 _ 0 1 1 [nm] ((lit1s W1.drew nm _).below HBX5.out) (by have h2 := HB05.out.size; have h3 : W1.drew.heap.size = W1.heap.size := rfl; have h4 := HBX5.out.size; (try simp only [drew_sz, World.size_alloc] at h4); (try simp only [drew_sz, World.size_alloc]); omega) (by have h2 := HB05.out.size; have h3 : W1.drew.heap.size = W1.heap.size := rfl; have h4 := HBX5.out.size; (try simp only [drew_sz, World.size_alloc] at h4); (try simp only [drew_sz, World.size_alloc]); omega); have HN6 := hide hn6; clear hn6) | (have hn6 := hcar6 _ 0 1 1 [nm] (lit1 w5 nm) (by have h2 := HB05.out.size; have h3 : W1.drew.heap.size = W1.heap.size := rfl; have h4 := HBX5.out.size; (try simp only [drew_sz, World.size_alloc] at h4); (try simp only [drew_sz, World.size_alloc]); omega) (by have h2 := HB05.out.size; have h3 : W1.drew.heap.size = W1.heap.size := rfl; have h4 := HBX5.out.size; (try simp only [drew_sz, World.size_alloc] at h4); (try simp only [drew_sz, World.size_alloc]); omega); have HN6 := hide hn6; clear hn6) | (have hn6 := hcar6 _ 0 1 1 [nm] ((lit1 w5 nm).alloc _) (by have h2 := HB05.out.size; have h3 : W1.drew.heap.size = W1.heap.size := rfl; have h4 := HBX5.out.size; (try simp only [drew_sz, World.size_alloc] at h4); (try simp only [drew_sz, World.size_alloc]); omega) (by have h2 := HB05.out.size; have h3 : W1.drew.heap.size = W1.heap.size := rfl; have h4 := HBX5.out.size; (try simp only [drew_sz, World.size_alloc] at h4); (try simp only [drew_sz, World.size_alloc]); omega); have HN6 := hide hn6; clear hn6) | (have hn6 := hcar6 _ 0 1 1 [nm] (lit1s w5 nm _) (by have h2 := HB05.out.size; have h3 : W1.drew.heap.size = W1.heap.size := rfl; have h4 := HBX5.out.size; (try simp only [drew_sz, World.size_alloc] at h4); (try simp only [drew_sz, World.size_alloc]); omega) (by have h2 := HB05.out.size; have h3 : W1.drew.heap.size = W1.heap.size := rfl; have h4 := HBX5.out.size; (try simp only [drew_sz, World.size_alloc] at h4); (try simp only [drew_sz, World.size_alloc]); omega); have HN6 := hide hn6; clear hn6) | skip); have HO6 := hide hown6; have HB6' := hide hb6; have HPK6 := hide hpk6; have HAP6 := hide hap6; have hsw6_0 : w6.cell? ⟨bs, os + q * 3, none⟩ = some (.string nm) := (hb6.cell (p := ⟨bs, os + q * 3, none⟩) (World.block_lt_of_cell? W1 _ c0)).trans c0; clear hown6 hb6 hpk6 hap6 hcar6)
                  | (refine step_app (W1 := W1) (base := W1.heap.size) (n := P.length) (xs := P) (ys := [nm]) (AP := AP) (nP := P.length + 1) (cP := cP) (PK := P ++ [nm]) (by rfl) _ _ rfl rfl rfl rfl HO6.out HN6.out.1 HH2.out HB6'.out HB6'.out.size HPK6.out HAP6.out ?_; intro g7 cc7 w7 hown7 hb7 hpk7 hap7 hcar7; have HO7 := hide hown7; have HB7' := hide hb7; have HPK7 := hide hpk7; have hsw7_0 : w7.cell? ⟨bs, os + q * 3, none⟩ = some (.string nm) := (hb7.cell (p := ⟨bs, os + q * 3, none⟩) (World.block_lt_of_cell? W1 _ c0)).trans c0; clear hown7 hb7 hpk7 hap7 hcar7)
                  | (refine step_app (W1 := W1) (base := W1.heap.size) (n := P.length) (xs := P) (ys := [nm]) (AP := AP) (nP := P.length + 1) (cP := cP) (PK := P ++ [nm]) (by rfl) _ _ rfl rfl rfl rfl (HO6.out.alloc _) (lit1 w6 nm) HH2.out (HB6'.out.alloc HB6'.out.size _) (by rw [World.size_alloc]; exact Nat.le_succ_of_le HB6'.out.size) (HPK6.out.alloc _) (fun a ha => by have h := HAP6.out a ha; rw [World.size_alloc]; exact ⟨h.1, Nat.lt_succ_of_lt h.2⟩) ?_; intro g7 cc7 w7 hown7 hb7 hpk7 hap7 hcar7; have HO7 := hide hown7; have HB7' := hide hb7; have HPK7 := hide hpk7; have hsw7_0 : w7.cell? ⟨bs, os + q * 3, none⟩ = some (.string nm) := (hb7.cell (p := ⟨bs, os + q * 3, none⟩) (World.block_lt_of_cell? W1 _ c0)).trans c0; clear hown7 hb7 hpk7 hap7 hcar7)
                  | (go_at_call 20; refine (TX.out w7 AP cP g7 cc7 HPK7.out HO7.out).mono ?_; rintro e w8 ⟨rfl, hb8⟩; have hb08 := HB7'.out.trans (hb8.mono HB7'.out.size); have HB8 := hide hb08; have hsw8_0 : w8.cell? ⟨bs, os + q * 3, none⟩ = some (.string nm) := (hb08.cell (p := ⟨bs, os + q * 3, none⟩) (World.block_lt_of_cell? W1 _ c0)).trans c0; clear hb8 hb08))
                all_goals
                  as_aux_lemma =>
                    go_wp2
                    go_roundw
                    case rel => exact ⟨j + 1, by go_num, by omega, hide (HM'.out.below HB8.out HM'.out.lt), hide (HK1.out.trans (Keeps.of_below HB8.out (Nat.le_refl _)))⟩
                    case measure => simp [intOf]; omega
            · obtain rfl : j = KA.length := by omega
              have hj' : ¬ (KA.length : Int) < (KA.length : Int) := by omega
              have HMA := hide (show MpB W0 r1 (onesE (keysT (·.parent) scs (t + 1))) from by
                have h := HM.out
                rw [List.take_length, ← HKA.out, kidsS_eq TK2.out.vd (by rw [TK2.out.hn]; exact hlt)] at h
                rw [keysT_succ]; exact h)
              have HMB := hide (HQ2.out.keep HKp.out (by omega))
              have HS3 := hide (Sl.keeps HS1.out.1 HKp.out (fun a ha h => by have := HS1.out.2 a ha; omega))
              have HS4 := hide (Sl.keeps HS2.out.1 HKp.out (fun a ha h => by have := HS2.out.2 a ha; omega))
              have HBa := hide (show Below w.heap.size w W0 from HB6.out.trans (HKp.out.below (fun b hb => by omega) HB6.out.size))
              have HPVa := hide (HPV.out.keeps HKp.out (fun a ha h => by have := HA3.out a ha; omega))
              clear HM HKp
              go_wp2_with fail
              go_loopw [87] (fun v wr => ∃ j : Nat, v = .int .i64 (j : Int) ∧ j ≤ KB.length ∧ Hid (MpB wr (r1 + 1) (onesE (keysT (·.scope) vs t ++ KB.take j))) ∧ Hid (Keeps (fun b => b = r1 + 1) W0 wr)) (fun v _ => KB.length - (intOf v).toNat)
              case atStart => exact ⟨0, rfl, Nat.zero_le _, hide (by rw [List.take_zero, List.append_nil]; exact HMB.out), hide (Keeps.refl _ _)⟩
              case round =>
                obtain ⟨j, rfl, hj, HM, HKp⟩ := hrel
                obtain ⟨W2, hW2⟩ : ∃ W2, W2 = wr := ⟨_, rfl⟩
                subst hW2
                by_cases hlt2 : j < KB.length
                · as_aux_lemma =>
                    have hj2' : (j : Int) < (KB.length : Int) := by omega
                    have hj0 : (0 : Int) ≤ (j : Int) := by omega
                    have hw2 : IntKind.i64.wrap ((j : Int) + 1) = (j : Int) + 1 := IntWalk.i64_in _ (by omega)
                    have hkm : KB[j] ∈ kidsV scs vs ((t : Int) - 1) := by rw [HKB.out]; exact List.getElem_mem hlt2
                    rw [kidsV_eq TK2.out.vd (by rw [TK2.out.hn]; exact hlt), idxsP_mem] at hkm
                    obtain ⟨q, hq, hqe, hqp⟩ := hkm
                    have hqp' := of_decide_eq_true hqp
                    have HPK := hide (show FullOf scs vs[q] = P ++ [vs[q].name] from by rw [← HP.out]; exact kid_full TK2.out.vd (by omega) (by rw [TK2.out.hn]; omega) hqp')
                    have hsl := Sl.keeps HS4.out HKp.out (fun a ha h => by have := HS2.out.2 a ha; omega)
                    obtain ⟨b1, o1, rfl, hb1z, hat1⟩ := Sl.at hsl hlt2
                    have d0 := hat1 W2 (Below.refl _ _)
                    rw [hqe] at d0
                    have d0' : W2.cell? ⟨b1, o1 + j, none⟩ = some (.int .i64 (q : Int)) := d0
                    have hqn : q < m := by rw [← TK2.out.hm]; exact hq
                    have hnot : (q : Int) ∉ keysT (·.scope) vs t ++ KB.take j := by
                      rw [List.mem_append]
                      rintro (h | h)
                      · obtain ⟨q2, hq2, e2, h3, h4⟩ := (keysT_mem _ _ _ _).1 h
                        obtain rfl : q = q2 := by omega
                        omega
                      · have hasc := idxsP_asc (fun x : Va => decide (x.scope = (t : Int) - 1)) vs
                        rw [← kidsV_eq TK2.out.vd (by rw [TK2.out.hn]; exact hlt), HKB.out] at hasc
                        obtain ⟨j2, hj2⟩ := List.mem_iff_getElem?.1 h
                        rw [List.getElem?_take] at hj2
                        split at hj2
                        · rename_i hlt3
                          obtain ⟨h5, h6⟩ := List.getElem?_eq_some_iff.1 hj2
                          have := List.pairwise_iff_getElem.1 hasc j2 j h5 hlt2 hlt3
                          rw [h6, hqe] at this
                          omega
                        · cases hj2
                    have hbig : ∀ x ∈ keysT (·.scope) vs t ++ KB.take j, In64 x := fun x hx => by
                      rcases List.mem_append.1 hx with h | h
                      · obtain ⟨q2, hq2, e2, _⟩ := (keysT_mem _ _ _ _).1 h
                        have := TK2.out.hm
                        exact ⟨by omega, by omega⟩
                      · have h2 : x ∈ kidsV scs vs ((t : Int) - 1) := by rw [HKB.out]; exact List.mem_of_mem_take h
                        rw [kidsV_eq TK2.out.vd (by rw [TK2.out.hn]; exact hlt), idxsP_mem] at h2
                        obtain ⟨q2, hq2, e2, _⟩ := h2
                        have := TK2.out.hm
                        exact ⟨by omega, by omega⟩
                    obtain ⟨hlook, W1, hput, hm1, hk1, hz1⟩ := ones_step HM.out hbig ⟨by omega, by omega⟩ hnot
                    have htk : KB.take (j + 1) = KB.take j ++ [(q : Int)] := by rw [List.take_succ_eq_append_getElem hlt2, hqe]
                    have HM' := hide (show MpB W1 (r1 + 1) (onesE (keysT (·.scope) vs t ++ KB.take (j + 1))) from by rw [htk, ← List.append_assoc]; exact hm1)
                    have HK1 := hide (HKp.out.trans hk1)
                    have hw3 : IntKind.i64.wrap (0 + 1) = 1 := rfl
                    have HB1' := hide (show Below w.heap.size w W1 from HBa.out.trans (HK1.out.below (fun b hb => by omega) HBa.out.size))
                    obtain ⟨bs, os, rfl, hbsz, hats⟩ := va_at TK2.out.vs_ hq
                    obtain ⟨c0, c1, c2, c3, c4, c5, c6⟩ := hats W1 HB1'.out
                    have HPV1 := hide (HPVa.out.keeps HK1.out (fun a ha h => by have := HA3.out a ha; omega))
                    have FUq := hide (TK2.out.full vs[q])
                    have FUq' := FUq.out
                    rw [HPK.out] at FUq'
                    generalize vs[q]'hq = x at *
                    obtain ⟨nm, ty, sc, sg, rg, msb, lsb⟩ := x
                    unfold vaV at FUq'
                    simp only at c0 c1 c2 c3 c4 c5 c6 FUq'
                    have FUQ := hide FUq'
                    have hq0 : (0 : Int) ≤ (q : Int) := by omega
                    have hq1 : ¬ (q : Int) < 0 := by omega
                    have hqm' : (q : Int) < (m : Int) := by omega
                    have hq2 : ¬ (m : Int) ≤ (q : Int) := by omega
                    have hq3 : ¬ m ≤ q := by omega
                    have hq4 : decide ((m : Int) ≤ (q : Int)) = false := decide_eq_false hq2
                    have hq5 : decide (m ≤ q) = false := decide_eq_false hq3
                    have hq6 : decide ((q : Int) < 0) = false := decide_eq_false hq1
                    have mixed := mixedH
                    clear hat1 d0 hats hm1 hk1 hz1 htk hbig hnot hqp hqp' hqe hsl FUq FUq'
                    have FU3 := hide (fun (X : World) (hb : Below W1.heap.size W1 X) => show Calls Try.prog 17 #[.slice A n cap, .agg #[.string nm, .int .i64 ty, .int .i64 sc, .int .i64 sg, .bool rg, .int .i64 msb, .int .i64 lsb]] X fun e w' => ∃ AP cP, e = .returned (.slice AP (P.length + 1) cP) ∧ PVal w' (.slice AP (P.length + 1) cP) (P ++ [nm]) ∧ (∀ a, AP = some a → X.heap.size ≤ a.block ∧ a.block < w'.heap.size) ∧ Below W1.heap.size W1 w' ∧ Below X.heap.size X w' from by
                      have hl : (P ++ [nm]).length = P.length + 1 := by simp
                      refine (FUQ.out X (HB1'.out.trans (hb.mono HB1'.out.size))).mono ?_
                      rintro e w' ⟨v, rfl, ho, hb2⟩
                      have hpv := PVal.own ho rfl
                      obtain ⟨A9, c9, rfl, _, h9⟩ := Sl_own ho (by simp)
                      rw [hl] at hpv ⊢
                      exact ⟨A9, c9, rfl, hpv, fun a ha => h9 a ha, hb.trans (hb2.mono hb.size), hb2⟩)
                    have TX := hide (fun (W : World) (AP : Option Addr) (cP g7 c7 : Nat) (h1 : PVal W (.slice AP (P.length + 1) cP) (P ++ [nm])) (h2 : W.ownsRow W1.heap.size 9 1 (.slice (some ⟨g7, 0, none⟩) (P.length + [nm].length) c7) (P.length + [nm].length) ((P ++ [nm]).map Value.string)) => Texts_eq AP (some ⟨g7, 0, none⟩) (P.length + 1) (P.length + [nm].length) cP c7 (P ++ [nm]) W (by simp) (by simp) (by rw [List.length_append]; simp; omega) h1.sl.1 (by obtain ⟨A9, c9, e9, h9, _⟩ := Sl_own h2 (by simp); cases e9; exact h9))
                    have HH1 := hide (show 0 + P.length ≤ 1000000 by omega)
                    have HH2 := hide (show P.length + [nm].length ≤ 1000000 by simp; omega)
                    go_wp2_with fail
                    go_region_held3 (fun w' => w'.cell? ⟨bs, os + q * 7, none⟩ = some (.string nm) ∧ w'.cell? ⟨bs, os + q * 7 + 1, none⟩ = some (.int .i64 ty) ∧ w'.cell? ⟨bs, os + q * 7 + 2, none⟩ = some (.int .i64 sc) ∧ w'.cell? ⟨bs, os + q * 7 + 3, none⟩ = some (.int .i64 sg) ∧ w'.cell? ⟨bs, os + q * 7 + 4, none⟩ = some (.bool rg) ∧ w'.cell? ⟨bs, os + q * 7 + 5, none⟩ = some (.int .i64 msb) ∧ w'.cell? ⟨bs, os + q * 7 + 6, none⟩ = some (.int .i64 lsb)) (go_keep) (first
                      | (go_at_call 17; refine (FU3.out _ (by first | exact (Below.refl W1.heap.size W1).drew | exact (Below.refl W1.heap.size W1).drew.alloc (Nat.le_refl _) _ | exact ((Below.refl W1.heap.size W1).drew.alloc (Nat.le_refl _) _).alloc (by rw [World.size_alloc]; exact Nat.le_succ _) _)).mono ?_; rintro e w5 ⟨AP, cP, rfl, hpv5, hap5, hb05, hbx5⟩; have HPK5 := hide hpv5; have HAP5 := hide hap5; have HB05 := hide hb05; have HBX5 := hide hbx5; have hsw5_0 : w5.cell? ⟨bs, os + q * 7, none⟩ = some (.string nm) := (hb05.cell (p := ⟨bs, os + q * 7, none⟩) (World.block_lt_of_cell? W1 _ c0)).trans c0; have hsw5_1 : w5.cell? ⟨bs, os + q * 7 + 1, none⟩ = some (.int .i64 ty) := (hb05.cell (p := ⟨bs, os + q * 7 + 1, none⟩) (World.block_lt_of_cell? W1 _ c1)).trans c1; have hsw5_2 : w5.cell? ⟨bs, os + q * 7 + 2, none⟩ = some (.int .i64 sc) := (hb05.cell (p := ⟨bs, os + q * 7 + 2, none⟩) (World.block_lt_of_cell? W1 _ c2)).trans c2; have hsw5_3 : w5.cell? ⟨bs, os + q * 7 + 3, none⟩ = some (.int .i64 sg) := (hb05.cell (p := ⟨bs, os + q * 7 + 3, none⟩) (World.block_lt_of_cell? W1 _ c3)).trans c3; have hsw5_4 : w5.cell? ⟨bs, os + q * 7 + 4, none⟩ = some (.bool rg) := (hb05.cell (p := ⟨bs, os + q * 7 + 4, none⟩) (World.block_lt_of_cell? W1 _ c4)).trans c4; have hsw5_5 : w5.cell? ⟨bs, os + q * 7 + 5, none⟩ = some (.int .i64 msb) := (hb05.cell (p := ⟨bs, os + q * 7 + 5, none⟩) (World.block_lt_of_cell? W1 _ c5)).trans c5; have hsw5_6 : w5.cell? ⟨bs, os + q * 7 + 6, none⟩ = some (.int .i64 lsb) := (hb05.cell (p := ⟨bs, os + q * 7 + 6, none⟩) (World.block_lt_of_cell? W1 _ c6)).trans c6; clear hpv5 hap5 hb05 hbx5)
                      | (refine step_app (W1 := W1) (base := W1.heap.size) (n := 0) (xs := []) (ys := P) (AP := AP) (nP := P.length + 1) (cP := cP) (PK := P ++ [nm]) (by rfl) _ _ rfl rfl rfl rfl (by first | exact ownsRow_below (lit0 W1.heap.size W1.drew (Nat.le_refl _)) HBX5.out | exact ownsRow_below ((lit0 W1.heap.size W1.drew (Nat.le_refl _)).alloc _) HBX5.out | exact ownsRow_below (lit0s W1.heap.size W1.drew _ (Nat.le_refl _)) HBX5.out | exact (ownsRow_below (lit0 W1.heap.size W1.drew (Nat.le_refl _)) HBX5.out).alloc _ | exact lit0 W1.heap.size w5 HB05.out.size | exact (lit0 W1.heap.size w5 HB05.out.size).alloc _ | exact lit0s W1.heap.size w5 _ HB05.out.size) (by first | exact HPV1.out.below (HB05.out) | exact HPV1.out.below (HB05.out.alloc HB05.out.size _) | exact HPV1.out.below ((HB05.out.alloc HB05.out.size _).alloc (Nat.le_trans HB05.out.size (by rw [World.size_alloc]; exact Nat.le_succ _)) _)) HH1.out (by first | exact HB05.out | exact HB05.out.alloc HB05.out.size _ | exact (HB05.out.alloc HB05.out.size _).alloc (Nat.le_trans HB05.out.size (by rw [World.size_alloc]; exact Nat.le_succ _)) _) (by first | exact HB05.out.size | (rw [World.size_alloc]; exact Nat.le_succ_of_le HB05.out.size) | (rw [World.size_alloc, World.size_alloc]; exact Nat.le_succ_of_le (Nat.le_succ_of_le HB05.out.size))) (by first | exact HPK5.out | exact HPK5.out.alloc _ | exact (HPK5.out.alloc _).alloc _) (fun a ha => by have h := HAP5.out a ha; have h2 := HB05.out.size; have h3 : W1.drew.heap.size = W1.heap.size := rfl; (try simp only [drew_sz, World.size_alloc] at h); (try simp only [drew_sz, World.size_alloc]); exact ⟨by omega, by omega⟩) ?_; intro g6 cc6 w6 hown6 hb6 hpk6 hap6 hcar6; rw [Nat.zero_add] at hown6 ⊢; (first | (have hn6 := hcar6 _ 0 1 1 [nm] (((lit1 W1.drew nm).below HBX5.out).alloc _) (by have h2 := HB05.out.size; have h3 : W1.drew.heap.size = W1.heap.size := rfl; have h4 := HBX5.out.size; (try simp only [drew_sz, World.size_alloc] at h4); (try simp only [drew_sz, World.size_alloc]); omega) (by have h2 := HB05.out.size; have h3 : W1.drew.heap.size = W1.heap.size := rfl; have h4 := HBX5.out.size; (try simp only [drew_sz, World.size_alloc] at h4); (try simp only [drew_sz, World.size_alloc]); omega); have HN6 := hide hn6; clear hn6) | (have hn6 := hcar6 _ 0 1 1 [nm] (((lit1 W1.drew nm).alloc _).below HBX5.out) (by have h2 := HB05.out.size; have h3 : W1.drew.heap.size = W1.heap.size := rfl; have h4 := HBX5.out.size; (try simp only [drew_sz, World.size_alloc] at h4); (try simp only [drew_sz, World.size_alloc]); omega) (by have h2 := HB05.out.size; have h3 : W1.drew.heap.size = W1.heap.size := rfl; have h4 := HBX5.out.size; (try simp only [drew_sz, World.size_alloc] at h4); (try simp only [drew_sz, World.size_alloc]); omega); have HN6 := hide hn6; clear hn6) | (have hn6 := hcar6 _ 0 1 1 [nm] ((lit1s W1.drew nm _).below HBX5.out) (by have h2 := HB05.out.size; have h3 : W1.drew.heap.size = W1.heap.size := rfl; have h4 := HBX5.out.size; (try simp only [drew_sz, World.size_alloc] at h4); (try simp only [drew_sz, World.size_alloc]); omega) (by have h2 := HB05.out.size; have h3 : W1.drew.heap.size = W1.heap.size := rfl; have h4 := HBX5.out.size; (try simp only [drew_sz, World.size_alloc] at h4); (try simp only [drew_sz, World.size_alloc]); omega); have HN6 := hide hn6; clear hn6) | (have hn6 := hcar6 _ 0 1 1 [nm] (lit1 w5 nm) (by have h2 := HB05.out.size; have h3 : W1.drew.heap.size = W1.heap.size := rfl; have h4 := HBX5.out.size; (try simp only [drew_sz, World.size_alloc] at h4); (try simp only [drew_sz, World.size_alloc]); omega) (by have h2 := HB05.out.size; have h3 : W1.drew.heap.size = W1.heap.size := rfl; have h4 := HBX5.out.size; (try simp only [drew_sz, World.size_alloc] at h4); (try simp only [drew_sz, World.size_alloc]); omega); have HN6 := hide hn6; clear hn6) | (have hn6 := hcar6 _ 0 1 1 [nm] ((lit1 w5 nm).alloc _) (by have h2 := HB05.out.size; have h3 : W1.drew.heap.size = W1.heap.size := rfl; have h4 := HBX5.out.size; (try simp only [drew_sz, World.size_alloc] at h4); (try simp only [drew_sz, World.size_alloc]); omega) (by have h2 := HB05.out.size; have h3 : W1.drew.heap.size = W1.heap.size := rfl; have h4 := HBX5.out.size; (try simp only [drew_sz, World.size_alloc] at h4); (try simp only [drew_sz, World.size_alloc]); omega); have HN6 := hide hn6; clear hn6) | (have hn6 := hcar6 _ 0 1 1 [nm] (lit1s w5 nm _) (by have h2 := HB05.out.size; have h3 : W1.drew.heap.size = W1.heap.size := rfl; have h4 := HBX5.out.size; (try simp only [drew_sz, World.size_alloc] at h4); (try simp only [drew_sz, World.size_alloc]); omega) (by have h2 := HB05.out.size; have h3 : W1.drew.heap.size = W1.heap.size := rfl; have h4 := HBX5.out.size; (try simp only [drew_sz, World.size_alloc] at h4); (try simp only [drew_sz, World.size_alloc]); omega); have HN6 := hide hn6; clear hn6) | skip); have HO6 := hide hown6; have HB6' := hide hb6; have HPK6 := hide hpk6; have HAP6 := hide hap6; have hsw6_0 : w6.cell? ⟨bs, os + q * 7, none⟩ = some (.string nm) := (hb6.cell (p := ⟨bs, os + q * 7, none⟩) (World.block_lt_of_cell? W1 _ c0)).trans c0; have hsw6_1 : w6.cell? ⟨bs, os + q * 7 + 1, none⟩ = some (.int .i64 ty) := (hb6.cell (p := ⟨bs, os + q * 7 + 1, none⟩) (World.block_lt_of_cell? W1 _ c1)).trans c1; have hsw6_2 : w6.cell? ⟨bs, os + q * 7 + 2, none⟩ = some (.int .i64 sc) := (hb6.cell (p := ⟨bs, os + q * 7 + 2, none⟩) (World.block_lt_of_cell? W1 _ c2)).trans c2; have hsw6_3 : w6.cell? ⟨bs, os + q * 7 + 3, none⟩ = some (.int .i64 sg) := (hb6.cell (p := ⟨bs, os + q * 7 + 3, none⟩) (World.block_lt_of_cell? W1 _ c3)).trans c3; have hsw6_4 : w6.cell? ⟨bs, os + q * 7 + 4, none⟩ = some (.bool rg) := (hb6.cell (p := ⟨bs, os + q * 7 + 4, none⟩) (World.block_lt_of_cell? W1 _ c4)).trans c4; have hsw6_5 : w6.cell? ⟨bs, os + q * 7 + 5, none⟩ = some (.int .i64 msb) := (hb6.cell (p := ⟨bs, os + q * 7 + 5, none⟩) (World.block_lt_of_cell? W1 _ c5)).trans c5; have hsw6_6 : w6.cell? ⟨bs, os + q * 7 + 6, none⟩ = some (.int .i64 lsb) := (hb6.cell (p := ⟨bs, os + q * 7 + 6, none⟩) (World.block_lt_of_cell? W1 _ c6)).trans c6; clear hown6 hb6 hpk6 hap6 hcar6)
                      | (refine step_app (W1 := W1) (base := W1.heap.size) (n := P.length) (xs := P) (ys := [nm]) (AP := AP) (nP := P.length + 1) (cP := cP) (PK := P ++ [nm]) (by rfl) _ _ rfl rfl rfl rfl HO6.out HN6.out.1 HH2.out HB6'.out HB6'.out.size HPK6.out HAP6.out ?_; intro g7 cc7 w7 hown7 hb7 hpk7 hap7 hcar7; have HO7 := hide hown7; have HB7' := hide hb7; have HPK7 := hide hpk7; have hsw7_0 : w7.cell? ⟨bs, os + q * 7, none⟩ = some (.string nm) := (hb7.cell (p := ⟨bs, os + q * 7, none⟩) (World.block_lt_of_cell? W1 _ c0)).trans c0; have hsw7_1 : w7.cell? ⟨bs, os + q * 7 + 1, none⟩ = some (.int .i64 ty) := (hb7.cell (p := ⟨bs, os + q * 7 + 1, none⟩) (World.block_lt_of_cell? W1 _ c1)).trans c1; have hsw7_2 : w7.cell? ⟨bs, os + q * 7 + 2, none⟩ = some (.int .i64 sc) := (hb7.cell (p := ⟨bs, os + q * 7 + 2, none⟩) (World.block_lt_of_cell? W1 _ c2)).trans c2; have hsw7_3 : w7.cell? ⟨bs, os + q * 7 + 3, none⟩ = some (.int .i64 sg) := (hb7.cell (p := ⟨bs, os + q * 7 + 3, none⟩) (World.block_lt_of_cell? W1 _ c3)).trans c3; have hsw7_4 : w7.cell? ⟨bs, os + q * 7 + 4, none⟩ = some (.bool rg) := (hb7.cell (p := ⟨bs, os + q * 7 + 4, none⟩) (World.block_lt_of_cell? W1 _ c4)).trans c4; have hsw7_5 : w7.cell? ⟨bs, os + q * 7 + 5, none⟩ = some (.int .i64 msb) := (hb7.cell (p := ⟨bs, os + q * 7 + 5, none⟩) (World.block_lt_of_cell? W1 _ c5)).trans c5; have hsw7_6 : w7.cell? ⟨bs, os + q * 7 + 6, none⟩ = some (.int .i64 lsb) := (hb7.cell (p := ⟨bs, os + q * 7 + 6, none⟩) (World.block_lt_of_cell? W1 _ c6)).trans c6; clear hown7 hb7 hpk7 hap7 hcar7)
                      | (refine step_app (W1 := W1) (base := W1.heap.size) (n := P.length) (xs := P) (ys := [nm]) (AP := AP) (nP := P.length + 1) (cP := cP) (PK := P ++ [nm]) (by rfl) _ _ rfl rfl rfl rfl (HO6.out.alloc _) (lit1 w6 nm) HH2.out (HB6'.out.alloc HB6'.out.size _) (by rw [World.size_alloc]; exact Nat.le_succ_of_le HB6'.out.size) (HPK6.out.alloc _) (fun a ha => by have h := HAP6.out a ha; rw [World.size_alloc]; exact ⟨h.1, Nat.lt_succ_of_lt h.2⟩) ?_; intro g7 cc7 w7 hown7 hb7 hpk7 hap7 hcar7; have HO7 := hide hown7; have HB7' := hide hb7; have HPK7 := hide hpk7; have hsw7_0 : w7.cell? ⟨bs, os + q * 7, none⟩ = some (.string nm) := (hb7.cell (p := ⟨bs, os + q * 7, none⟩) (World.block_lt_of_cell? W1 _ c0)).trans c0; have hsw7_1 : w7.cell? ⟨bs, os + q * 7 + 1, none⟩ = some (.int .i64 ty) := (hb7.cell (p := ⟨bs, os + q * 7 + 1, none⟩) (World.block_lt_of_cell? W1 _ c1)).trans c1; have hsw7_2 : w7.cell? ⟨bs, os + q * 7 + 2, none⟩ = some (.int .i64 sc) := (hb7.cell (p := ⟨bs, os + q * 7 + 2, none⟩) (World.block_lt_of_cell? W1 _ c2)).trans c2; have hsw7_3 : w7.cell? ⟨bs, os + q * 7 + 3, none⟩ = some (.int .i64 sg) := (hb7.cell (p := ⟨bs, os + q * 7 + 3, none⟩) (World.block_lt_of_cell? W1 _ c3)).trans c3; have hsw7_4 : w7.cell? ⟨bs, os + q * 7 + 4, none⟩ = some (.bool rg) := (hb7.cell (p := ⟨bs, os + q * 7 + 4, none⟩) (World.block_lt_of_cell? W1 _ c4)).trans c4; have hsw7_5 : w7.cell? ⟨bs, os + q * 7 + 5, none⟩ = some (.int .i64 msb) := (hb7.cell (p := ⟨bs, os + q * 7 + 5, none⟩) (World.block_lt_of_cell? W1 _ c5)).trans c5; have hsw7_6 : w7.cell? ⟨bs, os + q * 7 + 6, none⟩ = some (.int .i64 lsb) := (hb7.cell (p := ⟨bs, os + q * 7 + 6, none⟩) (World.block_lt_of_cell? W1 _ c6)).trans c6; clear hown7 hb7 hpk7 hap7 hcar7)
                      | (go_at_call 20; refine (TX.out w7 AP cP g7 cc7 HPK7.out HO7.out).mono ?_; rintro e w8 ⟨rfl, hb8⟩; have hb08 := HB7'.out.trans (hb8.mono HB7'.out.size); have HB8 := hide hb08; have hsw8_0 : w8.cell? ⟨bs, os + q * 7, none⟩ = some (.string nm) := (hb08.cell (p := ⟨bs, os + q * 7, none⟩) (World.block_lt_of_cell? W1 _ c0)).trans c0; have hsw8_1 : w8.cell? ⟨bs, os + q * 7 + 1, none⟩ = some (.int .i64 ty) := (hb08.cell (p := ⟨bs, os + q * 7 + 1, none⟩) (World.block_lt_of_cell? W1 _ c1)).trans c1; have hsw8_2 : w8.cell? ⟨bs, os + q * 7 + 2, none⟩ = some (.int .i64 sc) := (hb08.cell (p := ⟨bs, os + q * 7 + 2, none⟩) (World.block_lt_of_cell? W1 _ c2)).trans c2; have hsw8_3 : w8.cell? ⟨bs, os + q * 7 + 3, none⟩ = some (.int .i64 sg) := (hb08.cell (p := ⟨bs, os + q * 7 + 3, none⟩) (World.block_lt_of_cell? W1 _ c3)).trans c3; have hsw8_4 : w8.cell? ⟨bs, os + q * 7 + 4, none⟩ = some (.bool rg) := (hb08.cell (p := ⟨bs, os + q * 7 + 4, none⟩) (World.block_lt_of_cell? W1 _ c4)).trans c4; have hsw8_5 : w8.cell? ⟨bs, os + q * 7 + 5, none⟩ = some (.int .i64 msb) := (hb08.cell (p := ⟨bs, os + q * 7 + 5, none⟩) (World.block_lt_of_cell? W1 _ c5)).trans c5; have hsw8_6 : w8.cell? ⟨bs, os + q * 7 + 6, none⟩ = some (.int .i64 lsb) := (hb08.cell (p := ⟨bs, os + q * 7 + 6, none⟩) (World.block_lt_of_cell? W1 _ c6)).trans c6; clear hb8 hb08))
                    all_goals
                      as_aux_lemma =>
                        go_wp2
                        go_roundw
                        case rel => exact ⟨j + 1, by go_num, by omega, hide (HM'.out.below HB8.out HM'.out.lt), hide (HK1.out.trans (Keeps.of_below HB8.out (Nat.le_refl _)))⟩
                        case measure => simp [intOf]; omega
                · obtain rfl : j = KB.length := by omega
                  have hj2 : ¬ (KB.length : Int) < (KB.length : Int) := by omega
                  have HMC := hide (show MpB W2 (r1 + 1) (onesE (keysT (·.scope) vs (t + 1))) from by
                    have h := HM.out
                    rw [List.take_length, ← HKB.out, kidsV_eq TK2.out.vd (by rw [TK2.out.hn]; exact hlt)] at h
                    rw [keysT_succ]; exact h)
                  have HMD := hide (HMA.out.keep HKp.out (by omega))
                  have HBb := hide (show Below w.heap.size w W2 from HBa.out.trans (HKp.out.below (fun b hb => by omega) HBa.out.size))
                  have hasc1 : KA.Pairwise (· ≤ ·) := by
                    have := idxsP_asc (fun x : Sc => decide (x.parent = (t : Int) - 1)) scs
                    rw [← kidsS_eq TK2.out.vd (by rw [TK2.out.hn]; exact hlt), HKA.out] at this
                    exact this.imp (fun h => by omega)
                  have hasc2 : KB.Pairwise (· ≤ ·) := by
                    have := idxsP_asc (fun x : Va => decide (x.scope = (t : Int) - 1)) vs
                    rw [← kidsV_eq TK2.out.vd (by rw [TK2.out.hn]; exact hlt), HKB.out] at this
                    exact this.imp (fun h => by omega)
                  have hsl1 := Sl.keeps HS3.out HKp.out (fun a ha h => by have := HS1.out.2 a ha; omega)
                  have hsl2 := Sl.keeps HS4.out HKp.out (fun a ha h => by have := HS2.out.2 a ha; omega)
                  have IS1 := hide (fun (W : World) (hb : Below W2.heap.size W2 W) => IsSorted_true B1 KA.length p1 KA W rfl (by omega) (hsl1.below hb) hasc1)
                  have IS2 := hide (fun (W : World) (hb : Below W2.heap.size W2 W) => IsSorted_true B2 KB.length p2 KB W rfl (by omega) (hsl2.below hb) hasc2)
                  clear hasc1 hasc2 hsl1 hsl2 HKp HM
                  go_wp2_with fail
                  refine (IS1.out W2 (Below.refl _ _)).mono ?_
                  rintro e w8 ⟨rfl, hb8⟩
                  have HB8 := hide hb8
                  clear hb8
                  go_wp2_with fail
                  refine (IS2.out w8 HB8.out).mono ?_
                  rintro e w9 ⟨rfl, hb9⟩
                  have HB9 := hide (HB8.out.trans (hb9.mono HB8.out.size))
                  clear hb9
                  go_wp2
                  go_roundw
                  case rel => exact ⟨t + 1, by first | rfl | (simp; omega) | go_num, by omega, hide (HMD.out.below HB9.out HMD.out.lt), hide (HMC.out.below HB9.out HMC.out.lt), hide (HBb.out.trans (HB9.out.mono HBb.out.size))⟩
                  case measure => simp [intOf]; omega
        · as_aux_lemma =>
            obtain rfl : t = n + 1 := by omega
            have hi' : ¬ ((n + 1 : Nat) : Int) - 1 < (n : Int) := by omega
            obtain ⟨WR, hWR⟩ : ∃ WR, WR = wr := ⟨_, rfl⟩
            subst hWR
            obtain ⟨es1, ck1, hb1, hl1, hst1⟩ := HN1.out
            obtain ⟨es2, ck2, hb2, hl2, hst2⟩ := HN2.out
            have hv1 : ∀ e ∈ es1.toList, e.val = .int .i64 1 := fun e he => by
              have h : (e.key, e.val) ∈ onesE (keysT (·.parent) scs (n + 1)) := by rw [← hl1]; exact List.mem_map.2 ⟨e, he, rfl⟩
              obtain ⟨k, _, hk⟩ := List.mem_map.1 h
              exact (congrArg Prod.snd hk).symm
            have hv2 : ∀ e ∈ es2.toList, e.val = .int .i64 1 := fun e he => by
              have h : (e.key, e.val) ∈ onesE (keysT (·.scope) vs (n + 1)) := by rw [← hl2]; exact List.mem_map.2 ⟨e, he, rfl⟩
              obtain ⟨k, _, hk⟩ := List.mem_map.1 h
              exact (congrArg Prod.snd hk).symm
            have g := validH_decl TK2.out.vd
            have hz1 : es1.size = n := by
              have h := congrArg List.length hl1
              rw [List.length_map] at h
              unfold onesE at h
              rw [List.length_map, keysT_len (fun j hj => by have h3 := g.decl j hj; rw [scH_at hj] at h3; have := TK2.out.hn; exact ⟨h3.1, by omega⟩), TK2.out.hn] at h
              simpa using h
            have hz2 : es2.size = m := by
              have h := congrArg List.length hl2
              rw [List.length_map] at h
              unfold onesE at h
              rw [List.length_map, keysT_len (fun j hj => by have h3 := g.declV _ (List.getElem_mem hj); have := TK2.out.hn; exact ⟨h3.1, by omega⟩), TK2.out.hm] at h
              simpa using h
            have hrg := run_range_map (P := Try.prog) WR 44 3 3 r1 es1 ck1 Try.underlying44 hb1
            have hr2l : r1 + 1 < WR.heap.size := HN2.out.lt
            have HST1 := hide hst1
            have HST2 := hide hst2
            have HV1 := hide hv1
            have HV2 := hide hv2
            have HH1 := hide hb1
            have HH2 := hide hb2
            have HZ1 := hide hz1
            have HZ2 := hide hz2
            have HL1 := hide hr2l
            clear hb1 hb2 hst1 hst2 hv1 hv2 hl1 hl2 g hz1 hz2 hr2l HN1 HN2
            go_wp2_with fail
            clear hrg
            go_loopw [] (fun w' => ∃ (w1 : World) (seen : Array Nat), w1.Alike WR ∧ w' = w1.alloc (.mapIter (some r1) ck1 seen ck1)) (fun w' => (leftOf es1 (w'.iterSeen WR.heap.size)).size)
            case atStart => exact ⟨WR, #[], ⟨rfl, rfl, rfl⟩, rfl⟩
            case round =>
              obtain ⟨w1, seen, hal, rfl⟩ := hrel
              have hsz : w1.heap.size = WR.heap.size := by rw [hal.1]
              have hb1 : w1.heap[r1]? = some (.map es1 ck1) := by rw [hal.1]; exact HH1.out
              have law := run_next_map (P := Try.prog) w1 0 r1 ck1 ck1 seen es1 ck1 hb1 HST1.out.1 (Nat.le_refl _)
              rw [hsz] at law
              rcases law with ⟨h0, hrun⟩ | ⟨e, he, w2, hal2, hrun⟩
              · have hnx : ∀ ty, (Instr.next (.pointer (some ⟨WR.heap.size, 0, none⟩)) false ty).run Try.prog (w1.alloc (.mapIter (some r1) ck1 seen ck1)) = _ := fun _ => hrun
                obtain ⟨X, hX⟩ : ∃ X, w1.alloc (.mapIter (some r1) ck1 seen ck1) = X := ⟨_, rfl⟩
                rw [hX] at hnx
                rw [hX]
                have hXs : X.heap.size = WR.heap.size + 1 := by rw [← hX, World.size_alloc, hsz]
                have hXb : X.heap[r1 + 1]? = some (.map es2 ck2) := by
                  rw [← hX, heap_alloc_old w1 _ (by have := HL1.out; omega), hal.1]; exact HH2.out
                have hXa : X.heap[r1]? = some (.map es1 ck1) := by
                  rw [← hX, heap_alloc_old w1 _ (by have := HL1.out; omega)]; exact hb1
                have HXal := hide (show X.Alike (WR.alloc (.mapIter (some r1) ck1 seen ck1)) from by
                  rw [← hX]
                  exact ⟨by show w1.heap.push _ = WR.heap.push _; rw [hal.1], hal.2.1, hal.2.2⟩)
                have hrg := run_range_map (P := Try.prog) X 44 3 3 (r1 + 1) es2 ck2 Try.underlying44 hXb
                have HXb := hide hXb
                have HXa := hide hXa
                have HXs := hide hXs
                clear hX hXb hXa h0 hrun hb1 hXs
                go_wp2_with fail
                clear hrg hnx
                go_loopw [] (fun w' => ∃ (w3 : World) (seen3 : Array Nat), w3.Alike X ∧ w' = w3.alloc (.mapIter (some (r1 + 1)) ck2 seen3 ck2)) (fun w' => (leftOf es2 (w'.iterSeen X.heap.size)).size)
                case atStart => exact ⟨X, #[], ⟨rfl, rfl, rfl⟩, rfl⟩
                case round =>
                  obtain ⟨w3, seen3, hal3, rfl⟩ := hrel
                  have hsz3 : w3.heap.size = X.heap.size := by rw [hal3.1]
                  have hb3 : w3.heap[r1 + 1]? = some (.map es2 ck2) := by rw [hal3.1]; exact HXb.out
                  have law := run_next_map (P := Try.prog) w3 0 (r1 + 1) ck2 ck2 seen3 es2 ck2 hb3 HST2.out.1 (Nat.le_refl _)
                  rw [hsz3] at law
                  rcases law with ⟨h0, hrun⟩ | ⟨e, he, w4, hal4, hrun⟩
                  · have hnx : ∀ ty, (Instr.next (.pointer (some ⟨X.heap.size, 0, none⟩)) false ty).run Try.prog (w3.alloc (.mapIter (some (r1 + 1)) ck2 seen3 ck2)) = _ := fun _ => hrun
                    have hbA : (w3.alloc (.mapIter (some (r1 + 1)) ck2 seen3 ck2)).heap[r1]? = some (.map es1 ck1) := by
                      rw [heap_alloc_old w3 _ (by have := HL1.out; have := HXs.out; omega), hal3.1]; exact HXa.out
                    have hbB : (w3.alloc (.mapIter (some (r1 + 1)) ck2 seen3 ck2)).heap[r1 + 1]? = some (.map es2 ck2) := by
                      rw [heap_alloc_old w3 _ (by have := HL1.out; have := HXs.out; omega), hal3.1]; exact HXb.out
                    obtain ⟨Z, hZ⟩ : ∃ Z, w3.alloc (.mapIter (some (r1 + 1)) ck2 seen3 ck2) = Z := ⟨_, rfl⟩
                    rw [hZ] at hnx hbA hbB
                    rw [hZ]
                    have hlen1 : ∀ ty, (Builtin.len_ #[44] ty #[.map (some r1)]).run Try.prog Z = .ok (.int .i64 (n : Int)) Z := fun ty => by
                      rw [← HZ1.out]; simp [Builtin.len_, run_underlying Try.underlying44, MapKept.run_getObj_map hbA, goInt, Result.andThen]
                    have hlen2 : ∀ ty, (Builtin.len_ #[44] ty #[.map (some (r1 + 1))]).run Try.prog Z = .ok (.int .i64 (m : Int)) Z := fun ty => by
                      rw [← HZ2.out]; simp [Builtin.len_, run_underlying Try.underlying44, MapKept.run_getObj_map hbB, goInt, Result.andThen]
                    have HFIN := hide (show ∃ w2, Below w.heap.size w w2 ∧ Z.Alike w2 from
                      ⟨(WR.alloc (.mapIter (some r1) ck1 seen ck1)).alloc (.mapIter (some (r1 + 1)) ck2 seen3 ck2), (HB.out.alloc HB.out.size _).alloc (by rw [World.size_alloc]; exact Nat.le_succ_of_le HB.out.size) _, by
                        rw [← hZ]
                        exact ⟨by show w3.heap.push _ = (WR.alloc _).heap.push _; rw [hal3.1, HXal.out.1], hal3.2.1.trans HXal.out.2.1, hal3.2.2.trans HXal.out.2.2⟩⟩)
                    have hnn : ((n : Int) == (n : Int)) = true := beq_self_eq_true _
                    have hmm2 : ((m : Int) == (m : Int)) = true := beq_self_eq_true _
                    clear hZ hbA hbB hb3 h0 hrun
                    go_wp2
                    go_ret
                    exact ⟨rfl, HFIN.out⟩
                  · have hval := HV2.out e (mem_left he).1
                    rw [hval] at hrun
                    have hnx : ∀ ty, (Instr.next (.pointer (some ⟨X.heap.size, 0, none⟩)) false ty).run Try.prog (w3.alloc (.mapIter (some (r1 + 1)) ck2 seen3 ck2)) = _ := fun _ => hrun
                    have hsz4 : w4.heap.size = X.heap.size := by rw [hal4.1, hal3.1]
                    have hb4 : w4.heap[r1 + 1]? = some (.map es2 ck2) := by rw [hal4.1]; exact hb3
                    have hen := run_entry_map (P := Try.prog) w4 (r1 + 1) ck2 seen3 es2 ck2 e hb4 (mem_left he).1 HST2.out.2.1
                    rw [hsz4, hval] at hen
                    have hal5 : w4.Alike X := ⟨hal4.1.trans hal3.1, hal4.2.1.trans hal3.2.1, hal4.2.2.trans hal3.2.2⟩
                    go_wp2
                    go_roundw
                    case rel => exact ⟨w4, seen3.push e.born, hal5, by first | rfl | trivial⟩
                    case measure =>
                      rw [← hsz4, World.iterSeen_alloc, hsz4, ← hsz3, World.iterSeen_alloc]
                      exact left_shrinks es2 seen3 e he
              · have hval := HV1.out e (mem_left he).1
                rw [hval] at hrun
                have hnx : ∀ ty, (Instr.next (.pointer (some ⟨WR.heap.size, 0, none⟩)) false ty).run Try.prog (w1.alloc (.mapIter (some r1) ck1 seen ck1)) = _ := fun _ => hrun
                have hsz2 : w2.heap.size = WR.heap.size := by rw [hal2.1, hal.1]
                have hb2 : w2.heap[r1]? = some (.map es1 ck1) := by rw [hal2.1]; exact hb1
                have hen := run_entry_map (P := Try.prog) w2 r1 ck1 seen es1 ck1 e hb2 (mem_left he).1 HST1.out.2.1
                rw [hsz2, hval] at hen
                have hal3 : w2.Alike WR := ⟨hal2.1.trans hal.1, hal2.2.1.trans hal.2.1, hal2.2.2.trans hal.2.2⟩
                go_wp2
                go_roundw
                case rel => exact ⟨w2, seen.push e.born, hal3, by first | rfl | trivial⟩
                case measure =>
                  rw [← hsz2, World.iterSeen_alloc, hsz2, ← hsz, World.iterSeen_alloc]
                  exact left_shrinks es1 seen e he
end Go.Proofs.Ytpfiofgchkfkhaa
