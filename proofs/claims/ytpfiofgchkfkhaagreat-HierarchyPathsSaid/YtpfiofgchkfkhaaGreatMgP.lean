/- MgP: the texts HlH HlE Few in one. -/
import Derived.Test.YtpfiofgchkfkhaaGreatMgO
import Derived.Deep.DeepCutAuto
import Derived.Deep.CutBlock
import Derived.Test.YtpfiofgchkfkhaaGreatMgK
import Derived.Test.YtpfiofgchkfkhaaGreatMgC
import Derived.Deep.QuietTactic
import Derived.BigQuiet
/- Contract of the reference's Order. -/
set_option linter.unusedVariables false
set_option linter.unusedSimpArgs false
namespace Go.Proofs.YtpfiofgchkfkhaaGreat
open Go.RowKit Go.Shelf Go.Maps
set_option maxRecDepth 20000 in
set_option maxHeartbeats 4000000 in
theorem refOrder_bad (scs : List Sc) (vs : List Va) (A A' : Option Addr) (cap cap' : Nat) (w : World) (H : InH w scs vs A A' cap') (hg : checkE scs vs ≠ 0) :
    Calls Tryz.prog 8 #[.slice A scs.length cap, .slice A' vs.length cap'] w fun e w' => e = .returned (.tuple #[.slice none 0 0, .slice none 0 0, .slice none 0 0, .int .i64 (checkE scs vs)]) ∧ Below w.heap.size w w' := by
  have CH := hide (fun W (hb : Below w.heap.size w W) => refCheck_any scs vs A A' cap cap' W (H.below hb))
  generalize checkE scs vs = E at *
  generalize scs.length = n at *
  generalize vs.length = m at *
  have e1 : (E == 0) = false := beq_eq_false_iff_ne.2 hg
  clear H hg
  go_enter Tryz.func8, Tryz.ntmps8
  go_wp2_with fail
  refine (CH.out _ (Below.refl _ _)).mono ?_
  rintro e w1 ⟨rfl, hb1⟩
  have Hb1 := hide hb1
  clear hb1
  go_wp2
  exact bodyPost_ret (v := .tuple #[.slice none 0 0, .slice none 0 0, .slice none 0 0, .int .i64 E]) ((results_tmp4 rfl _ _).trans rfl) rfl ⟨rfl, Hb1.out⟩
def RefOrdPost (w : World) (n m : Nat) (oS : List Sc) (oL : List Va) (oF : List Int) (e : Ending) (w' : World) : Prop :=
  ∃ a1 c1 a2 c2 a3 c3, e = .returned (.tuple #[.slice a1 n c1, .slice a2 m c2, .slice a3 oF.length c3, .int .i64 0]) ∧ ScS w' a1 oS ∧ VaS w' a2 oL ∧ Sl intV w' a3 oF ∧ Below w.heap.size w w'
theorem scE_ord {scs : List Sc} {pre : List Nat} {x : Nat} : scE (ordS scs pre x) = [.string (scH scs x).name, .int .i64 (scH scs x).typ, .int .i64 (nowH pre (scH scs x).parent)] := rfl
theorem own_ne {W : World} {base base' s s' n n' : Nat} {e e' : TypeId} {v v' : Value} {xs xs' : List Value} (h : W.ownsRow base e s v n xs) (h' : W.ownsRow base' e' s' v' n' xs') (hne : e ≠ e') : ∀ b, v.ownBlock = some b → v'.ownBlock = some b → False := by
  intro b hb hb'
  rcases h.2 with ⟨rfl, _⟩ | ⟨g, cap, cur, rfl, _, h3, _⟩
  · cases hb
  · rcases h'.2 with ⟨rfl, _⟩ | ⟨g', cap', cur', rfl, _, h3', _⟩
    · cases hb'
    · have e1 : g = b := Option.some.inj hb
      have e2 : g' = b := Option.some.inj hb'
      rw [e1] at h3
      rw [e2, h3] at h3'
      exact hne (Obj.cells.inj (Option.some.inj h3')).2.1
set_option maxRecDepth 20000 in
set_option maxHeartbeats 16000000 in
theorem refOrder_good (scs : List Sc) (vs : List Va) (A A' : Option Addr) (cap cap' : Nat) (w : World) (H : InH w scs vs A A' cap') (hg : Good scs vs) :
    Calls Tryz.prog 8 #[.slice A scs.length cap, .slice A' vs.length cap'] w (RefOrdPost w scs.length vs.length (orderS scs) (orderV scs vs).1 (orderV scs vs).2) := by
  have CK := fun W (hb : Below w.heap.size w W) => refCheck_any scs vs A A' cap cap' W (H.below hb)
  rw [checkE_ok.2 hg] at CK
  have hlen := preH_len hg.decl
  have PRE := fun (W : World) (hb : Below w.heap.size w W) => show Calls Tryz.prog 33 #[.slice A scs.length cap, .int .i64 (-1)] W fun e w' => ∃ g c, e = .returned (.slice (some ⟨g, 0, none⟩) scs.length c) ∧
      w'.ownsRow W.heap.size 3 1 (.slice (some ⟨g, 0, none⟩) scs.length c) scs.length ((natsI (preH scs)).map intV) ∧ Below W.heap.size W w' from by
    have h := refPre_any scs A cap H.hl hg.decl (scs.length + 1) (-1) W (by omega) (by omega) (by omega) (sc_below H.hs hb)
    have e : preT scs (-1) = preH scs := rfl
    rw [e, hlen] at h
    exact h
  have HS := hide H.hs
  have HV := hide H.hv
  have hl := H.hl
  have hl' := H.hl'
  have HOK := hide (fun (x : Nat) (hx : x < scs.length) => show In64 (scH scs x).parent from by rw [scH_at hx]; exact (H.ok _ (List.getElem_mem hx)).parent)
  have HD := hide hg.decl
  have HPL := hide (fun (k : Nat) (hk : k < scs.length) => show ∃ hk' : k < (preH scs).length, (preH scs)[k] < scs.length from ⟨by omega, preH_lt hg.decl (by omega) (List.getElem_mem _)⟩)
  have HPA := hide (fun (i : Nat) (hi : i < scs.length) => preH_all hg.decl (i + 1) i (by omega) hi)
  have HSO := hide (show (preH scs).flatMap (fun i => scE (ordS scs (preH scs) i)) = (orderS scs).flatMap scE by rw [orderS_eq, List.flatMap_map])
  have HSL := hide (orderS_len hg.decl)
  have HVO := hide (allH_eq hg)
  have HVL := hide (orderV_len hg)
  have HLEN := hide hlen
  clear H hg hlen
  generalize preH scs = pre at *
  generalize orderS scs = oS at *
  generalize orderV scs vs = oV at *
  obtain ⟨oL, oF⟩ := oV
  obtain ⟨n, hn⟩ : ∃ n, scs.length = n := ⟨_, rfl⟩
  obtain ⟨m, hm⟩ : ∃ m, vs.length = m := ⟨_, rfl⟩
  have HSL' := HSL.out
  have HVL' := HVL.out
  have HPL' := HPL.out
  have HPA' := HPA.out
  have HVO' := HVO.out
  have HLEN' := HLEN.out
  rw [hn] at CK PRE HSL' HPL' HPA' HVO' HLEN' hl
  rw [hm] at CK HVL' hl'
  rw [hn, hm]
  simp only at HVL' ⊢
  have CK2 := hide CK
  have PRE2 := hide PRE
  have HSL2 := hide HSL'
  have HVL2 := hide HVL'
  have HPL2 := hide HPL'
  have HPA2 := hide HPA'
  have HVO2 := hide HVO'
  have HLEN2 := hide HLEN'
  have Hn := hide hn
  have Hm := hide hm
  clear CK PRE HSL HVL HPL HPA HVO HLEN HSL' HVL' HPL' HPA' HVO' HLEN' hn hm
  go_enter Tryz.func8, Tryz.ntmps8
  go_wp2_with fail
  refine (CK2.out _ (Below.refl _ _)).mono ?_
  rintro e w1 ⟨rfl, hb1⟩
  have HB1 := hide hb1
  clear hb1
  go_wp2_with fail
  refine (PRE2.out w1 HB1.out).mono ?_
  rintro e w2 ⟨gO, cO, rfl, hoO, hb2⟩
  have HB2 := hide (HB1.out.trans (hb2.mono HB1.out.size))
  have HSO2 := hide (show ∀ (k : Nat) (hk : k < n) (W : World), Below w2.heap.size w2 W → ∃ x : Nat, pre[k]? = some x ∧ x < n ∧ W.cell? ⟨gO, k, none⟩ = some (.int .i64 (x : Int)) from fun k hk W hb => by
    obtain ⟨hk', hx⟩ := HPL2.out k hk
    obtain ⟨A9, c9, e9, h9, _⟩ := Sl_own hoO (by rw [natsI_len]; exact HLEN2.out.symm)
    cases e9
    obtain ⟨b, off, e, hbz, hat⟩ := h9.at (i := k) (by rw [natsI_len]; exact hk')
    cases e
    have := hat W hb
    rw [Nat.zero_add] at this
    refine ⟨pre[k], List.getElem?_eq_getElem hk', hx, this.trans ?_⟩
    unfold natsI intV
    rw [List.getElem_map])
  have HOO := hide (show Sl intV w2 (some ⟨gO, 0, none⟩) (natsI pre) from by obtain ⟨A9, c9, e9, h9, _⟩ := Sl_own hoO (by rw [natsI_len]; exact HLEN2.out.symm); cases e9; exact h9)
  have HIX := hide (fun (W : World) (hb : Below w2.heap.size w2 W) (x : Int) => show Calls Tryz.prog 34 #[.slice (some ⟨gO, 0, none⟩) n cO, .int .i64 x] W fun e w' => e = .returned (.int .i64 (idxR (natsI pre) x)) ∧ W = w' from by
    have h := refIndex_any cO x (HOO.out.below hb) (by rw [natsI_len, HLEN2.out]; exact Nat.le_trans hl (by decide))
    rw [natsI_len, HLEN2.out] at h
    exact h)
  clear hoO hb2
  have HO0 := hide (World.ownsRow_lit (base := w2.heap.size) (e := 47) (size := 3) w2 #[] 0 (Nat.le_refl _) (by decide) rfl)
  have HL0 := hide ((Below.refl w2.heap.size w2).alloc (Nat.le_refl _) (.cells #[] 47))
  go_wp2_with fail
  go_loopw [10, 11] (fun v10 v11 wr => ∃ k g c : Nat, v11 = .int .i64 (k : Int) ∧ v10 = .slice (some ⟨g, 0, none⟩) k c ∧ k ≤ n ∧ Hid (wr.ownsRow w2.heap.size 47 3 (.slice (some ⟨g, 0, none⟩) k c) k ((pre.take k).flatMap fun i => scE (ordS scs pre i))) ∧ Hid (Below w2.heap.size w2 wr)) (fun _ v _ => n - (intOf v).toNat)
  case atStart => exact ⟨0, w2.heap.size, 0, rfl, rfl, Nat.zero_le _, HO0, HL0⟩
  case round =>
    obtain ⟨k, g, c, rfl, rfl, hk, HO, HB⟩ := hrel
    by_cases hlt : k < n
    · have hk' : (k : Int) < (n : Int) := by omega
      have hk0 : (0 : Int) ≤ (k : Int) := by omega
      have hw1 : IntKind.i64.wrap ((k : Int) + 1) = (k : Int) + 1 := IntWalk.i64_in _ (by omega)
      obtain ⟨x, hpx, hx, cx⟩ := HSO2.out k hlt wr HB.out
      have hix : x < scs.length := by rw [Hn.out]; exact hx
      obtain ⟨b, off, rfl, hbz, hat⟩ := sc_at HS.out hix
      obtain ⟨c0, c1, c2⟩ := hat wr (HB2.out.trans (HB.out.mono HB2.out.size))
      have hxn : (x : Int) < (n : Int) := by omega
      have hx0 : (0 : Int) ≤ (x : Int) := by omega
      have htk : pre.take (k + 1) = pre.take k ++ [x] := by rw [List.take_add_one, hpx]; rfl
      have HL2 := hide (show (pre.take (k + 1)).flatMap (fun i => scE (ordS scs pre i)) = (pre.take k).flatMap (fun i => scE (ordS scs pre i)) ++ [.string (scH scs x).name, .int .i64 (scH scs x).typ, .int .i64 (nowH pre (scH scs x).parent)] by
        rw [htk, List.flatMap_append]; simp [scE_ord])
      have hq := HD.out x hix
      have HNW := hide (show nowH pre (scH scs x).parent = if (scH scs x).parent < 0 then (scH scs x).parent else idxR (natsI pre) (scH scs x).parent by
        unfold nowH
        by_cases h : (scH scs x).parent < 0
        · rw [if_pos h, if_pos h]; omega
        · rw [if_neg h, if_neg h]
          obtain ⟨y, hy⟩ : ∃ y : Nat, (scH scs x).parent = (y : Int) := ⟨(scH scs x).parent.toNat, by omega⟩
          rw [hy, idx_nats (HPA2.out y (by omega))]; rfl)
      rw [← scH_at hix] at c0 c1 c2
      generalize nowH pre (scH scs x).parent = np at *
      generalize scH scs x = s at *
      obtain ⟨nm, ty, pa⟩ := s
      simp only at c0 c1 c2 HL2 HNW hq
      have hr3 := Row.new wr 47 #[.string nm, .int .i64 ty, .int .i64 pa]
      have HR3 := hide hr3
      have HO3 := hide (HO.out.alloc (.cells #[.string nm, .int .i64 ty, .int .i64 pa] 47))
      have HB3 := hide (HB.out.alloc HB.out.size (.cells #[.string nm, .int .i64 ty, .int .i64 pa] 47))
      have f2 : (wr.alloc (.cells #[.string nm, .int .i64 ty, .int .i64 pa] 47)).cell? ⟨wr.heap.size, 2, none⟩ = some (.int .i64 pa) := hr3.cell 2
      have f2f := hr3.frozen 2
      obtain ⟨L, hL⟩ : ∃ L, (pre.take k).flatMap (fun i => scE (ordS scs pre i)) = L := ⟨_, rfl⟩
      rw [hL] at HL2 HO HO3
      clear hat htk hq hr3 hL hpx
      go_upto_if 43 with fail
      go_cut [12] (fun v12 wx => v12 = .pointer (some ⟨wr.heap.size, 0, none⟩) ∧ Hid (Row wx wr.heap.size 47 #[.string nm, .int .i64 ty, .int .i64 np]) ∧ Hid (wx.ownsRow w2.heap.size 47 3 (.slice (some ⟨g, 0, none⟩) k c) k L) ∧ Hid (Below w2.heap.size w2 wx))
      case first =>
        by_cases h0 : pa < 0
        · have h0' : ¬ 0 ≤ pa := by omega
          have HNW2 := hide (show np = pa by rw [HNW.out, if_pos h0])
          go_wp2_with fail
          go_meet
          exact ⟨rfl, by rw [HNW2.out]; exact HR3, HO3, HB3⟩
        · have h0' : 0 ≤ pa := by omega
          have HNW2 := hide (show idxR (natsI pre) pa = np by rw [HNW.out, if_neg h0])
          have IX := HIX.out _ HB3.out pa
          rw [HNW2.out] at IX
          have IX2 := hide IX
          clear IX
          go_wp2_with fail
          refine IX2.out.mono ?_
          rintro e w5 ⟨rfl, rfl⟩
          go_wp2_with fail
          go_meet
          exact ⟨rfl, hide (Row.new wr _ _), hide (HO.out.alloc _), hide (HB.out.alloc HB.out.size _)⟩
      case rest =>
        obtain ⟨rfl, HR4, HO4, HB4⟩ := hcut
        have g0 : wc.cell? ⟨wr.heap.size, 0, none⟩ = some (.string nm) := HR4.out.cell 0
        have g1 : wc.cell? ⟨wr.heap.size, 1, none⟩ = some (.int .i64 ty) := HR4.out.cell 1
        have g2 : wc.cell? ⟨wr.heap.size, 2, none⟩ = some (.int .i64 np) := HR4.out.cell 2
        have HO5 := hide (HO4.out.alloc (.cells #[.string nm, .int .i64 ty, .int .i64 np] 47))
        have HB5 := hide (HB4.out.alloc HB4.out.size (.cells #[.string nm, .int .i64 ty, .int .i64 np] 47))
        have C2 := hide (show ∀ (j : Nat) (u : Value), ([Value.string nm, .int .i64 ty, .int .i64 np] : List Value)[j]? = some u → (wc.alloc (.cells #[.string nm, .int .i64 ty, .int .i64 np] 47)).cell? ((⟨wc.heap.size, 0, none⟩ : Addr).add j) = some u from cells_new _ _ rfl)
        have C3 := hide (show ∀ u ∈ ([Value.string nm, .int .i64 ty, .int .i64 np] : List Value), u.oneCell' = true from by intro u hu; simp at hu; rcases hu with rfl | rfl | rfl <;> rfl)
        have HZ := hide (show w2.heap.size ≤ (wc.alloc (.cells #[.string nm, .int .i64 ty, .int .i64 np] 47)).heap.size by rw [World.size_alloc]; have := HB4.out.size; omega)
        have HH1 := hide (show k + 1 ≤ maxLen by unfold maxLen; omega)
        have HH2 := hide (show (k + 1) * 32 ≤ 140737488355328 by omega)
        clear f2 f2f
        go_wp2_with (at_builtin; refine wpList_append_at _ rfl _ _ 22 rfl w2.heap.size 47 infoSc Tryz.underlying22 rfl (by decide) _ k L rfl HO5.out ⟨wc.heap.size, 0, none⟩ 1 1 [.string nm, .int .i64 ty, .int .i64 np] rfl rfl C2.out C3.out HH1.out HH2.out HZ.out ?_; intro v' w6 hown6 hgrow6 _ _; have HO6 := hide hown6; have HG6 := hide hgrow6; clear hown6 hgrow6)
        have HB6 := hide (HB5.out.grown HG6.out HZ.out (fun j hj => (World.ownsRow.lt HO5.out j hj).1))
        obtain ⟨g6, c6, hv', _⟩ := World.ownsRow.form HO6.out (by omega)
        subst hv'
        have HO7 := hide (show w6.ownsRow w2.heap.size 47 3 (.slice (some ⟨g6, 0, none⟩) (k + 1) c6) (k + 1) ((pre.take (k + 1)).flatMap fun i => scE (ordS scs pre i)) from by rw [HL2.out]; exact HO6.out)
        go_wp2
        go_roundw
        case rel => first | exact ⟨k + 1, g6, c6, by go_num, rfl, by omega, HO7, HB6⟩ | ((repeat apply Exists.intro); exact ⟨⟨by go_num, rfl, by omega, HO7, HB6⟩, rfl⟩)
        case measure => simp [intOf]; omega
    · obtain rfl : k = n := by omega
      have hk' : ¬ (k : Int) < (k : Int) := by omega
      have HO1 := hide (show wr.ownsRow w2.heap.size 47 3 (.slice (some ⟨g, 0, none⟩) k c) k (oS.flatMap scE) from by
        have h := HO.out
        rw [List.take_of_length_le (Nat.le_of_eq HLEN2.out), HSO.out] at h
        exact h)
      have HB4 := hide (HB2.out.trans (HB.out.mono HB2.out.size))
      have HSO4 := hide (fun (i : Nat) (hi : i < k) (W : World) (hb : Below wr.heap.size wr W) => HSO2.out i hi W (HB.out.trans (hb.mono HB.out.size)))
      have q1 := HB4.out.size
      clear HO HIX HL0 HO0
      obtain ⟨w4, hw4⟩ : ∃ w4, w4 = wr := ⟨_, rfl⟩
      subst hw4
      have HA0 := hide (World.ownsRow_lit (base := w4.heap.size) (e := 33) (size := 7) w4 #[] 0 (Nat.le_refl _) (by decide) rfl)
      have HF0 := hide (show ((w4.alloc (.cells #[] 33)).alloc (.cells #[] 3)).ownsRow w4.heap.size 3 1 (.slice (some ⟨w4.heap.size + 1, 0, none⟩) 0 0) 0 [] from by
        have h := World.ownsRow_lit (base := w4.heap.size) (e := 3) (size := 1) (w4.alloc (.cells #[] 33)) #[] 0 (by rw [World.size_alloc]; omega) (by decide) rfl
        rw [World.size_alloc] at h
        exact h)
      have HA1 := hide (HA0.out.alloc (.cells #[] 3))
      have HBB := hide (((Below.refl w4.heap.size w4).alloc (Nat.le_refl _) (.cells #[] 33)).alloc (by rw [World.size_alloc]; omega) (.cells #[] 3))
      clear HA0
      go_wp2_with fail
      go_loopw [13, 14, 15] (fun v13 v14 v15 ws => ∃ (j : Nat) (q : Int) (L : List Va) (F : List Int) (g13 c13 g14 c14 : Nat), v15 = .int .i64 q ∧ -1 ≤ q ∧ q ≤ k ∧ j ≤ 1000001 ∧ v13 = .slice (some ⟨g13, 0, none⟩) L.length c13 ∧ v14 = .slice (some ⟨g14, 0, none⟩) F.length c14 ∧ L.length ≤ j * 1000000 ∧ F.length ≤ j * 1000000 ∧ Hid (q = (j : Int) - 1) ∧ Hid (numF (allH pre vs j) [] = (L, F)) ∧
        Hid (ws.ownsRow w4.heap.size 33 7 (.slice (some ⟨g13, 0, none⟩) L.length c13) L.length (L.flatMap vaE)) ∧ Hid (ws.ownsRow w4.heap.size 3 1 (.slice (some ⟨g14, 0, none⟩) F.length c14) F.length (F.map intV)) ∧ Hid (Below w4.heap.size w4 ws)) (fun _ _ v _ => ((k : Int) - intOf v).toNat)
      case atStart => exact ⟨0, -1, [], [], w4.heap.size, 0, w4.heap.size + 1, 0, rfl, by omega, by omega, by omega, rfl, rfl, Nat.zero_le _, Nat.zero_le _, hide rfl, hide rfl, HA1, HF0, HBB⟩
      case round =>
        obtain ⟨ws, hws⟩ : ∃ ws, ws = wr := ⟨_, rfl⟩
        subst hws
        obtain ⟨j, q, L, F, g13, c13, g14, c14, rfl, hq1, hq2, hj, rfl, rfl, hL, hF, HQ, HN, HA, HFR, HB⟩ := hrel
        by_cases hlt2 : q < k
        · have hw1 : IntKind.i64.wrap (q + 1) = q + 1 := IntWalk.i64_in _ (by omega)
          have hjn : j ≤ k := by have := HQ.out; omega
          go_upto_if 62 with fail
          go_cut [16] (fun v16 wx => v16 = .int .i64 (oldH pre j) ∧ wx = ws)
          case first =>
            by_cases h0 : 0 ≤ q
            · obtain ⟨i, rfl⟩ : ∃ i : Nat, q = (i : Int) := ⟨q.toNat, by omega⟩
              have hik : i < k := by omega
              obtain ⟨x, hpx, hx, cx⟩ := HSO4.out i hik ws HB.out
              have HOL := hide (show (x : Int) = oldH pre j by
                have := HQ.out
                obtain rfl : j = i + 1 := by omega
                unfold oldH
                rw [if_neg (by omega), Nat.add_sub_cancel, List.getD_eq_getElem?_getD, hpx]; rfl)
              clear hpx
              go_wp2_with fail
              go_meet
              exact ⟨by rw [HOL.out], rfl⟩
            · have HOL := hide (show oldH pre j = -1 by
                have := HQ.out
                obtain rfl : j = 0 := by omega
                rfl)
              go_wp2_with fail
              go_meet
              exact ⟨by rw [HOL.out], rfl⟩
          case rest =>
            obtain ⟨rfl, rfl⟩ := hcut
            have HP0 := hide (show numF (partH pre vs j 0) [] = (L, F) by rw [partH_zero]; exact HN.out)
            have HPS := hide (fun (i : Nat) (hi : i < vs.length) => partH_step pre vs j hi)
            have HPE := hide (partH_end pre vs j)
            rw [Hm.out] at HPE
            obtain ⟨old, hold⟩ : ∃ old, oldH pre j = old := ⟨_, rfl⟩
            have HPS' := HPS.out
            rw [hold] at HPS'
            rw [hold]
            have HPS2 := hide HPS'
            have hLj : L.length ≤ j * 1000000 + 0 := by rw [Nat.add_zero]; exact hL
            have hFj : F.length ≤ j * 1000000 + 0 := by rw [Nat.add_zero]; exact hF
            clear HPS HPS' hold HN
            go_wp2_with fail
            go_loopw [13, 14, 17] (fun v13 v14 v17 wt => ∃ (i : Nat) (L : List Va) (F : List Int) (g13 c13 g14 c14 : Nat), v17 = .int .i64 (i : Int) ∧ i ≤ m ∧ v13 = .slice (some ⟨g13, 0, none⟩) L.length c13 ∧ v14 = .slice (some ⟨g14, 0, none⟩) F.length c14 ∧ L.length ≤ j * 1000000 + i ∧ F.length ≤ j * 1000000 + i ∧ Hid (numF (partH pre vs j i) [] = (L, F)) ∧
              Hid (wt.ownsRow w4.heap.size 33 7 (.slice (some ⟨g13, 0, none⟩) L.length c13) L.length (L.flatMap vaE)) ∧ Hid (wt.ownsRow w4.heap.size 3 1 (.slice (some ⟨g14, 0, none⟩) F.length c14) F.length (F.map intV)) ∧ Hid (Below w4.heap.size w4 wt)) (fun _ _ v _ => m - (intOf v).toNat)
            case atStart => exact ⟨0, L, F, g13, c13, g14, c14, rfl, Nat.zero_le _, rfl, rfl, hLj, hFj, HP0, HA, HFR, HB⟩
            case round =>
              obtain ⟨wt, hwt⟩ : ∃ wt, wt = wr := ⟨_, rfl⟩
              subst hwt
              clear HA HFR HB HP0 hLj hFj hL hF
              obtain ⟨i, L, F, g13, c13, g14, c14, rfl, hi, rfl, rfl, hL, hF, HN, HA, HFR, HB⟩ := hrel
              by_cases hlt3 : i < m
              · have hi' : (i : Int) < (m : Int) := by omega
                have hi0 : (0 : Int) ≤ (i : Int) := by omega
                have hw2 : IntKind.i64.wrap ((i : Int) + 1) = (i : Int) + 1 := IntWalk.i64_in _ (by omega)
                have hix : i < vs.length := by rw [Hm.out]; exact hlt3
                obtain ⟨b, off, rfl, hbz, hat⟩ := va_at HV.out hix
                obtain ⟨c0, c1, c2, c3, c4, c5, c6⟩ := hat wt (HB4.out.trans (HB.out.mono HB4.out.size))
                have HST := hide (HPS2.out i hix)
                generalize vs[i]'hix = v at *
                obtain ⟨nm, ty, sc, sg, rg, msb, lsb⟩ := v
                simp only at c0 c1 c2 c3 c4 c5 c6 HST
                clear hat
                by_cases hsc : sc = old
                · have e1 : (sc == old) = true := beq_iff_eq.2 hsc
                  have HST2 := hide (show numF (partH pre vs j (i + 1)) [] = (L ++ [⟨nm, ty, q, (F.idxOf sg : Int), rg, msb, lsb⟩], if sg ∈ F then F else F ++ [sg]) from by
                    rw [HST.out, if_pos hsc, numF_snoc, HN.out, ← HQ.out]; rfl)
                  clear HST hsc
                  obtain ⟨F2, hF2⟩ : ∃ F2, (if sg ∈ F then F else F ++ [sg]) = F2 := ⟨_, rfl⟩
                  have HF2 := hide hF2
                  have hF2l : F2.length ≤ j * 1000000 + (i + 1) := by
                    rw [← hF2]; split
                    · omega
                    · rw [List.length_append, List.length_singleton]; omega
                  have HIX2 := hide (show idxR F2 sg = (F.idxOf sg : Int) by
                    rw [← hF2]; split
                    · rename_i h; exact idx_in h
                    · rename_i h; rw [idx_snoc h, List.idxOf_eq_length h])
                  rw [hF2] at HST2
                  clear hF2
                  generalize (F.idxOf sg : Int) = ix at *
                  have hr3 := Row.new wt 33 #[.string nm, .int .i64 ty, .int .i64 sc, .int .i64 sg, .bool rg, .int .i64 msb, .int .i64 lsb]
                  obtain ⟨X, hX⟩ : ∃ X, wt.heap.size = X := ⟨_, rfl⟩
                  have hr5 := hr3.set_ 2 (.int .i64 q)
                  have hXB : w4.heap.size ≤ wt.heap.size := HB.out.size
                  have HA5 := hide (ownsRow_sameH (W2 := (wt.alloc (.cells #[.string nm, .int .i64 ty, .int .i64 sc, .int .i64 sg, .bool rg, .int .i64 msb, .int .i64 lsb] 33)).setCell ⟨wt.heap.size, 2, none⟩ (.int .i64 q)) HA.out (fun b hb => (Below.heap_setCell _ ⟨_, 2, none⟩ _ _ (by show b ≠ wt.heap.size; have := (HA.out.lt b hb).2; omega)).trans (Below.heap_alloc _ _ _ (HA.out.lt b hb).2)))
                  have HF5 := hide (ownsRow_sameH (W2 := (wt.alloc (.cells #[.string nm, .int .i64 ty, .int .i64 sc, .int .i64 sg, .bool rg, .int .i64 msb, .int .i64 lsb] 33)).setCell ⟨wt.heap.size, 2, none⟩ (.int .i64 q)) HFR.out (fun b hb => (Below.heap_setCell _ ⟨_, 2, none⟩ _ _ (by show b ≠ wt.heap.size; have := (HFR.out.lt b hb).2; omega)).trans (Below.heap_alloc _ _ _ (HFR.out.lt b hb).2)))
                  have HB5 := hide ((HB.out.alloc HB.out.size (.cells #[.string nm, .int .i64 ty, .int .i64 sc, .int .i64 sg, .bool rg, .int .i64 msb, .int .i64 lsb] 33)).setCell (p := ⟨wt.heap.size, 2, none⟩) HB.out.size (.int .i64 q))
                  obtain ⟨W5, hW5⟩ : ∃ W5, (wt.alloc (.cells #[.string nm, .int .i64 ty, .int .i64 sc, .int .i64 sg, .bool rg, .int .i64 msb, .int .i64 lsb] 33)).setCell ⟨wt.heap.size, 2, none⟩ (.int .i64 q) = W5 := ⟨_, rfl⟩
                  rw [hW5] at hr5 HA5 HF5 HB5
                  have HR5 := hide (show Row W5 wt.heap.size 33 #[.string nm, .int .i64 ty, .int .i64 q, .int .i64 sg, .bool rg, .int .i64 msb, .int .i64 lsb] from hr5)
                  have f3 : W5.cell? ⟨wt.heap.size, 3, none⟩ = some (.int .i64 sg) := HR5.out.cell 3
                  have HAP := hide (show ∀ (W : World), W.ownsRow w4.heap.size 33 7 (.slice (some ⟨g13, 0, none⟩) L.length c13) L.length (L.flatMap vaE) → True from fun _ _ => trivial)
                  clear hr3 hr5 hX HAP
                  have HX := hide (show w4.heap.size ≤ wt.heap.size ∧ (∀ b, (Value.slice (some ⟨g14, 0, none⟩) F.length c14).ownBlock = some b → b < wt.heap.size) ∧ (∀ b, (Value.slice (some ⟨g13, 0, none⟩) L.length c13).ownBlock = some b → b < wt.heap.size) from ⟨hXB, fun b hb => (HFR.out.lt b hb).2, fun b hb => (HA.out.lt b hb).2⟩)
                  have HNE := hide (show g13 ≠ g14 from fun e => own_ne HA5.out HF5.out (by decide) g13 rfl (by rw [e]; rfl))
                  have hS5 : Sl intV W5 (some ⟨g14, 0, none⟩) F := by obtain ⟨A9, c9, e9, h9, _⟩ := Sl_own HF5.out rfl; cases e9; exact h9
                  have IX5 := hide (refIndex_any c14 sg hS5 (by omega))
                  have HR0 := hide (show (idxR F sg < 0 → F2 = F ++ [sg]) ∧ (0 ≤ idxR F sg → F2 = F) from by
                    rw [← HF2.out]
                    by_cases h : sg ∈ F
                    · rw [idx_in h, if_pos h]; exact ⟨fun h => by omega, fun _ => rfl⟩
                    · rw [idx_not h, if_neg h]; exact ⟨fun _ => rfl, fun h => by omega⟩)
                  generalize idxR F sg = r0 at *
                  clear hS5 HF2
                  go_wp2_with fail
                  refine IX5.out.mono ?_
                  rintro e W6 ⟨rfl, rfl⟩
                  go_upto_if 90 with fail
                  go_cut [14] (fun v14 wx => ∃ g c, v14 = .slice (some ⟨g, 0, none⟩) F2.length c ∧ Hid (wx.ownsRow w4.heap.size 3 1 (.slice (some ⟨g, 0, none⟩) F2.length c) F2.length (F2.map intV)) ∧ Hid (Row wx wt.heap.size 33 #[.string nm, .int .i64 ty, .int .i64 q, .int .i64 sg, .bool rg, .int .i64 msb, .int .i64 lsb]) ∧
                    Hid (wx.ownsRow w4.heap.size 33 7 (.slice (some ⟨g13, 0, none⟩) L.length c13) L.length (L.flatMap vaE)) ∧ Hid (Below w4.heap.size w4 wx))
                  case first =>
                    by_cases hneg : r0 < 0
                    · have HE := hide (HR0.out.1 hneg)
                      have HFA := hide (HF5.out.alloc (.cells #[.int .i64 sg] 3))
                      have HBA := hide (HB5.out.alloc HB5.out.size (.cells #[.int .i64 sg] 3))
                      have HZ := hide (show w4.heap.size ≤ (W5.alloc (.cells #[.int .i64 sg] 3)).heap.size by rw [World.size_alloc]; have := HB5.out.size; omega)
                      have HH1 := hide (show F.length + 1 ≤ maxLen by unfold maxLen; omega)
                      have HH2 := hide (show (F.length + 1) * 8 ≤ 140737488355328 by omega)
                      go_wp2_with (at_builtin; refine wpList_append_at _ rfl _ _ 26 rfl w4.heap.size 3 infoIntH Tryz.underlying26 rfl (by decide) (.slice (some ⟨g14, 0, none⟩) F.length c14) F.length (F.map intV) rfl HFA.out ⟨W5.heap.size, 0, none⟩ 1 1 [.int .i64 sg] rfl rfl (cells_new _ _ rfl) (by intro u hu; simp only [List.mem_cons, List.not_mem_nil, or_false] at hu; rcases hu with rfl; rfl) HH1.out HH2.out HZ.out ?_; intro v' w6 hown6 hgrow6 _ _; have HO6 := hide hown6; have HG6 := hide hgrow6; clear hown6 hgrow6)
                      obtain ⟨g6, c6', hv', _⟩ := World.ownsRow.form HO6.out (by omega)
                      subst hv'
                      go_meet
                      refine ⟨g6, c6', by rw [HE.out, List.length_append]; rfl, hide ?_, hide ((HR5.out.alloc _).grown HG6.out (fun e => by have := HX.out.2.1 _ e.symm; omega)), hide ((HA5.out.alloc _).kept HG6.out (.inr (fun e => HNE.out (by simpa [Value.ownBlock] using e)))), hide (HBA.out.grown HG6.out HZ.out (fun j hj => (World.ownsRow.lt HFA.out j hj).1))⟩
                      rw [HE.out, List.length_append, List.map_append]
                      exact HO6.out
                    · have HE := hide (HR0.out.2 (by omega))
                      go_wp2_with fail
                      go_meet
                      exact ⟨g14, c14, by rw [HE.out], by rw [HE.out]; exact HF5, HR5, HA5, HB5⟩
                  case rest =>
                    obtain ⟨g6, c6', rfl, HF6, HR6, HA6, HB6⟩ := hcut
                    have hXw : wt.heap.size < wc.heap.size := HR6.out.lt
                    have k3 : wc.cell? ⟨wt.heap.size, 3, none⟩ = some (.int .i64 sg) := HR6.out.cell 3
                    have k3f := HR6.out.frozen 3
                    have hS6 : Sl intV wc (some ⟨g6, 0, none⟩) F2 := by obtain ⟨A9, c9, e9, h9, _⟩ := Sl_own HF6.out rfl; cases e9; exact h9
                    have IX := refIndex_any c6' sg hS6 (by omega)
                    rw [HIX2.out] at IX
                    have IX6 := hide IX
                    have hNE6 : g6 ≠ wt.heap.size := fun e => by
                      have h1 := HR6.out
                      rcases HF6.out.2 with ⟨h2, _⟩ | ⟨g', cap', cur, h2, _, h3, _⟩
                      · cases h2
                      · cases h2
                        have h4 : wc.heap[wt.heap.size]? = some (.cells cur 3 (0, 0)) := by rw [← e]; exact h3
                        have h5 : wc.heap[wt.heap.size]? = _ := h1
                        rw [h4] at h5
                        have := (Obj.cells.inj (Option.some.inj h5)).2.1
                        exact absurd this (by decide)
                    have hr7 := HR6.out.set_ 3 (.int .i64 ix)
                    have HA7 := hide (ownsRow_sameH (W2 := wc.setCell ⟨wt.heap.size, 3, none⟩ (.int .i64 ix)) HA6.out (fun b hb => Below.heap_setCell _ ⟨_, 3, none⟩ _ _ (by show b ≠ wt.heap.size; have := HX.out.2.2 b hb; omega)))
                    have HF7 := hide (ownsRow_sameH (W2 := wc.setCell ⟨wt.heap.size, 3, none⟩ (.int .i64 ix)) HF6.out (fun b hb => Below.heap_setCell _ ⟨_, 3, none⟩ _ _ (by show b ≠ wt.heap.size; have e : g6 = b := Option.some.inj hb; rw [← e]; exact hNE6)))
                    have HB7 := hide (HB6.out.setCell (p := ⟨wt.heap.size, 3, none⟩) HX.out.1 (.int .i64 ix))
                    obtain ⟨W7, hW7⟩ : ∃ W7, wc.setCell ⟨wt.heap.size, 3, none⟩ (.int .i64 ix) = W7 := ⟨_, rfl⟩
                    rw [hW7] at hr7 HA7 HF7 HB7
                    have HR7 := hide (show Row W7 wt.heap.size 33 #[.string nm, .int .i64 ty, .int .i64 q, .int .i64 ix, .bool rg, .int .i64 msb, .int .i64 lsb] from hr7)
                    have p0 : W7.cell? ⟨wt.heap.size, 0, none⟩ = some (.string nm) := HR7.out.cell 0
                    have p1 : W7.cell? ⟨wt.heap.size, 1, none⟩ = some (.int .i64 ty) := HR7.out.cell 1
                    have p2 : W7.cell? ⟨wt.heap.size, 2, none⟩ = some (.int .i64 q) := HR7.out.cell 2
                    have p3 : W7.cell? ⟨wt.heap.size, 3, none⟩ = some (.int .i64 ix) := HR7.out.cell 3
                    have p4 : W7.cell? ⟨wt.heap.size, 4, none⟩ = some (.bool rg) := HR7.out.cell 4
                    have p5 : W7.cell? ⟨wt.heap.size, 5, none⟩ = some (.int .i64 msb) := HR7.out.cell 5
                    have p6 : W7.cell? ⟨wt.heap.size, 6, none⟩ = some (.int .i64 lsb) := HR7.out.cell 6
                    have HO8 := hide (HA7.out.alloc (.cells #[.string nm, .int .i64 ty, .int .i64 q, .int .i64 ix, .bool rg, .int .i64 msb, .int .i64 lsb] 33))
                    have HB8 := hide (HB7.out.alloc HB7.out.size (.cells #[.string nm, .int .i64 ty, .int .i64 q, .int .i64 ix, .bool rg, .int .i64 msb, .int .i64 lsb] 33))
                    have C2 := hide (show ∀ (j : Nat) (u : Value), ([Value.string nm, .int .i64 ty, .int .i64 q, .int .i64 ix, .bool rg, .int .i64 msb, .int .i64 lsb] : List Value)[j]? = some u → (W7.alloc (.cells #[.string nm, .int .i64 ty, .int .i64 q, .int .i64 ix, .bool rg, .int .i64 msb, .int .i64 lsb] 33)).cell? ((⟨W7.heap.size, 0, none⟩ : Addr).add j) = some u from cells_new _ _ rfl)
                    have C3 := hide (show ∀ u ∈ ([Value.string nm, .int .i64 ty, .int .i64 q, .int .i64 ix, .bool rg, .int .i64 msb, .int .i64 lsb] : List Value), u.oneCell' = true from by intro u hu; simp at hu; rcases hu with rfl | rfl | rfl | rfl | rfl | rfl | rfl <;> rfl)
                    have HZ := hide (show w4.heap.size ≤ (W7.alloc (.cells #[.string nm, .int .i64 ty, .int .i64 q, .int .i64 ix, .bool rg, .int .i64 msb, .int .i64 lsb] 33)).heap.size by rw [World.size_alloc]; have := HB7.out.size; omega)
                    have HH1 := hide (show L.length + 1 ≤ maxLen by unfold maxLen; omega)
                    have HH2 := hide (show (L.length + 1) * 64 ≤ 140737488355328 by omega)
                    clear hr7 hS6 IX f3
                    go_wp2_with fail
                    refine IX6.out.mono ?_
                    rintro e W8 ⟨rfl, rfl⟩
                    go_wp2_with (at_builtin; refine wpList_append_at _ rfl _ _ 23 rfl w4.heap.size 33 infoVa Tryz.underlying23 rfl (by decide) (.slice (some ⟨g13, 0, none⟩) L.length c13) L.length (L.flatMap vaE) rfl HO8.out ⟨W7.heap.size, 0, none⟩ 1 1 [.string nm, .int .i64 ty, .int .i64 q, .int .i64 ix, .bool rg, .int .i64 msb, .int .i64 lsb] rfl rfl C2.out C3.out HH1.out HH2.out HZ.out ?_; intro v' w9 hown9 hgrow9 _ _; have HO9 := hide hown9; have HG9 := hide hgrow9; clear hown9 hgrow9)
                    have HB9 := hide (HB8.out.grown HG9.out HZ.out (fun j hj => (World.ownsRow.lt HO8.out j hj).1))
                    obtain ⟨g9, c9, hv', _⟩ := World.ownsRow.form HO9.out (by omega)
                    subst hv'
                    have HNE7 := hide (show g6 ≠ g13 from fun e => own_ne HA7.out HF7.out (by decide) g13 rfl (by rw [e]; rfl))
                    have HF9 := hide ((HF7.out.alloc (.cells #[.string nm, .int .i64 ty, .int .i64 q, .int .i64 ix, .bool rg, .int .i64 msb, .int .i64 lsb] 33)).kept HG9.out (.inr (fun e => HNE7.out (by simpa [Value.ownBlock] using e))))
                    have HL9 := hide (show w9.ownsRow w4.heap.size 33 7 (.slice (some ⟨g9, 0, none⟩) (L ++ [⟨nm, ty, q, ix, rg, msb, lsb⟩] : List Va).length c9) (L ++ [⟨nm, ty, q, ix, rg, msb, lsb⟩] : List Va).length ((L ++ [⟨nm, ty, q, ix, rg, msb, lsb⟩] : List Va).flatMap vaE) from by
                      rw [List.length_append, List.flatMap_append]; exact HO9.out)
                    have hL9 : (L ++ [⟨nm, ty, q, ix, rg, msb, lsb⟩] : List Va).length ≤ j * 1000000 + (i + 1) := by rw [List.length_append, List.length_singleton]; omega
                    have hL91 : L.length + 1 = (L ++ [⟨nm, ty, q, ix, rg, msb, lsb⟩] : List Va).length := by rw [List.length_append, List.length_singleton]
                    generalize (L ++ [⟨nm, ty, q, ix, rg, msb, lsb⟩] : List Va) = L9 at *
                    rw [hL91]
                    clear hL91 HO9
                    go_wp2
                    go_roundw
                    case rel => first | exact ⟨i + 1, L9, F2, g9, c9, g6, c6', by go_num, by omega, rfl, rfl, hL9, hF2l, HST2, HL9, HF9, HB9⟩ | ((repeat apply Exists.intro); exact ⟨⟨by go_num, by omega, rfl, rfl, hL9, hF2l, HST2, HL9, HF9, HB9⟩, rfl⟩)
                    case measure => simp [intOf]; omega
                · have e1 : (sc == old) = false := beq_eq_false_iff_ne.2 hsc
                  have HST2 := hide (show numF (partH pre vs j (i + 1)) [] = (L, F) by rw [HST.out, if_neg hsc]; exact HN.out)
                  clear HST hsc
                  go_wp2
                  go_roundw
                  case rel => first | exact ⟨i + 1, L, F, g13, c13, g14, c14, by go_num, by omega, rfl, rfl, by omega, by omega, HST2, HA, HFR, HB⟩ | ((repeat apply Exists.intro); exact ⟨⟨by go_num, by omega, rfl, rfl, by omega, by omega, HST2, HA, HFR, HB⟩, rfl⟩)
                  case measure => simp [intOf]; omega
              · obtain rfl : i = m := by omega
                have hi' : ¬ (i : Int) < (i : Int) := by omega
                have HN2 := hide (show numF (allH pre vs (j + 1)) [] = (L, F) by rw [← HPE.out]; exact HN.out)
                go_wp2
                go_roundw
                case rel => first | exact ⟨j + 1, q + 1, L, F, g13, c13, g14, c14, rfl, by omega, by omega, by omega, rfl, rfl, by omega, by omega, hide (by have := HQ.out; omega), HN2, HA, HFR, HB⟩ | ((repeat apply Exists.intro); exact ⟨⟨rfl, by omega, by omega, by omega, rfl, rfl, by omega, by omega, hide (by have := HQ.out; omega), HN2, HA, HFR, HB⟩, rfl⟩)
                case measure => simp [intOf]; omega
        · obtain rfl : q = k := by omega
          have hq' : ¬ (k : Int) < (k : Int) := by omega
          have HN2 := hide (show (L, F) = (oL, oF) by
            have h := HVO2.out
            have e : j = k + 1 := by have := HQ.out; omega
            rw [← e, HN.out] at h
            exact h)
          obtain ⟨rfl, rfl⟩ := Prod.mk.inj HN2.out
          have HLm := hide (show L.length = m from HVL2.out)
          have HF1 := hide (show ScS ws (some ⟨g, 0, none⟩) oS from by
            have h := ownsRow_below HO1.out HB.out
            have e := HSL2.out
            subst e
            obtain ⟨A9, c9, e9, h9⟩ := FlS.own scE_len h
            cases e9
            exact h9)
          have HF2 := hide (show VaS ws (some ⟨g13, 0, none⟩) L from by
            obtain ⟨A9, c9, e9, h9⟩ := FlS.own vaE_len HA.out
            cases e9
            exact h9)
          have HF3 := hide (show Sl intV ws (some ⟨g14, 0, none⟩) F from by obtain ⟨A9, c9, e9, h9, _⟩ := Sl_own HFR.out rfl; cases e9; exact h9)
          have HF4 := hide (HB4.out.trans (HB.out.mono HB4.out.size))
          go_wp2
          exact bodyPost_ret (v := .tuple #[.slice (some ⟨g, 0, none⟩) k c, .slice (some ⟨g13, 0, none⟩) L.length c13, .slice (some ⟨g14, 0, none⟩) F.length c14, .int .i64 0]) ((results_tmp4 rfl _ _).trans rfl) rfl (by unfold RefOrdPost; exact ⟨_, _, _, _, _, _, by rw [HLm.out], HF1.out, HF2.out, HF3.out, HF4.out⟩)
end Go.Proofs.YtpfiofgchkfkhaaGreat

/- A variable by value opened. -/
set_option linter.unusedVariables false
set_option linter.unusedSimpArgs false
namespace Go.Proofs.YtpfiofgchkfkhaaGreat
open Go.RowKit Go.Shelf Go.ChangeShapes Go.WideShapes Go.Deep
section
variable {H : Type} {enc : TypeId × Value → H} {W : World}
set_option maxRecDepth 100000 in
theorem open_va {fuel base : Nat} {spare : Nat → Bool} {held : Bool} {cs : Array Value} {x : DataW H × List MemPlace} (h : DataW.trod enc Tryz.prog W base spare held fuel 33 cs.toList = some x) :
    ∃ y : Va, cs = #[.string y.name, .int .i64 y.typ, .int .i64 y.scope, .int .i64 y.signal, .bool y.ranged, .int .i64 y.msb, .int .i64 y.lsb] ∧ VaOk y := by
  obtain ⟨fs, hfs, h1, hC, h4, hty⟩ := fieldsVa
  obtain ⟨ys, n, _, _, hcl, hyl, hg⟩ := DataW.trod_struct hfs h
  have hlen : cs.toList.length = 7 := by first | omega | (rw [hcl]; first | omega | (rw [hC]; omega)) | simp_all
  have ty : ∀ j, j < 7 → ∃ f, fs[j]? = some f ∧ f.type = #[9, 3, 3, 3, 4, 3, 3].getD j 0 := by
    intro j hj
    refine ⟨fs[j]'(by omega), Array.getElem?_eq_getElem _, ?_⟩
    rw [← hty]; simp [h4, hj]
  obtain ⟨f0, g0, e0⟩ := ty 0 (by omega)
  obtain ⟨f1, g1, e1⟩ := ty 1 (by omega)
  obtain ⟨f2, g2, e2⟩ := ty 2 (by omega)
  obtain ⟨f3, g3, e3⟩ := ty 3 (by omega)
  obtain ⟨f4, g4, e4⟩ := ty 4 (by omega)
  obtain ⟨f5, g5, e5⟩ := ty 5 (by omega)
  obtain ⟨f6, g6, e6⟩ := ty 6 (by omega)
  obtain ⟨v0, y0, n0, c0, t0⟩ := flat_struct hfs h1 hC h 0 f0 g0
  obtain ⟨v1, y1, n1, c1, t1⟩ := flat_struct hfs h1 hC h 1 f1 g1
  obtain ⟨v2, y2, n2, c2, t2⟩ := flat_struct hfs h1 hC h 2 f2 g2
  obtain ⟨v3, y3, n3, c3, t3⟩ := flat_struct hfs h1 hC h 3 f3 g3
  obtain ⟨v4, y4, n4, c4, t4⟩ := flat_struct hfs h1 hC h 4 f4 g4
  obtain ⟨v5, y5, n5, c5, t5⟩ := flat_struct hfs h1 hC h 5 f5 g5
  obtain ⟨v6, y6, n6, c6, t6⟩ := flat_struct hfs h1 hC h 6 f6 g6
  rw [e0] at t0; rw [e1] at t1; rw [e2] at t2; rw [e3] at t3; rw [e4] at t4; rw [e5] at t5; rw [e6] at t6
  obtain ⟨s0, q0, _, w0⟩ := DataW.trod_string Tryz.underlying9 t0
  obtain ⟨s1, q1, _, w1⟩ := DataW.trod_int Tryz.underlying3 t1
  obtain ⟨s2, q2, _, w2⟩ := DataW.trod_int Tryz.underlying3 t2
  obtain ⟨s3, q3, _, w3⟩ := DataW.trod_int Tryz.underlying3 t3
  obtain ⟨s4, q4, _⟩ := DataW.trod_bool Tryz.underlying4 t4
  obtain ⟨s5, q5, _, w5⟩ := DataW.trod_int Tryz.underlying3 t5
  obtain ⟨s6, q6, _, w6⟩ := DataW.trod_int Tryz.underlying3 t6
  simp only [List.cons.injEq, and_true] at q0 q1 q2 q3 q4 q5 q6
  subst q0 q1 q2 q3 q4 q5 q6
  refine ⟨⟨s0, s1, s2, s3, s4, s5, s6⟩, ?_, ⟨i64_bounds w1, i64_bounds w2, i64_bounds w3, i64_bounds w5, i64_bounds w6, w0⟩⟩
  apply Array.toList_inj.1
  match hm : cs.toList, hlen with
  | [a0, a1, a2, a3, a4, a5, a6], _ =>
    rw [hm] at c0 c1 c2 c3 c4 c5 c6
    simp only [List.getElem?_cons_zero, List.getElem?_cons_succ, Option.some.injEq] at c0 c1 c2 c3 c4 c5 c6
    subst c0 c1 c2 c3 c4 c5 c6
    rfl
end
end Go.Proofs.YtpfiofgchkfkhaaGreat

/- The reference's Few and Texts. -/
set_option linter.unusedVariables false
namespace Go.Proofs.YtpfiofgchkfkhaaGreat
open Go.RowKit Go.Shelf

set_option maxHeartbeats 2000000 in
/-- two lists that are the same -/
theorem Texts_eq (A A' : Option Addr) (n n' cap cap' : Nat) (L : List ByteArray) (w : World) (hn : n = L.length) (hn' : n' = L.length) (hl : L.length ≤ 1099511627776) (hw : Sl Value.string w A L) (hw' : Sl Value.string w A' L) :
    Calls Tryz.prog 18 #[.slice A n cap, .slice A' n' cap'] w fun e w' => e = .returned (.bool true) ∧ Below w.heap.size w w' := by
  subst hn hn'
  have Hw := hide hw
  have Hw' := hide hw'
  clear hw hw'
  go_enter Tryz.func18, Tryz.ntmps18
  go_wp2
  go_loopw [5] (fun v wr => ∃ i : Nat, v = .int .i64 i ∧ i ≤ L.length ∧ Below w.heap.size w wr) (fun v _ => L.length - (intOf v).toNat)
  case atStart => exact ⟨0, rfl, Nat.zero_le _, Below.refl _ _⟩
  case round =>
    obtain ⟨i, rfl, hi0, hbr⟩ := hrel
    have Hbr := hide hbr
    clear hbr
    by_cases hi : i < L.length
    · obtain ⟨b, off, rfl, hbz, hat⟩ := Hw.out.at hi
      obtain ⟨b', off', rfl, hbz', hat'⟩ := Hw'.out.at hi
      have hc := hat wr Hbr.out
      have hc' := hat' wr Hbr.out
      clear hat hat'
      generalize L[i]'hi = t at hc hc'
      have q1 : (0 : Int) ≤ (i : Int) := by omega
      have q2 : (i : Int) < (L.length : Int) := by omega
      go_wp2_with fail
      go_quiet (fail)
      go_wp2
      go_roundw
      case rel => exact ⟨i + 1, by go_num, by omega, Below_drewN Hbr.out _⟩
      case measure => simp [intOf]; omega
    · obtain rfl : i = L.length := Nat.le_antisymm hi0 (Nat.le_of_not_lt hi)
      go_wp2
      go_ret
      exact ⟨rfl, Hbr.out⟩

def fewB (m z : Nat) (L : List ByteArray) : Bool := (L.all fun s => decide (s.size ≤ z)) && decide (L.length ≤ m)
theorem fewB_spec {m z : Nat} {L : List ByteArray} (h : fewB m z L = true) : L.length ≤ m ∧ ∀ s ∈ L, s.size ≤ z := by
  unfold fewB at h
  rw [Bool.and_eq_true] at h
  exact ⟨of_decide_eq_true h.2, fun s hs => of_decide_eq_true (List.all_eq_true.1 h.1 s hs)⟩
set_option maxHeartbeats 2000000 in
theorem Few_any (m z : Nat) (A : Option Addr) (n cap : Nat) (L : List ByteArray) (w : World) (hn : n = L.length) (hl : L.length ≤ maxLen) (hw : Sl Value.string w A L) :
    Calls Tryz.prog 13 #[.slice A n cap, .int .i64 (m : Int), .int .i64 (z : Int)] w fun e w' => e = .returned (.bool (fewB m z L)) ∧ w' = w := by
  subst hn
  unfold maxLen at hl
  have Hw := hide hw
  clear hw
  go_enter Tryz.func13, Tryz.ntmps13
  go_wp2
  go_loop [7] (fun v => ∃ i : Nat, v = .int .i64 i ∧ i ≤ L.length ∧ ∀ j, j < i → ∀ hj : j < L.length, (L[j]'hj).size ≤ z) (fun v => L.length - (intOf v).toNat)
  case atStart => exact ⟨0, rfl, Nat.zero_le _, (fun j h => absurd h (by omega))⟩
  case round =>
    obtain ⟨i, rfl, hi0, hall⟩ := hrel
    have Hall := hide hall
    clear hall
    by_cases hi : i < L.length
    · obtain ⟨b, off, rfl, hbz, hat⟩ := Hw.out.at hi
      have hc := hat w (Below.refl _ _)
      clear hat
      by_cases hz : (z : Int) < ((L[i]'hi).size : Int)
      · have Hf := hide (show fewB m z L = false by
          unfold fewB
          rw [show (L.all fun s => decide (s.size ≤ z)) = false by rw [List.all_eq_false]; exact ⟨_, List.getElem_mem hi, by simp; omega⟩]; rfl)
        generalize L[i]'hi = t at hc hz
        go_wp2
        go_ret
        exact ⟨ret_b Hf.out, rfl⟩
      · have HZ := hide (show (L[i]'hi).size ≤ z by omega)
        generalize hLt : L[i]'hi = t at hc hz
        clear hLt
        go_wp2
        go_round
        case rel =>
          refine ⟨i + 1, by go_num, by omega, fun j hj hj' => ?_⟩
          rcases Nat.lt_or_ge j i with h | h
          · exact Hall.out j h hj'
          · obtain rfl : j = i := by omega
            exact HZ.out
        case measure => simp [intOf]; omega
    · obtain rfl : i = L.length := Nat.le_antisymm hi0 (Nat.le_of_not_lt hi)
      have Hf := hide (show fewB m z L = decide ((L.length : Int) ≤ (m : Int)) by
        unfold fewB
        rw [show (L.all fun s => decide (s.size ≤ z)) = true by
          rw [List.all_eq_true]; intro s hs
          obtain ⟨j, hj, rfl⟩ := List.mem_iff_getElem.1 hs
          exact decide_eq_true (Hall.out j hj hj), Bool.true_and]
        rw [Bool.eq_iff_iff, decide_eq_true_iff, decide_eq_true_iff]; omega)
      go_wp2
      go_ret
      refine ⟨ret_b ?_, rfl⟩
      rw [Hf.out, Bool.eq_iff_iff, decide_eq_true_iff, decide_eq_true_iff]; omega
end Go.Proofs.YtpfiofgchkfkhaaGreat
