/- Contract of the reference's Read: the walk. -/
import Derived.Test.YtglfnbhcdblpiaaDoorTsL
import Derived.Deep.DeepCutAuto
import Derived.Deep.RegionWith
import Derived.Deep.CutBlock
set_option linter.unusedVariables false
namespace Go.Proofs.YtglfnbhcdblpiaaDoor
open Go.RowKit Go.Shelf Go.Sort

theorem Below_of_drew {B : Nat} {w w' : World} (h : Below B w.drew w') : Below B w w' := ⟨h.os, h.tape, h.output, h.size, h.block⟩
theorem powAt_step (r : ByteArray) (s : Int) (i : Nat) (h : i < 6) : powAt r s (i + 1) = if r = uname i ∨ r = ⟨#[32]⟩ ++ uname i then (-(3 * (i : Int)), true) else powAt r s i := by
  show (if trimB r = uname i then (-(3 * (i : Int)), true) else powAt r s i) = _
  by_cases ht : trimB r = uname i
  · rw [if_pos ht, if_pos ((trim_iff r i h).1 ht)]
  · rw [if_neg ht, if_neg (fun h' => ht ((trim_iff r i h).2 h'))]
set_option maxRecDepth 20000 in
set_option maxHeartbeats 4000000 in
theorem refRead_any (text : ByteArray) (s : Int) (w : World) (hz : text.size ≤ 1000000) :
    Calls Tryd.prog 22 #[.string text, .int .i64 s] w fun e w' => e = .returned (.tuple #[.int .i64 (readS text s).1, .int .i64 (readS text s).2]) ∧ Below w.heap.size w w' := by
  have V := hide (fun W : World => refValid_any s W)
  cases hv : validB s with
  | false =>
    have hS : readS text s = (0, 1) := by unfold readS; rw [hv]; rfl
    rw [hv] at V
    rw [hS]
    clear hS hv
    go_enter Tryd.func22, Tryd.ntmps22
    go_wp2_with fail
    refine (V.out _).mono ?_
    rintro e w1 ⟨rfl, rfl⟩
    go_wp2
    go_ret2
    exact ⟨rfl, Below.refl _ _⟩
  | true =>
    rw [hv] at V
    have hr : -15 ≤ s ∧ s ≤ 2 := by simpa [validB] using hv
    obtain ⟨n1, n2, n3⟩ := ndB text
    have N2 := hide n2
    have N3 := hide n3
    have hN : ∃ N, nd text.data.toList = N := ⟨_, rfl⟩
    obtain ⟨N, hN⟩ := hN
    rw [hN] at n1 N2
    have N3 : Hid (∀ h : N < text.size, ¬ (48 ≤ (text[N]'h).toNat ∧ (text[N]'h).toNat ≤ 57)) := by subst hN; exact N3
    have HN := hide hN
    clear n2 n3 hN
    have DV := hide (fun (k : Nat) (h : k < text.size) => (show dv (text.data.toList.take (k + 1)) = 10 * dv (text.data.toList.take k) + ((text[k]'h).toNat - 48) from dv_take text.data.toList k (by rw [← Lib.size_eq]; exact h)))
    have DL := hide (fun (k : Nat) (h : k ≤ N) => dv_lt text.data.toList k (fun j hj hjk => nd_in _ j hj (by rw [HN.out]; omega)) (by rw [← Lib.size_eq]; omega))
    go_enter Tryd.func22, Tryd.ntmps22
    go_wp2_with fail
    refine (V.out _).mono ?_
    rintro e w1 ⟨rfl, rfl⟩
    have hB : ∃ B, badN text = B := ⟨_, rfl⟩
    obtain ⟨B, hB⟩ := hB
    have hS : readS text s = if B then (0, 3) else (if (powAt (restN text) s 6).2 then
        (if (shiftS (numN text) ((powAt (restN text) s 6).1 - s)).2.1 && (shiftS (numN text) ((powAt (restN text) s 6).1 - s)).2.2 then ((shiftS (numN text) ((powAt (restN text) s 6).1 - s)).1, 0) else (0, 2))
        else (0, 3)) := by unfold readS; rw [hv, if_pos rfl, hB]
    have HS := hide hS
    have Hbad := hide hB
    clear hS hB hv
    go_upto_block 0 with fail
    go_cut [6, 7] (fun vn vk wx => N ≤ 15 ∧ vn = .int .i64 (numN text) ∧ vk = .int .i64 N ∧ wx = w1)
    case first =>
      go_wp2_with fail
      go_loop [6, 7] (fun vn vk => ∃ k : Nat, vk = .int .i64 k ∧ k ≤ N ∧ k ≤ 15 ∧ vn = .int .i64 (dv (text.data.toList.take k))) (fun _ vk => N - (intOf vk).toNat)
      case atStart => exact ⟨0, rfl, Nat.zero_le _, by omega, rfl⟩
      case round =>
        obtain ⟨k, rfl, hk, hk15, rfl⟩ := hrel
        by_cases hlt : k < N
        · have hks : k < text.size := by omega
          have hd := N2.out k hks hlt
          have hks' : (k : Int) < (text.size : Int) := by omega
          have hd1 : (48 : Int) ≤ ((text[k]'hks).toNat : Int) := by omega
          have hd2 : ((text[k]'hks).toNat : Int) ≤ 57 := by omega
          have hdl := DL.out k hk
          have hp := Nat.pow_le_pow_right (n := 10) (by decide) hk15
          have e15 : (10 : Nat) ^ 15 = 1000000000000000 := by decide
          have hb0 : (0 : Int) ≤ (dv (text.data.toList.take k) : Int) := by omega
          have hb1 : (dv (text.data.toList.take k) : Int) ≤ 999999999999999 := by omega
          have hdv := DV.out k hks
          have HDV := hide (show (dv (text.data.toList.take (k + 1)) : Int) = 10 * (dv (text.data.toList.take k) : Int) + (((text[k]'hks).toNat : Int) - 48) by omega)
          clear hdl hp e15 hdv
          generalize ((dv (text.data.toList.take k) : Nat) : Int) = D at HDV hb0 hb1 ⊢
          by_cases h15 : k = 15
          · have hb : B = true := Hbad.out ▸ decide_eq_true (.inr (.inl (by rw [HN.out]; omega)))
            subst hb
            have h15' : ((k : Int) == 15) = true := beq_iff_eq.2 (by omega)
            clear h15 hd hk15 hk hlt
            go_wp2
            go_ret2
            exact ⟨by rw [HS.out]; rfl, Below.refl _ _⟩
          · have k15 : ((k : Int) == 15) = false := beq_eq_false_iff_ne.2 (by omega)
            have HD := hide hd
            have K15 := hide (show k + 1 ≤ 15 by omega)
            clear hd h15
            go_wp2
            go_round
            case rel => exact ⟨k + 1, by go_num, by omega, K15.out, by rw [HDV.out]⟩
            case measure => simp [intOf]; omega
        · obtain rfl : k = N := Nat.le_antisymm hk (Nat.le_of_not_lt hlt)
          have EX : (¬ (k : Int) < (text.size : Int)) ∨ (∃ h : k < text.size, (k : Int) < (text.size : Int) ∧ ((text[k]'h).toNat : Int) < 48) ∨ (∃ h : k < text.size, (k : Int) < (text.size : Int) ∧ (48 : Int) ≤ ((text[k]'h).toNat : Int) ∧ (57 : Int) < ((text[k]'h).toNat : Int)) := by
            by_cases h : k < text.size
            · have := N3.out h
              by_cases h2 : 48 ≤ (text[k]'h).toNat
              · exact .inr (.inr ⟨h, by omega, by omega, by omega⟩)
              · exact .inr (.inl ⟨h, by omega, by omega⟩)
            · exact .inl (by omega)
          have hnum : ((dv (text.data.toList.take k) : Nat) : Int) = numN text := by unfold numN; rw [HN.out]
          rw [hnum]
          clear hnum
          rcases EX with e1 | ⟨h1, e1, e2⟩ | ⟨h1, e1, e2, e3⟩
          all_goals (go_wp2_with fail; go_meet; exact ⟨hk15, rfl, rfl, rfl⟩)
    case rest =>
      obtain ⟨hk15, rfl, rfl, rfl⟩ := hcut
      obtain ⟨b3, b4⟩ := num_bd text (by rw [HN.out]; omega)
      have HB34 := hide (And.intro b3 b4)
      by_cases a1 : N = 0
      · have hb : B = true := Hbad.out ▸ decide_eq_true (.inl (by rw [HN.out]; omega))
        subst hb
        have z1 : ((N : Int) == 0) = true := beq_iff_eq.2 (by omega)
        clear a1
        generalize numN text = num at b3 b4 ⊢
        go_wp2
        go_quiet (fail)
        go_wp2
        go_ret2
        exact ⟨by rw [HS.out]; rfl, Below_drewN (Below.refl _ _) _⟩
      have h0 : 0 < text.size := by omega
      have hh0 : text.data.toList[0]? = some (text[0]'h0) := by
        rw [List.getElem?_eq_getElem (by rw [← Lib.size_eq]; exact h0), Array.getElem_toList]; rfl
      have DT := dec_test text h0 (by rw [HN.out]; omega)
      rw [HN.out] at DT
      have hbn : B = !decide (text.extract 0 N = decB (numN text)) := by
        rw [← Hbad.out, Bool.eq_iff_iff]
        unfold badN
        rw [decide_eq_true_eq, Bool.not_eq_true', decide_eq_false_iff_not, DT, HN.out, hh0]
        constructor
        · rintro (h | h | ⟨h, h2⟩)
          · omega
          · omega
          · exact fun h3 => h3 ⟨Option.some.inj h, h2⟩
        · intro h
          have := Decidable.not_not.1 h
          exact .inr (.inr ⟨by rw [this.1], this.2⟩)
      have z1 : ((N : Int) == 0) = false := beq_eq_false_iff_ne.2 (by omega)
      have HRest := hide (show restN text = text.extract N text.size by unfold restN; rw [HN.out])
      clear DT hh0 h0
      have D := hide (fun W : World => Decimal_i (numN text) W b3 b4)
      generalize numN text = num at b3 b4 D HS hbn HB34 ⊢
      generalize hdn : decB num = Dn at D hbn
      have cD : ∀ d os, Calls Tryd.prog 27 #[.int .i64 num] (grow (redrawn wc d) os) fun e w'' => e = .returned (.string Dn) ∧ ∃ p : Regrown, w'' = grow (redrawn wc p.d) p.os := fun d os => Calls.regrown_of (D.out _)
      have CD := hide cD
      have HDn := hide hdn
      clear cD D hdn a1
      have ks : (N : Int) ≤ (text.size : Int) := by omega
      by_cases a3 : text.extract 0 N = Dn
      · rw [decide_eq_true a3, Bool.not_true] at hbn
        have Ha3 := hide a3
        subst hbn
        rw [if_neg Bool.false_ne_true] at HS
        have e9 : ((text.extract 0 N).toList == Dn.toList) = true := by rw [a3]; exact beq_self_eq_true _
        clear a3
        go_wp2
        refine wp_region_quiet_below (by kernel_rfl) (by kernel_rfl) ?_
        repeat (go_big_quiet_step (exact CD.out _ _))
        refine wpQuiet_nil ?_
        intro _ hw'
        obtain ⟨⟨dq, osq⟩, hw''⟩ := hw'
        subst hw''
        have B1 := hide (below_regrown wc dq osq)
        generalize grow (redrawn wc dq) osq = w2 at B1 ⊢
        clear e9
        go_wp2
        refine wp_still (by kernel_rfl) (by kernel_rfl) ?_
        repeat still_step
        refine wpStill_nil ?_
        have hE : (text.extract N text.size).toList.isEmpty = (powAt (restN text) s 0).2 := by rw [HRest.out]; exact isEmpty_dec _
        rw [hE]
        clear hE
        go_wp2
        go_loopw [8, 9, 10] (fun ve vf vi wr => ∃ i : Nat, vi = .int .i64 i ∧ i ≤ 6 ∧ ve = .int .i64 ((powAt (restN text) s i).1 - s) ∧ vf = .bool (powAt (restN text) s i).2 ∧ Below wc.heap.size wc wr) (fun _ _ vi _ => 6 - (intOf vi).toNat)
        case atStart => exact ⟨0, rfl, by omega, by show Value.int .i64 0 = .int .i64 (s - s); rw [Int.sub_self], rfl, Below_drewN B1.out 1⟩
        case round =>
          obtain ⟨i, rfl, hi, rfl, rfl, hb'⟩ := hrel
          have Hb := hide hb'
          clear hb'
          by_cases hi6 : i < 6
          · have hi6' : (i : Int) < 6 := by omega
            have hstep := powAt_step (restN text) s i hi6
            rw [HRest.out] at hstep
            have U := hide (fun (W : World) (b : Nat) (h : Row W b 9 ((List.range 6).map fun i => Value.string (uname i)).toArray) => units_at i hi6 h)
            have z2 := uname_size i
            have d1 := fun W => cat_run (P := Tryd.prog) ⟨#[32]⟩ (uname i) (by show 1 + _ ≤ _; omega) W
            generalize uname i = nm at hstep U z2 d1
            have hB : ∃ B, (⟨#[32]⟩ ++ nm : ByteArray) = B := ⟨_, rfl⟩
            obtain ⟨B, hB⟩ := hB
            rw [hB] at d1 hstep
            clear hB z2
            have HStep := hide hstep
            clear hstep
            obtain ⟨T, hT⟩ : ∃ T, decide (text.extract N text.size = nm ∨ text.extract N text.size = B) = T := ⟨_, rfl⟩
            have HT := hide hT
            clear hT
            go_upto_region 15 with fail
            go_cut [81] (fun t wx => t = .bool T ∧ Below wc.heap.size wc wx)
            case first =>
              clear HStep HS HRest CD V N2 N3 HN DV DL B1 HB34 Hbad Ha3 HDn hr hz n1 hk15 z1 b3 b4 hi
              by_cases c1 : text.extract N text.size = nm
              · have hT : T = true := HT.out ▸ decide_eq_true (.inl c1)
                subst hT
                have e9 : ((text.extract N text.size).toList == nm.toList) = true := by rw [c1]; exact beq_self_eq_true _
                clear c1
                refine wp_region_any (by kernel_rfl) ?_
                change wpAny _ _ _ _ _ _ _ (World.drew _)
                refine wpAny_take (i := 0) (v := ?_) rfl (by kernel_rfl) (by kernel_rfl) (by kernel_rfl) (fun _ _ _ h => h) (Or.inl ⟨by kernel_rfl, ?_⟩) ?_
                rotate_left; · ((intro w; go_simp); (try (with_reducible rfl)))
                change wpAny _ _ _ _ _ _ (Act.mk #[_, _, _, _, _, _, _, _, _, _, _, _, _, _, _, _, _, _, _, _, _, _, _, _, _, _, _, _, _, _, _, _, _, _, _, _, _, _, _, _, _, _, _, _, _, _, _, _, _, _, _, _, _, _, _, _, _, _, _, _, _, _, _, _, _, _, _, _, _, _, _, _, _, _, _, _, _, _, _, _, _, _, _, _, _, _, _, _, _, _, _, _, _, _, _, _, _, _, _, _, _, _] _) _
                refine wpAny_take (i := 1) (v := ?_) rfl (by kernel_rfl) (by kernel_rfl) (by kernel_rfl) (fun _ _ _ h => h) (Or.inl ⟨by kernel_rfl, ?_⟩) ?_
                rotate_left; · ((intro w; go_simp); (try (with_reducible rfl)))
                change wpAny _ _ _ _ _ _ (Act.mk #[_, _, _, _, _, _, _, _, _, _, _, _, _, _, _, _, _, _, _, _, _, _, _, _, _, _, _, _, _, _, _, _, _, _, _, _, _, _, _, _, _, _, _, _, _, _, _, _, _, _, _, _, _, _, _, _, _, _, _, _, _, _, _, _, _, _, _, _, _, _, _, _, _, _, _, _, _, _, _, _, _, _, _, _, _, _, _, _, _, _, _, _, _, _, _, _, _, _, _, _, _, _] _) _
                refine wpAny_take (i := 2) (v := ?_) rfl (by kernel_rfl) (by kernel_rfl) (by kernel_rfl) (fun _ _ _ h => h) (Or.inl ⟨by kernel_rfl, ?_⟩) ?_
                rotate_left; · ((intro w; go_simp); (try (with_reducible rfl)))
                change wpAny _ _ _ _ _ _ (Act.mk #[_, _, _, _, _, _, _, _, _, _, _, _, _, _, _, _, _, _, _, _, _, _, _, _, _, _, _, _, _, _, _, _, _, _, _, _, _, _, _, _, _, _, _, _, _, _, _, _, _, _, _, _, _, _, _, _, _, _, _, _, _, _, _, _, _, _, _, _, _, _, _, _, _, _, _, _, _, _, _, _, _, _, _, _, _, _, _, _, _, _, _, _, _, _, _, _, _, _, _, _, _, _] _) _
                refine wpAny_take (i := 4) (v := ?_) rfl (by kernel_rfl) (by kernel_rfl) (by kernel_rfl) (fun _ _ _ h => h) (Or.inl ⟨by kernel_rfl, ?_⟩) ?_
                rotate_left; · ((intro w; go_simp); (try (with_reducible rfl)))
                change wpAny _ _ _ _ _ _ (Act.mk #[_, _, _, _, _, _, _, _, _, _, _, _, _, _, _, _, _, _, _, _, _, _, _, _, _, _, _, _, _, _, _, _, _, _, _, _, _, _, _, _, _, _, _, _, _, _, _, _, _, _, _, _, _, _, _, _, _, _, _, _, _, _, _, _, _, _, _, _, _, _, _, _, _, _, _, _, _, _, _, _, _, _, _, _, _, _, _, _, _, _, _, _, _, _, _, _, _, _, _, _, _, _] _) _
                refine wpAny_ready (rs := [3]) (by kernel_rfl) (by simp) ?_
                refine AllReady.cons rfl (fun K hK => ?_) AllReady.nil
                go_simp
                go_wp2_with (go_at_call 28; (with_reducible refine (refUnits_any _).mono ?_); rintro e w4 ⟨rfl, hrow, hb4⟩; have g2 : w4.cell? ⟨wr.heap.size, i, none⟩ = some (.string nm) := U.out w4 _ hrow; have HB4 := hide (Hb.out.trans ((Below_of_drew hb4).mono Hb.out.size)); clear hrow hb4)
                first | (refine hK _ _ ?_; clear hK K) | skip
                change wpAny _ _ _ _ _ _ (Act.mk #[_, _, _, _, _, _, _, _, _, _, _, _, _, _, _, _, _, _, _, _, _, _, _, _, _, _, _, _, _, _, _, _, _, _, _, _, _, _, _, _, _, _, _, _, _, _, _, _, _, _, _, _, _, _, _, _, _, _, _, _, _, _, _, _, _, _, _, _, _, _, _, _, _, _, _, _, _, _, _, _, _, _, _, _, _, _, _, _, _, _, _, _, _, _, _, _, _, _, _, _, _, _] _) _
                refine wpAny_take (i := 5) (v := ?_) rfl (by kernel_rfl) (by kernel_rfl) (by kernel_rfl) (fun _ _ _ h => h) (Or.inl ⟨by kernel_rfl, ?_⟩) ?_
                rotate_left; · ((intro w; go_simp); (try (with_reducible rfl)))
                change wpAny _ _ _ _ _ _ (Act.mk #[_, _, _, _, _, _, _, _, _, _, _, _, _, _, _, _, _, _, _, _, _, _, _, _, _, _, _, _, _, _, _, _, _, _, _, _, _, _, _, _, _, _, _, _, _, _, _, _, _, _, _, _, _, _, _, _, _, _, _, _, _, _, _, _, _, _, _, _, _, _, _, _, _, _, _, _, _, _, _, _, _, _, _, _, _, _, _, _, _, _, _, _, _, _, _, _, _, _, _, _, _, _] _) _
                refine wpAny_ready (rs := [6]) (by kernel_rfl) (by simp) ?_
                refine AllReady.cons rfl (fun K hK => ?_) AllReady.nil
                go_simp
                first | (refine hK _ _ ?_; clear hK K) | skip
                change wpAny _ _ _ _ _ _ (Act.mk #[_, _, _, _, _, _, _, _, _, _, _, _, _, _, _, _, _, _, _, _, _, _, _, _, _, _, _, _, _, _, _, _, _, _, _, _, _, _, _, _, _, _, _, _, _, _, _, _, _, _, _, _, _, _, _, _, _, _, _, _, _, _, _, _, _, _, _, _, _, _, _, _, _, _, _, _, _, _, _, _, _, _, _, _, _, _, _, _, _, _, _, _, _, _, _, _, _, _, _, _, _, _] _) _
                refine wpAny_take (i := 7) (v := ?_) rfl (by kernel_rfl) (by kernel_rfl) (by kernel_rfl) (fun _ _ _ h => h) (Or.inl ⟨by kernel_rfl, ?_⟩) ?_
                rotate_left; · ((intro w; go_simp); (try (with_reducible rfl)))
                change wpAny _ _ _ _ _ _ (Act.mk #[_, _, _, _, _, _, _, _, _, _, _, _, _, _, _, _, _, _, _, _, _, _, _, _, _, _, _, _, _, _, _, _, _, _, _, _, _, _, _, _, _, _, _, _, _, _, _, _, _, _, _, _, _, _, _, _, _, _, _, _, _, _, _, _, _, _, _, _, _, _, _, _, _, _, _, _, _, _, _, _, _, _, _, _, _, _, _, _, _, _, _, _, _, _, _, _, _, _, _, _, _, _] _) _
                refine wpAny_take (i := 8) (v := ?_) rfl (by kernel_rfl) (by kernel_rfl) (by kernel_rfl) (fun _ _ _ h => h) (Or.inl ⟨by kernel_rfl, ?_⟩) ?_
                rotate_left; · ((intro w; go_simp); (try (with_reducible rfl)))
                change wpAny _ _ _ _ _ _ (Act.mk #[_, _, _, _, _, _, _, _, _, _, _, _, _, _, _, _, _, _, _, _, _, _, _, _, _, _, _, _, _, _, _, _, _, _, _, _, _, _, _, _, _, _, _, _, _, _, _, _, _, _, _, _, _, _, _, _, _, _, _, _, _, _, _, _, _, _, _, _, _, _, _, _, _, _, _, _, _, _, _, _, _, _, _, _, _, _, _, _, _, _, _, _, _, _, _, _, _, _, _, _, _, _] _) _
                refine wpAny_take (i := 9) (v := undef) rfl (by kernel_rfl) (by kernel_rfl) (by kernel_rfl) (fun _ _ _ h => h) (Or.inr ⟨by kernel_rfl, rfl⟩) ?_
                change wpAny _ _ _ _ _ _ (Act.mk #[_, _, _, _, _, _, _, _, _, _, _, _, _, _, _, _, _, _, _, _, _, _, _, _, _, _, _, _, _, _, _, _, _, _, _, _, _, _, _, _, _, _, _, _, _, _, _, _, _, _, _, _, _, _, _, _, _, _, _, _, _, _, _, _, _, _, _, _, _, _, _, _, _, _, _, _, _, _, _, _, _, _, _, _, _, _, _, _, _, _, _, _, _, _, _, _, _, _, _, _, _, _] _) _
                refine wpAny_take (i := 10) (v := undef) rfl (by kernel_rfl) (by kernel_rfl) (by kernel_rfl) (fun _ _ _ h => h) (Or.inr ⟨by kernel_rfl, rfl⟩) ?_
                change wpAny _ _ _ _ _ _ (Act.mk #[_, _, _, _, _, _, _, _, _, _, _, _, _, _, _, _, _, _, _, _, _, _, _, _, _, _, _, _, _, _, _, _, _, _, _, _, _, _, _, _, _, _, _, _, _, _, _, _, _, _, _, _, _, _, _, _, _, _, _, _, _, _, _, _, _, _, _, _, _, _, _, _, _, _, _, _, _, _, _, _, _, _, _, _, _, _, _, _, _, _, _, _, _, _, _, _, _, _, _, _, _, _] _) _
                refine wpAny_take (i := 11) (v := undef) rfl (by kernel_rfl) (by kernel_rfl) (by kernel_rfl) (fun _ _ _ h => h) (Or.inr ⟨by kernel_rfl, rfl⟩) ?_
                change wpAny _ _ _ _ _ _ (Act.mk #[_, _, _, _, _, _, _, _, _, _, _, _, _, _, _, _, _, _, _, _, _, _, _, _, _, _, _, _, _, _, _, _, _, _, _, _, _, _, _, _, _, _, _, _, _, _, _, _, _, _, _, _, _, _, _, _, _, _, _, _, _, _, _, _, _, _, _, _, _, _, _, _, _, _, _, _, _, _, _, _, _, _, _, _, _, _, _, _, _, _, _, _, _, _, _, _, _, _, _, _, _, _] _) _
                refine wpAny_take (i := 12) (v := undef) rfl (by kernel_rfl) (by kernel_rfl) (by kernel_rfl) (fun _ _ _ h => h) (Or.inr ⟨by kernel_rfl, rfl⟩) ?_
                change wpAny _ _ _ _ _ _ (Act.mk #[_, _, _, _, _, _, _, _, _, _, _, _, _, _, _, _, _, _, _, _, _, _, _, _, _, _, _, _, _, _, _, _, _, _, _, _, _, _, _, _, _, _, _, _, _, _, _, _, _, _, _, _, _, _, _, _, _, _, _, _, _, _, _, _, _, _, _, _, _, _, _, _, _, _, _, _, _, _, _, _, _, _, _, _, _, _, _, _, _, _, _, _, _, _, _, _, _, _, _, _, _, _] _) _
                refine wpAny_take (i := 13) (v := undef) rfl (by kernel_rfl) (by kernel_rfl) (by kernel_rfl) (fun _ _ _ h => h) (Or.inr ⟨by kernel_rfl, rfl⟩) ?_
                change wpAny _ _ _ _ _ _ (Act.mk #[_, _, _, _, _, _, _, _, _, _, _, _, _, _, _, _, _, _, _, _, _, _, _, _, _, _, _, _, _, _, _, _, _, _, _, _, _, _, _, _, _, _, _, _, _, _, _, _, _, _, _, _, _, _, _, _, _, _, _, _, _, _, _, _, _, _, _, _, _, _, _, _, _, _, _, _, _, _, _, _, _, _, _, _, _, _, _, _, _, _, _, _, _, _, _, _, _, _, _, _, _, _] _) _
                refine wpAny_take (i := 14) (v := undef) rfl (by kernel_rfl) (by kernel_rfl) (by kernel_rfl) (fun _ _ _ h => h) (Or.inr ⟨by kernel_rfl, rfl⟩) ?_
                change wpAny _ _ _ _ _ _ (Act.mk #[_, _, _, _, _, _, _, _, _, _, _, _, _, _, _, _, _, _, _, _, _, _, _, _, _, _, _, _, _, _, _, _, _, _, _, _, _, _, _, _, _, _, _, _, _, _, _, _, _, _, _, _, _, _, _, _, _, _, _, _, _, _, _, _, _, _, _, _, _, _, _, _, _, _, _, _, _, _, _, _, _, _, _, _, _, _, _, _, _, _, _, _, _, _, _, _, _, _, _, _, _, _] _) _
                refine wpAny_take (i := 15) (v := undef) rfl (by kernel_rfl) (by kernel_rfl) (by kernel_rfl) (fun _ _ _ h => h) (Or.inr ⟨by kernel_rfl, rfl⟩) ?_
                change wpAny _ _ _ _ _ _ (Act.mk #[_, _, _, _, _, _, _, _, _, _, _, _, _, _, _, _, _, _, _, _, _, _, _, _, _, _, _, _, _, _, _, _, _, _, _, _, _, _, _, _, _, _, _, _, _, _, _, _, _, _, _, _, _, _, _, _, _, _, _, _, _, _, _, _, _, _, _, _, _, _, _, _, _, _, _, _, _, _, _, _, _, _, _, _, _, _, _, _, _, _, _, _, _, _, _, _, _, _, _, _, _, _] _) _
                refine wpAny_take (i := 16) (v := undef) rfl (by kernel_rfl) (by kernel_rfl) (by kernel_rfl) (fun _ _ _ h => h) (Or.inr ⟨by kernel_rfl, rfl⟩) ?_
                change wpAny _ _ _ _ _ _ (Act.mk #[_, _, _, _, _, _, _, _, _, _, _, _, _, _, _, _, _, _, _, _, _, _, _, _, _, _, _, _, _, _, _, _, _, _, _, _, _, _, _, _, _, _, _, _, _, _, _, _, _, _, _, _, _, _, _, _, _, _, _, _, _, _, _, _, _, _, _, _, _, _, _, _, _, _, _, _, _, _, _, _, _, _, _, _, _, _, _, _, _, _, _, _, _, _, _, _, _, _, _, _, _, _] _) _
                refine wpAny_take (i := 17) (v := undef) rfl (by kernel_rfl) (by kernel_rfl) (by kernel_rfl) (fun _ _ _ h => h) (Or.inr ⟨by kernel_rfl, rfl⟩) ?_
                change wpAny _ _ _ _ _ _ (Act.mk #[_, _, _, _, _, _, _, _, _, _, _, _, _, _, _, _, _, _, _, _, _, _, _, _, _, _, _, _, _, _, _, _, _, _, _, _, _, _, _, _, _, _, _, _, _, _, _, _, _, _, _, _, _, _, _, _, _, _, _, _, _, _, _, _, _, _, _, _, _, _, _, _, _, _, _, _, _, _, _, _, _, _, _, _, _, _, _, _, _, _, _, _, _, _, _, _, _, _, _, _, _, _] _) _
                refine wpAny_take (i := 18) (v := ?_) rfl (by kernel_rfl) (by kernel_rfl) (by kernel_rfl) (fun _ _ _ h => h) (Or.inl ⟨by kernel_rfl, ?_⟩) ?_
                rotate_left; · ((intro w; go_simp); (try (with_reducible rfl)))
                change wpAny _ _ _ _ _ _ (Act.mk #[_, _, _, _, _, _, _, _, _, _, _, _, _, _, _, _, _, _, _, _, _, _, _, _, _, _, _, _, _, _, _, _, _, _, _, _, _, _, _, _, _, _, _, _, _, _, _, _, _, _, _, _, _, _, _, _, _, _, _, _, _, _, _, _, _, _, _, _, _, _, _, _, _, _, _, _, _, _, _, _, _, _, _, _, _, _, _, _, _, _, _, _, _, _, _, _, _, _, _, _, _, _] _) _
                refine wpAny_done (by kernel_rfl) ?_ _
                all_goals (go_wp2_with fail; go_meet; exact ⟨rfl, HB4.out⟩)
              · have e9 : ((text.extract N text.size).toList == nm.toList) = false := beq_eq_false_iff_ne.2 (toList_ne c1)
                by_cases c2 : text.extract N text.size = B
                · have hT : T = true := HT.out ▸ decide_eq_true (.inr c2)
                  subst hT
                  have e8 : ((text.extract N text.size).toList == B.toList) = true := by rw [c2]; exact beq_self_eq_true _
                  clear c1 c2
                  refine wp_region_any (by kernel_rfl) ?_
                  change wpAny _ _ _ _ _ _ _ (World.drew _)
                  refine wpAny_take (i := 0) (v := ?_) rfl (by kernel_rfl) (by kernel_rfl) (by kernel_rfl) (fun _ _ _ h => h) (Or.inl ⟨by kernel_rfl, ?_⟩) ?_
                  rotate_left; · ((intro w; go_simp); (try (with_reducible rfl)))
                  change wpAny _ _ _ _ _ _ (Act.mk #[_, _, _, _, _, _, _, _, _, _, _, _, _, _, _, _, _, _, _, _, _, _, _, _, _, _, _, _, _, _, _, _, _, _, _, _, _, _, _, _, _, _, _, _, _, _, _, _, _, _, _, _, _, _, _, _, _, _, _, _, _, _, _, _, _, _, _, _, _, _, _, _, _, _, _, _, _, _, _, _, _, _, _, _, _, _, _, _, _, _, _, _, _, _, _, _, _, _, _, _, _, _] _) _
                  refine wpAny_take (i := 1) (v := ?_) rfl (by kernel_rfl) (by kernel_rfl) (by kernel_rfl) (fun _ _ _ h => h) (Or.inl ⟨by kernel_rfl, ?_⟩) ?_
                  rotate_left; · ((intro w; go_simp); (try (with_reducible rfl)))
                  change wpAny _ _ _ _ _ _ (Act.mk #[_, _, _, _, _, _, _, _, _, _, _, _, _, _, _, _, _, _, _, _, _, _, _, _, _, _, _, _, _, _, _, _, _, _, _, _, _, _, _, _, _, _, _, _, _, _, _, _, _, _, _, _, _, _, _, _, _, _, _, _, _, _, _, _, _, _, _, _, _, _, _, _, _, _, _, _, _, _, _, _, _, _, _, _, _, _, _, _, _, _, _, _, _, _, _, _, _, _, _, _, _, _] _) _
                  refine wpAny_take (i := 2) (v := ?_) rfl (by kernel_rfl) (by kernel_rfl) (by kernel_rfl) (fun _ _ _ h => h) (Or.inl ⟨by kernel_rfl, ?_⟩) ?_
                  rotate_left; · ((intro w; go_simp); (try (with_reducible rfl)))
                  change wpAny _ _ _ _ _ _ (Act.mk #[_, _, _, _, _, _, _, _, _, _, _, _, _, _, _, _, _, _, _, _, _, _, _, _, _, _, _, _, _, _, _, _, _, _, _, _, _, _, _, _, _, _, _, _, _, _, _, _, _, _, _, _, _, _, _, _, _, _, _, _, _, _, _, _, _, _, _, _, _, _, _, _, _, _, _, _, _, _, _, _, _, _, _, _, _, _, _, _, _, _, _, _, _, _, _, _, _, _, _, _, _, _] _) _
                  refine wpAny_take (i := 4) (v := ?_) rfl (by kernel_rfl) (by kernel_rfl) (by kernel_rfl) (fun _ _ _ h => h) (Or.inl ⟨by kernel_rfl, ?_⟩) ?_
                  rotate_left; · ((intro w; go_simp); (try (with_reducible rfl)))
                  change wpAny _ _ _ _ _ _ (Act.mk #[_, _, _, _, _, _, _, _, _, _, _, _, _, _, _, _, _, _, _, _, _, _, _, _, _, _, _, _, _, _, _, _, _, _, _, _, _, _, _, _, _, _, _, _, _, _, _, _, _, _, _, _, _, _, _, _, _, _, _, _, _, _, _, _, _, _, _, _, _, _, _, _, _, _, _, _, _, _, _, _, _, _, _, _, _, _, _, _, _, _, _, _, _, _, _, _, _, _, _, _, _, _] _) _
                  refine wpAny_ready (rs := [3]) (by kernel_rfl) (by simp) ?_
                  refine AllReady.cons rfl (fun K hK => ?_) AllReady.nil
                  go_simp
                  go_wp2_with (go_at_call 28; (with_reducible refine (refUnits_any _).mono ?_); rintro e w4 ⟨rfl, hrow, hb4⟩; have g2 : w4.cell? ⟨wr.heap.size, i, none⟩ = some (.string nm) := U.out w4 _ hrow; have HB4 := hide (Hb.out.trans ((Below_of_drew hb4).mono Hb.out.size)); clear hrow hb4)
                  first | (refine hK _ _ ?_; clear hK K) | skip
                  change wpAny _ _ _ _ _ _ (Act.mk #[_, _, _, _, _, _, _, _, _, _, _, _, _, _, _, _, _, _, _, _, _, _, _, _, _, _, _, _, _, _, _, _, _, _, _, _, _, _, _, _, _, _, _, _, _, _, _, _, _, _, _, _, _, _, _, _, _, _, _, _, _, _, _, _, _, _, _, _, _, _, _, _, _, _, _, _, _, _, _, _, _, _, _, _, _, _, _, _, _, _, _, _, _, _, _, _, _, _, _, _, _, _] _) _
                  refine wpAny_take (i := 5) (v := ?_) rfl (by kernel_rfl) (by kernel_rfl) (by kernel_rfl) (fun _ _ _ h => h) (Or.inl ⟨by kernel_rfl, ?_⟩) ?_
                  rotate_left; · ((intro w; go_simp); (try (with_reducible rfl)))
                  change wpAny _ _ _ _ _ _ (Act.mk #[_, _, _, _, _, _, _, _, _, _, _, _, _, _, _, _, _, _, _, _, _, _, _, _, _, _, _, _, _, _, _, _, _, _, _, _, _, _, _, _, _, _, _, _, _, _, _, _, _, _, _, _, _, _, _, _, _, _, _, _, _, _, _, _, _, _, _, _, _, _, _, _, _, _, _, _, _, _, _, _, _, _, _, _, _, _, _, _, _, _, _, _, _, _, _, _, _, _, _, _, _, _] _) _
                  refine wpAny_ready (rs := [6]) (by kernel_rfl) (by simp) ?_
                  refine AllReady.cons rfl (fun K hK => ?_) AllReady.nil
                  go_simp
                  first | (refine hK _ _ ?_; clear hK K) | skip
                  change wpAny _ _ _ _ _ _ (Act.mk #[_, _, _, _, _, _, _, _, _, _, _, _, _, _, _, _, _, _, _, _, _, _, _, _, _, _, _, _, _, _, _, _, _, _, _, _, _, _, _, _, _, _, _, _, _, _, _, _, _, _, _, _, _, _, _, _, _, _, _, _, _, _, _, _, _, _, _, _, _, _, _, _, _, _, _, _, _, _, _, _, _, _, _, _, _, _, _, _, _, _, _, _, _, _, _, _, _, _, _, _, _, _] _) _
                  refine wpAny_take (i := 7) (v := ?_) rfl (by kernel_rfl) (by kernel_rfl) (by kernel_rfl) (fun _ _ _ h => h) (Or.inl ⟨by kernel_rfl, ?_⟩) ?_
                  rotate_left; · ((intro w; go_simp); (try (with_reducible rfl)))
                  change wpAny _ _ _ _ _ _ (Act.mk #[_, _, _, _, _, _, _, _, _, _, _, _, _, _, _, _, _, _, _, _, _, _, _, _, _, _, _, _, _, _, _, _, _, _, _, _, _, _, _, _, _, _, _, _, _, _, _, _, _, _, _, _, _, _, _, _, _, _, _, _, _, _, _, _, _, _, _, _, _, _, _, _, _, _, _, _, _, _, _, _, _, _, _, _, _, _, _, _, _, _, _, _, _, _, _, _, _, _, _, _, _, _] _) _
                  refine wpAny_take (i := 8) (v := ?_) rfl (by kernel_rfl) (by kernel_rfl) (by kernel_rfl) (fun _ _ _ h => h) (Or.inl ⟨by kernel_rfl, ?_⟩) ?_
                  rotate_left; · ((intro w; go_simp); (try (with_reducible rfl)))
                  change wpAny _ _ _ _ _ _ (Act.mk #[_, _, _, _, _, _, _, _, _, _, _, _, _, _, _, _, _, _, _, _, _, _, _, _, _, _, _, _, _, _, _, _, _, _, _, _, _, _, _, _, _, _, _, _, _, _, _, _, _, _, _, _, _, _, _, _, _, _, _, _, _, _, _, _, _, _, _, _, _, _, _, _, _, _, _, _, _, _, _, _, _, _, _, _, _, _, _, _, _, _, _, _, _, _, _, _, _, _, _, _, _, _] _) _
                  refine wpAny_take (i := 9) (v := ?_) rfl (by kernel_rfl) (by kernel_rfl) (by kernel_rfl) (fun _ _ _ h => h) (Or.inl ⟨by kernel_rfl, ?_⟩) ?_
                  rotate_left; · ((intro w; go_simp); (try (with_reducible rfl)))
                  change wpAny _ _ _ _ _ _ (Act.mk #[_, _, _, _, _, _, _, _, _, _, _, _, _, _, _, _, _, _, _, _, _, _, _, _, _, _, _, _, _, _, _, _, _, _, _, _, _, _, _, _, _, _, _, _, _, _, _, _, _, _, _, _, _, _, _, _, _, _, _, _, _, _, _, _, _, _, _, _, _, _, _, _, _, _, _, _, _, _, _, _, _, _, _, _, _, _, _, _, _, _, _, _, _, _, _, _, _, _, _, _, _, _] _) _
                  refine wpAny_take (i := 10) (v := ?_) rfl (by kernel_rfl) (by kernel_rfl) (by kernel_rfl) (fun _ _ _ h => h) (Or.inl ⟨by kernel_rfl, ?_⟩) ?_
                  rotate_left; · ((intro w; go_simp); (try (with_reducible rfl)))
                  change wpAny _ _ _ _ _ _ (Act.mk #[_, _, _, _, _, _, _, _, _, _, _, _, _, _, _, _, _, _, _, _, _, _, _, _, _, _, _, _, _, _, _, _, _, _, _, _, _, _, _, _, _, _, _, _, _, _, _, _, _, _, _, _, _, _, _, _, _, _, _, _, _, _, _, _, _, _, _, _, _, _, _, _, _, _, _, _, _, _, _, _, _, _, _, _, _, _, _, _, _, _, _, _, _, _, _, _, _, _, _, _, _, _] _) _
                  refine wpAny_take (i := 11) (v := ?_) rfl (by kernel_rfl) (by kernel_rfl) (by kernel_rfl) (fun _ _ _ h => h) (Or.inl ⟨by kernel_rfl, ?_⟩) ?_
                  rotate_left; · ((intro w; go_simp); (try (with_reducible rfl)))
                  change wpAny _ _ _ _ _ _ (Act.mk #[_, _, _, _, _, _, _, _, _, _, _, _, _, _, _, _, _, _, _, _, _, _, _, _, _, _, _, _, _, _, _, _, _, _, _, _, _, _, _, _, _, _, _, _, _, _, _, _, _, _, _, _, _, _, _, _, _, _, _, _, _, _, _, _, _, _, _, _, _, _, _, _, _, _, _, _, _, _, _, _, _, _, _, _, _, _, _, _, _, _, _, _, _, _, _, _, _, _, _, _, _, _] _) _
                  refine wpAny_take (i := 13) (v := ?_) rfl (by kernel_rfl) (by kernel_rfl) (by kernel_rfl) (fun _ _ _ h => h) (Or.inl ⟨by kernel_rfl, ?_⟩) ?_
                  rotate_left; · ((intro w; go_simp); (try (with_reducible rfl)))
                  change wpAny _ _ _ _ _ _ (Act.mk #[_, _, _, _, _, _, _, _, _, _, _, _, _, _, _, _, _, _, _, _, _, _, _, _, _, _, _, _, _, _, _, _, _, _, _, _, _, _, _, _, _, _, _, _, _, _, _, _, _, _, _, _, _, _, _, _, _, _, _, _, _, _, _, _, _, _, _, _, _, _, _, _, _, _, _, _, _, _, _, _, _, _, _, _, _, _, _, _, _, _, _, _, _, _, _, _, _, _, _, _, _, _] _) _
                  refine wpAny_ready (rs := [12]) (by kernel_rfl) (by simp) ?_
                  refine AllReady.cons rfl (fun K hK => ?_) AllReady.nil
                  go_simp
                  go_wp2_with (go_at_call 28; (with_reducible refine (refUnits_any _).mono ?_); rintro e w5 ⟨rfl, hrow, hb4⟩; have g3 : w5.cell? ⟨w4.heap.size, i, none⟩ = some (.string nm) := U.out w5 _ hrow; have HB5 := hide (HB4.out.trans (hb4.mono HB4.out.size)); clear hrow hb4)
                  first | (refine hK _ _ ?_; clear hK K) | skip
                  change wpAny _ _ _ _ _ _ (Act.mk #[_, _, _, _, _, _, _, _, _, _, _, _, _, _, _, _, _, _, _, _, _, _, _, _, _, _, _, _, _, _, _, _, _, _, _, _, _, _, _, _, _, _, _, _, _, _, _, _, _, _, _, _, _, _, _, _, _, _, _, _, _, _, _, _, _, _, _, _, _, _, _, _, _, _, _, _, _, _, _, _, _, _, _, _, _, _, _, _, _, _, _, _, _, _, _, _, _, _, _, _, _, _] _) _
                  refine wpAny_take (i := 14) (v := ?_) rfl (by kernel_rfl) (by kernel_rfl) (by kernel_rfl) (fun _ _ _ h => h) (Or.inl ⟨by kernel_rfl, ?_⟩) ?_
                  rotate_left; · ((intro w; go_simp); (try (with_reducible rfl)))
                  change wpAny _ _ _ _ _ _ (Act.mk #[_, _, _, _, _, _, _, _, _, _, _, _, _, _, _, _, _, _, _, _, _, _, _, _, _, _, _, _, _, _, _, _, _, _, _, _, _, _, _, _, _, _, _, _, _, _, _, _, _, _, _, _, _, _, _, _, _, _, _, _, _, _, _, _, _, _, _, _, _, _, _, _, _, _, _, _, _, _, _, _, _, _, _, _, _, _, _, _, _, _, _, _, _, _, _, _, _, _, _, _, _, _] _) _
                  refine wpAny_ready (rs := [15]) (by kernel_rfl) (by simp) ?_
                  refine AllReady.cons rfl (fun K hK => ?_) AllReady.nil
                  go_simp
                  first | (refine hK _ _ ?_; clear hK K) | skip
                  change wpAny _ _ _ _ _ _ (Act.mk #[_, _, _, _, _, _, _, _, _, _, _, _, _, _, _, _, _, _, _, _, _, _, _, _, _, _, _, _, _, _, _, _, _, _, _, _, _, _, _, _, _, _, _, _, _, _, _, _, _, _, _, _, _, _, _, _, _, _, _, _, _, _, _, _, _, _, _, _, _, _, _, _, _, _, _, _, _, _, _, _, _, _, _, _, _, _, _, _, _, _, _, _, _, _, _, _, _, _, _, _, _, _] _) _
                  refine wpAny_take (i := 16) (v := ?_) rfl (by kernel_rfl) (by kernel_rfl) (by kernel_rfl) (fun _ _ _ h => h) (Or.inl ⟨by kernel_rfl, ?_⟩) ?_
                  rotate_left; · ((intro w; go_simp); (try (with_reducible rfl)))
                  change wpAny _ _ _ _ _ _ (Act.mk #[_, _, _, _, _, _, _, _, _, _, _, _, _, _, _, _, _, _, _, _, _, _, _, _, _, _, _, _, _, _, _, _, _, _, _, _, _, _, _, _, _, _, _, _, _, _, _, _, _, _, _, _, _, _, _, _, _, _, _, _, _, _, _, _, _, _, _, _, _, _, _, _, _, _, _, _, _, _, _, _, _, _, _, _, _, _, _, _, _, _, _, _, _, _, _, _, _, _, _, _, _, _] _) _
                  refine wpAny_take (i := 17) (v := ?_) rfl (by kernel_rfl) (by kernel_rfl) (by kernel_rfl) (fun _ _ _ h => h) (Or.inl ⟨by kernel_rfl, ?_⟩) ?_
                  rotate_left; · ((intro w; go_simp); (try (with_reducible rfl)))
                  change wpAny _ _ _ _ _ _ (Act.mk #[_, _, _, _, _, _, _, _, _, _, _, _, _, _, _, _, _, _, _, _, _, _, _, _, _, _, _, _, _, _, _, _, _, _, _, _, _, _, _, _, _, _, _, _, _, _, _, _, _, _, _, _, _, _, _, _, _, _, _, _, _, _, _, _, _, _, _, _, _, _, _, _, _, _, _, _, _, _, _, _, _, _, _, _, _, _, _, _, _, _, _, _, _, _, _, _, _, _, _, _, _, _] _) _
                  refine wpAny_take (i := 18) (v := ?_) rfl (by kernel_rfl) (by kernel_rfl) (by kernel_rfl) (fun _ _ _ h => h) (Or.inl ⟨by kernel_rfl, ?_⟩) ?_
                  rotate_left; · ((intro w; go_simp); (try (with_reducible rfl)))
                  change wpAny _ _ _ _ _ _ (Act.mk #[_, _, _, _, _, _, _, _, _, _, _, _, _, _, _, _, _, _, _, _, _, _, _, _, _, _, _, _, _, _, _, _, _, _, _, _, _, _, _, _, _, _, _, _, _, _, _, _, _, _, _, _, _, _, _, _, _, _, _, _, _, _, _, _, _, _, _, _, _, _, _, _, _, _, _, _, _, _, _, _, _, _, _, _, _, _, _, _, _, _, _, _, _, _, _, _, _, _, _, _, _, _] _) _
                  refine wpAny_done (by kernel_rfl) ?_ _
                  all_goals (go_wp2_with fail; go_meet; exact ⟨rfl, HB5.out⟩)
                · have hT : T = false := HT.out ▸ decide_eq_false (fun h => h.elim c1 c2)
                  subst hT
                  have e8 : ((text.extract N text.size).toList == B.toList) = false := beq_eq_false_iff_ne.2 (toList_ne c2)
                  clear c1 c2
                  refine wp_region_any (by kernel_rfl) ?_
                  change wpAny _ _ _ _ _ _ _ (World.drew _)
                  refine wpAny_take (i := 0) (v := ?_) rfl (by kernel_rfl) (by kernel_rfl) (by kernel_rfl) (fun _ _ _ h => h) (Or.inl ⟨by kernel_rfl, ?_⟩) ?_
                  rotate_left; · ((intro w; go_simp); (try (with_reducible rfl)))
                  change wpAny _ _ _ _ _ _ (Act.mk #[_, _, _, _, _, _, _, _, _, _, _, _, _, _, _, _, _, _, _, _, _, _, _, _, _, _, _, _, _, _, _, _, _, _, _, _, _, _, _, _, _, _, _, _, _, _, _, _, _, _, _, _, _, _, _, _, _, _, _, _, _, _, _, _, _, _, _, _, _, _, _, _, _, _, _, _, _, _, _, _, _, _, _, _, _, _, _, _, _, _, _, _, _, _, _, _, _, _, _, _, _, _] _) _
                  refine wpAny_take (i := 1) (v := ?_) rfl (by kernel_rfl) (by kernel_rfl) (by kernel_rfl) (fun _ _ _ h => h) (Or.inl ⟨by kernel_rfl, ?_⟩) ?_
                  rotate_left; · ((intro w; go_simp); (try (with_reducible rfl)))
                  change wpAny _ _ _ _ _ _ (Act.mk #[_, _, _, _, _, _, _, _, _, _, _, _, _, _, _, _, _, _, _, _, _, _, _, _, _, _, _, _, _, _, _, _, _, _, _, _, _, _, _, _, _, _, _, _, _, _, _, _, _, _, _, _, _, _, _, _, _, _, _, _, _, _, _, _, _, _, _, _, _, _, _, _, _, _, _, _, _, _, _, _, _, _, _, _, _, _, _, _, _, _, _, _, _, _, _, _, _, _, _, _, _, _] _) _
                  refine wpAny_take (i := 2) (v := ?_) rfl (by kernel_rfl) (by kernel_rfl) (by kernel_rfl) (fun _ _ _ h => h) (Or.inl ⟨by kernel_rfl, ?_⟩) ?_
                  rotate_left; · ((intro w; go_simp); (try (with_reducible rfl)))
                  change wpAny _ _ _ _ _ _ (Act.mk #[_, _, _, _, _, _, _, _, _, _, _, _, _, _, _, _, _, _, _, _, _, _, _, _, _, _, _, _, _, _, _, _, _, _, _, _, _, _, _, _, _, _, _, _, _, _, _, _, _, _, _, _, _, _, _, _, _, _, _, _, _, _, _, _, _, _, _, _, _, _, _, _, _, _, _, _, _, _, _, _, _, _, _, _, _, _, _, _, _, _, _, _, _, _, _, _, _, _, _, _, _, _] _) _
                  refine wpAny_take (i := 4) (v := ?_) rfl (by kernel_rfl) (by kernel_rfl) (by kernel_rfl) (fun _ _ _ h => h) (Or.inl ⟨by kernel_rfl, ?_⟩) ?_
                  rotate_left; · ((intro w; go_simp); (try (with_reducible rfl)))
                  change wpAny _ _ _ _ _ _ (Act.mk #[_, _, _, _, _, _, _, _, _, _, _, _, _, _, _, _, _, _, _, _, _, _, _, _, _, _, _, _, _, _, _, _, _, _, _, _, _, _, _, _, _, _, _, _, _, _, _, _, _, _, _, _, _, _, _, _, _, _, _, _, _, _, _, _, _, _, _, _, _, _, _, _, _, _, _, _, _, _, _, _, _, _, _, _, _, _, _, _, _, _, _, _, _, _, _, _, _, _, _, _, _, _] _) _
                  refine wpAny_ready (rs := [3]) (by kernel_rfl) (by simp) ?_
                  refine AllReady.cons rfl (fun K hK => ?_) AllReady.nil
                  go_simp
                  go_wp2_with (go_at_call 28; (with_reducible refine (refUnits_any _).mono ?_); rintro e w4 ⟨rfl, hrow, hb4⟩; have g2 : w4.cell? ⟨wr.heap.size, i, none⟩ = some (.string nm) := U.out w4 _ hrow; have HB4 := hide (Hb.out.trans ((Below_of_drew hb4).mono Hb.out.size)); clear hrow hb4)
                  first | (refine hK _ _ ?_; clear hK K) | skip
                  change wpAny _ _ _ _ _ _ (Act.mk #[_, _, _, _, _, _, _, _, _, _, _, _, _, _, _, _, _, _, _, _, _, _, _, _, _, _, _, _, _, _, _, _, _, _, _, _, _, _, _, _, _, _, _, _, _, _, _, _, _, _, _, _, _, _, _, _, _, _, _, _, _, _, _, _, _, _, _, _, _, _, _, _, _, _, _, _, _, _, _, _, _, _, _, _, _, _, _, _, _, _, _, _, _, _, _, _, _, _, _, _, _, _] _) _
                  refine wpAny_take (i := 5) (v := ?_) rfl (by kernel_rfl) (by kernel_rfl) (by kernel_rfl) (fun _ _ _ h => h) (Or.inl ⟨by kernel_rfl, ?_⟩) ?_
                  rotate_left; · ((intro w; go_simp); (try (with_reducible rfl)))
                  change wpAny _ _ _ _ _ _ (Act.mk #[_, _, _, _, _, _, _, _, _, _, _, _, _, _, _, _, _, _, _, _, _, _, _, _, _, _, _, _, _, _, _, _, _, _, _, _, _, _, _, _, _, _, _, _, _, _, _, _, _, _, _, _, _, _, _, _, _, _, _, _, _, _, _, _, _, _, _, _, _, _, _, _, _, _, _, _, _, _, _, _, _, _, _, _, _, _, _, _, _, _, _, _, _, _, _, _, _, _, _, _, _, _] _) _
                  refine wpAny_ready (rs := [6]) (by kernel_rfl) (by simp) ?_
                  refine AllReady.cons rfl (fun K hK => ?_) AllReady.nil
                  go_simp
                  first | (refine hK _ _ ?_; clear hK K) | skip
                  change wpAny _ _ _ _ _ _ (Act.mk #[_, _, _, _, _, _, _, _, _, _, _, _, _, _, _, _, _, _, _, _, _, _, _, _, _, _, _, _, _, _, _, _, _, _, _, _, _, _, _, _, _, _, _, _, _, _, _, _, _, _, _, _, _, _, _, _, _, _, _, _, _, _, _, _, _, _, _, _, _, _, _, _, _, _, _, _, _, _, _, _, _, _, _, _, _, _, _, _, _, _, _, _, _, _, _, _, _, _, _, _, _, _] _) _
                  refine wpAny_take (i := 7) (v := ?_) rfl (by kernel_rfl) (by kernel_rfl) (by kernel_rfl) (fun _ _ _ h => h) (Or.inl ⟨by kernel_rfl, ?_⟩) ?_
                  rotate_left; · ((intro w; go_simp); (try (with_reducible rfl)))
                  change wpAny _ _ _ _ _ _ (Act.mk #[_, _, _, _, _, _, _, _, _, _, _, _, _, _, _, _, _, _, _, _, _, _, _, _, _, _, _, _, _, _, _, _, _, _, _, _, _, _, _, _, _, _, _, _, _, _, _, _, _, _, _, _, _, _, _, _, _, _, _, _, _, _, _, _, _, _, _, _, _, _, _, _, _, _, _, _, _, _, _, _, _, _, _, _, _, _, _, _, _, _, _, _, _, _, _, _, _, _, _, _, _, _] _) _
                  refine wpAny_take (i := 8) (v := ?_) rfl (by kernel_rfl) (by kernel_rfl) (by kernel_rfl) (fun _ _ _ h => h) (Or.inl ⟨by kernel_rfl, ?_⟩) ?_
                  rotate_left; · ((intro w; go_simp); (try (with_reducible rfl)))
                  change wpAny _ _ _ _ _ _ (Act.mk #[_, _, _, _, _, _, _, _, _, _, _, _, _, _, _, _, _, _, _, _, _, _, _, _, _, _, _, _, _, _, _, _, _, _, _, _, _, _, _, _, _, _, _, _, _, _, _, _, _, _, _, _, _, _, _, _, _, _, _, _, _, _, _, _, _, _, _, _, _, _, _, _, _, _, _, _, _, _, _, _, _, _, _, _, _, _, _, _, _, _, _, _, _, _, _, _, _, _, _, _, _, _] _) _
                  refine wpAny_take (i := 9) (v := ?_) rfl (by kernel_rfl) (by kernel_rfl) (by kernel_rfl) (fun _ _ _ h => h) (Or.inl ⟨by kernel_rfl, ?_⟩) ?_
                  rotate_left; · ((intro w; go_simp); (try (with_reducible rfl)))
                  change wpAny _ _ _ _ _ _ (Act.mk #[_, _, _, _, _, _, _, _, _, _, _, _, _, _, _, _, _, _, _, _, _, _, _, _, _, _, _, _, _, _, _, _, _, _, _, _, _, _, _, _, _, _, _, _, _, _, _, _, _, _, _, _, _, _, _, _, _, _, _, _, _, _, _, _, _, _, _, _, _, _, _, _, _, _, _, _, _, _, _, _, _, _, _, _, _, _, _, _, _, _, _, _, _, _, _, _, _, _, _, _, _, _] _) _
                  refine wpAny_take (i := 10) (v := ?_) rfl (by kernel_rfl) (by kernel_rfl) (by kernel_rfl) (fun _ _ _ h => h) (Or.inl ⟨by kernel_rfl, ?_⟩) ?_
                  rotate_left; · ((intro w; go_simp); (try (with_reducible rfl)))
                  change wpAny _ _ _ _ _ _ (Act.mk #[_, _, _, _, _, _, _, _, _, _, _, _, _, _, _, _, _, _, _, _, _, _, _, _, _, _, _, _, _, _, _, _, _, _, _, _, _, _, _, _, _, _, _, _, _, _, _, _, _, _, _, _, _, _, _, _, _, _, _, _, _, _, _, _, _, _, _, _, _, _, _, _, _, _, _, _, _, _, _, _, _, _, _, _, _, _, _, _, _, _, _, _, _, _, _, _, _, _, _, _, _, _] _) _
                  refine wpAny_take (i := 11) (v := ?_) rfl (by kernel_rfl) (by kernel_rfl) (by kernel_rfl) (fun _ _ _ h => h) (Or.inl ⟨by kernel_rfl, ?_⟩) ?_
                  rotate_left; · ((intro w; go_simp); (try (with_reducible rfl)))
                  change wpAny _ _ _ _ _ _ (Act.mk #[_, _, _, _, _, _, _, _, _, _, _, _, _, _, _, _, _, _, _, _, _, _, _, _, _, _, _, _, _, _, _, _, _, _, _, _, _, _, _, _, _, _, _, _, _, _, _, _, _, _, _, _, _, _, _, _, _, _, _, _, _, _, _, _, _, _, _, _, _, _, _, _, _, _, _, _, _, _, _, _, _, _, _, _, _, _, _, _, _, _, _, _, _, _, _, _, _, _, _, _, _, _] _) _
                  refine wpAny_take (i := 13) (v := ?_) rfl (by kernel_rfl) (by kernel_rfl) (by kernel_rfl) (fun _ _ _ h => h) (Or.inl ⟨by kernel_rfl, ?_⟩) ?_
                  rotate_left; · ((intro w; go_simp); (try (with_reducible rfl)))
                  change wpAny _ _ _ _ _ _ (Act.mk #[_, _, _, _, _, _, _, _, _, _, _, _, _, _, _, _, _, _, _, _, _, _, _, _, _, _, _, _, _, _, _, _, _, _, _, _, _, _, _, _, _, _, _, _, _, _, _, _, _, _, _, _, _, _, _, _, _, _, _, _, _, _, _, _, _, _, _, _, _, _, _, _, _, _, _, _, _, _, _, _, _, _, _, _, _, _, _, _, _, _, _, _, _, _, _, _, _, _, _, _, _, _] _) _
                  refine wpAny_ready (rs := [12]) (by kernel_rfl) (by simp) ?_
                  refine AllReady.cons rfl (fun K hK => ?_) AllReady.nil
                  go_simp
                  go_wp2_with (go_at_call 28; (with_reducible refine (refUnits_any _).mono ?_); rintro e w5 ⟨rfl, hrow, hb4⟩; have g3 : w5.cell? ⟨w4.heap.size, i, none⟩ = some (.string nm) := U.out w5 _ hrow; have HB5 := hide (HB4.out.trans (hb4.mono HB4.out.size)); clear hrow hb4)
                  first | (refine hK _ _ ?_; clear hK K) | skip
                  change wpAny _ _ _ _ _ _ (Act.mk #[_, _, _, _, _, _, _, _, _, _, _, _, _, _, _, _, _, _, _, _, _, _, _, _, _, _, _, _, _, _, _, _, _, _, _, _, _, _, _, _, _, _, _, _, _, _, _, _, _, _, _, _, _, _, _, _, _, _, _, _, _, _, _, _, _, _, _, _, _, _, _, _, _, _, _, _, _, _, _, _, _, _, _, _, _, _, _, _, _, _, _, _, _, _, _, _, _, _, _, _, _, _] _) _
                  refine wpAny_take (i := 14) (v := ?_) rfl (by kernel_rfl) (by kernel_rfl) (by kernel_rfl) (fun _ _ _ h => h) (Or.inl ⟨by kernel_rfl, ?_⟩) ?_
                  rotate_left; · ((intro w; go_simp); (try (with_reducible rfl)))
                  change wpAny _ _ _ _ _ _ (Act.mk #[_, _, _, _, _, _, _, _, _, _, _, _, _, _, _, _, _, _, _, _, _, _, _, _, _, _, _, _, _, _, _, _, _, _, _, _, _, _, _, _, _, _, _, _, _, _, _, _, _, _, _, _, _, _, _, _, _, _, _, _, _, _, _, _, _, _, _, _, _, _, _, _, _, _, _, _, _, _, _, _, _, _, _, _, _, _, _, _, _, _, _, _, _, _, _, _, _, _, _, _, _, _] _) _
                  refine wpAny_ready (rs := [15]) (by kernel_rfl) (by simp) ?_
                  refine AllReady.cons rfl (fun K hK => ?_) AllReady.nil
                  go_simp
                  first | (refine hK _ _ ?_; clear hK K) | skip
                  change wpAny _ _ _ _ _ _ (Act.mk #[_, _, _, _, _, _, _, _, _, _, _, _, _, _, _, _, _, _, _, _, _, _, _, _, _, _, _, _, _, _, _, _, _, _, _, _, _, _, _, _, _, _, _, _, _, _, _, _, _, _, _, _, _, _, _, _, _, _, _, _, _, _, _, _, _, _, _, _, _, _, _, _, _, _, _, _, _, _, _, _, _, _, _, _, _, _, _, _, _, _, _, _, _, _, _, _, _, _, _, _, _, _] _) _
                  refine wpAny_take (i := 16) (v := ?_) rfl (by kernel_rfl) (by kernel_rfl) (by kernel_rfl) (fun _ _ _ h => h) (Or.inl ⟨by kernel_rfl, ?_⟩) ?_
                  rotate_left; · ((intro w; go_simp); (try (with_reducible rfl)))
                  change wpAny _ _ _ _ _ _ (Act.mk #[_, _, _, _, _, _, _, _, _, _, _, _, _, _, _, _, _, _, _, _, _, _, _, _, _, _, _, _, _, _, _, _, _, _, _, _, _, _, _, _, _, _, _, _, _, _, _, _, _, _, _, _, _, _, _, _, _, _, _, _, _, _, _, _, _, _, _, _, _, _, _, _, _, _, _, _, _, _, _, _, _, _, _, _, _, _, _, _, _, _, _, _, _, _, _, _, _, _, _, _, _, _] _) _
                  refine wpAny_take (i := 17) (v := ?_) rfl (by kernel_rfl) (by kernel_rfl) (by kernel_rfl) (fun _ _ _ h => h) (Or.inl ⟨by kernel_rfl, ?_⟩) ?_
                  rotate_left; · ((intro w; go_simp); (try (with_reducible rfl)))
                  change wpAny _ _ _ _ _ _ (Act.mk #[_, _, _, _, _, _, _, _, _, _, _, _, _, _, _, _, _, _, _, _, _, _, _, _, _, _, _, _, _, _, _, _, _, _, _, _, _, _, _, _, _, _, _, _, _, _, _, _, _, _, _, _, _, _, _, _, _, _, _, _, _, _, _, _, _, _, _, _, _, _, _, _, _, _, _, _, _, _, _, _, _, _, _, _, _, _, _, _, _, _, _, _, _, _, _, _, _, _, _, _, _, _] _) _
                  refine wpAny_take (i := 18) (v := ?_) rfl (by kernel_rfl) (by kernel_rfl) (by kernel_rfl) (fun _ _ _ h => h) (Or.inl ⟨by kernel_rfl, ?_⟩) ?_
                  rotate_left; · ((intro w; go_simp); (try (with_reducible rfl)))
                  change wpAny _ _ _ _ _ _ (Act.mk #[_, _, _, _, _, _, _, _, _, _, _, _, _, _, _, _, _, _, _, _, _, _, _, _, _, _, _, _, _, _, _, _, _, _, _, _, _, _, _, _, _, _, _, _, _, _, _, _, _, _, _, _, _, _, _, _, _, _, _, _, _, _, _, _, _, _, _, _, _, _, _, _, _, _, _, _, _, _, _, _, _, _, _, _, _, _, _, _, _, _, _, _, _, _, _, _, _, _, _, _, _, _] _) _
                  refine wpAny_done (by kernel_rfl) ?_ _
                  all_goals (go_wp2_with fail; go_meet; exact ⟨rfl, HB5.out⟩)
            case rest =>
              obtain ⟨rfl, hb5⟩ := hcut
              have H5 := hide hb5
              clear hb5
              cases T with
              | true =>
                have hs2 := HStep.out
                rw [if_pos (of_decide_eq_true HT.out)] at hs2
                have HS2 := hide hs2
                have q1 : IntKind.i64.wrap (-(3 * (i : Int)) - s) = -(3 * (i : Int)) - s := IntWalk.i64_in _ (by omega)
                clear hs2
                go_wp2
                go_roundw
                case rel => exact ⟨i + 1, by go_num, by omega, by rw [HRest.out, HS2.out]; congr 1 <;> omega, by rw [HRest.out, HS2.out], H5.out⟩
                case measure => simp [intOf]; omega
              | false =>
                have hs2 := HStep.out
                rw [if_neg (of_decide_eq_false HT.out)] at hs2
                have HS2 := hide hs2
                clear hs2
                go_wp2
                go_roundw
                case rel => exact ⟨i + 1, by go_num, by omega, by rw [HRest.out, HS2.out], by rw [HRest.out, HS2.out], H5.out⟩
                case measure => simp [intOf]; omega
          · obtain rfl : i = 6 := by omega
            obtain ⟨b1, b2⟩ := powAt_bd (restN text) s hr.1 hr.2 6 (Nat.le_refl _)
            generalize powAt (restN text) s 6 = pf at b1 b2 HS ⊢
            obtain ⟨p, f⟩ := pf
            simp only at b1 b2 HS
            clear hi hi6
            cases f with
            | false =>
              rw [if_neg Bool.false_ne_true] at HS
              go_wp2
              go_ret2
              exact ⟨by rw [HS.out]; rfl, Hb.out⟩
            | true =>
              rw [if_pos rfl] at HS
              have SH := hide (fun W : World => scaled_any num (p - s) W b3 (by omega) (by omega) (by omega))
              generalize shiftS num (p - s) = r at SH HS
              obtain ⟨o, x, ok⟩ := r
              simp only at HS
              go_wp2_with fail
              refine (SH.out _).mono ?_
              rintro e w5 ⟨m, x2, rfl, hx, rfl⟩
              cases ok with
              | true =>
                obtain ⟨rfl, rfl⟩ := hx rfl
                clear hx
                cases x2
                all_goals (go_wp2; go_ret2; exact ⟨by rw [HS.out]; rfl, Hb.out⟩)
              | false =>
                rw [Bool.and_false, if_neg Bool.false_ne_true] at HS
                clear hx
                cases x2
                all_goals (go_wp2; go_ret2; exact ⟨by rw [HS.out]; rfl, Hb.out⟩)
      · rw [decide_eq_false a3, Bool.not_false] at hbn
        subst hbn
        rw [if_pos rfl] at HS
        have e9 : ((text.extract 0 N).toList == Dn.toList) = false := beq_eq_false_iff_ne.2 (toList_ne a3)
        clear a3
        go_wp2
        refine wp_region_quiet_below (by kernel_rfl) (by kernel_rfl) ?_
        repeat (go_big_quiet_step (exact CD.out _ _))
        refine wpQuiet_nil ?_
        intro _ hw'
        obtain ⟨⟨dq, osq⟩, hw''⟩ := hw'
        subst hw''
        go_wp2
        go_ret2
        exact ⟨by rw [HS.out]; rfl, below_regrown wc dq osq⟩
end Go.Proofs.YtglfnbhcdblpiaaDoor
