/- Contracts of the reference's Depth, Names, Full, Find; Texts at any two lists. -/
import Derived.Test.YtpfiofgchkfkhaaGreatMgO
import Derived.Test.YtpfiofgchkfkhaaGreatMgK
import Derived.Deep.RegionHeld3
import Derived.Deep.AppendLies
import Derived.BigQuiet
import Derived.Deep.QuietTactic
set_option linter.unusedVariables false
set_option linter.unusedSimpArgs false
namespace Go.Proofs.YtpfiofgchkfkhaaGreat
open Go.RowKit Go.Shelf Go.Maps
set_option maxHeartbeats 4000000 in
theorem Texts_anyH (A A' : Option Addr) (cap cap' : Nat) (L L' : List ByteArray) (w : World) (hl : L.length ≤ 1099511627776) (hl' : L'.length ≤ 1099511627776) (hw : Sl Value.string w A L) (hw' : Sl Value.string w A' L') :
    Calls Tryz.prog 18 #[.slice A L.length cap, .slice A' L'.length cap'] w fun e w' => e = .returned (.bool (decide (L = L'))) ∧ Below w.heap.size w w' := by
  have Hw := hide hw
  have Hw' := hide hw'
  clear hw hw'
  by_cases hll : L.length = L'.length
  · have hll' : ((L.length : Int) == (L'.length : Int)) = true := by rw [hll]; exact beq_self_eq_true _
    obtain ⟨q, hq⟩ : ∃ q, decide (L = L') = q := ⟨_, rfl⟩
    have Hq := hide hq
    have Hll := hide hll
    clear hq
    rw [← hll]
    clear hll hll'
    go_enter Tryz.func18, Tryz.ntmps18
    go_wp2
    go_loopw [5] (fun v wr => ∃ i : Nat, v = .int .i64 i ∧ i ≤ L.length ∧ (∀ j, ∀ h : j < L.length, ∀ h' : j < L'.length, j < i → L[j] = L'[j]) ∧ Below w.heap.size w wr) (fun v _ => L.length - (intOf v).toNat)
    case atStart => exact ⟨0, rfl, Nat.zero_le _, fun j _ _ h => absurd h (Nat.not_lt_zero _), Below.refl _ _⟩
    case round =>
      obtain ⟨i, rfl, hi0, heq, hbr⟩ := hrel
      have Hbr := hide hbr
      have Heq := hide heq
      clear hbr heq
      by_cases hi : i < L.length
      · have hi2 : i < L'.length := by rw [← Hll.out]; exact hi
        obtain ⟨b, off, rfl, hbz, hat⟩ := Hw.out.at hi
        obtain ⟨b', off', rfl, hbz', hat'⟩ := Hw'.out.at hi2
        have hc := hat wr Hbr.out
        have hc' := hat' wr Hbr.out
        obtain ⟨t, ht⟩ : ∃ t, L[i] = t := ⟨_, rfl⟩
        obtain ⟨t', ht'⟩ : ∃ t, L'[i] = t := ⟨_, rfl⟩
        rw [ht] at hc
        rw [ht'] at hc'
        have Ht := hide (And.intro ht ht')
        clear hat hat' ht ht'
        have q1 : (0 : Int) ≤ (i : Int) := by omega
        have q2 : (i : Int) < (L.length : Int) := by omega
        by_cases htt : t = t'
        · have e1 : (t.toList == t'.toList) = true := by rw [htt]; exact beq_self_eq_true _
          have Htt := hide htt
          clear htt
          go_wp2_with fail
          go_quiet (fail)
          go_wp2
          go_roundw
          case rel =>
            refine ⟨i + 1, by go_num, by omega, fun j h h' hj => ?_, Below_drewN Hbr.out _⟩
            by_cases hji : j < i
            · exact Heq.out j h h' hji
            · have : j = i := by omega
              subst this
              rw [Ht.out.1, Ht.out.2]; exact Htt.out
          case measure => simp [intOf]; omega
        · have e1 : (t.toList == t'.toList) = false := beq_eq_false_iff_ne.2 fun e => htt (by
            rw [Lib.toList_data, Lib.toList_data] at e
            exact Go.WideShapes.bytes_inj e)
          have hqf : q = false := by
            rw [← Hq.out]
            refine decide_eq_false fun e => htt ?_
            subst e
            rw [← Ht.out.1, ← Ht.out.2]
          have Hqf := hide hqf
          clear hqf htt
          go_wp2_with fail
          go_quiet (fail)
          go_wp2
          go_ret
          exact ⟨ret_b (Hq.out.trans Hqf.out), Below_drewN Hbr.out _⟩
      · obtain rfl : i = L.length := Nat.le_antisymm hi0 (Nat.le_of_not_lt hi)
        have hqt : q = true := by
          rw [← Hq.out]
          refine decide_eq_true ?_
          apply List.ext_getElem Hll.out
          intro j h h'
          exact Heq.out j h h' h
        have Hqt := hide hqt
        clear hqt
        go_wp2
        go_ret
        exact ⟨ret_b (Hq.out.trans Hqt.out), Hbr.out⟩
  · have hll' : ((L.length : Int) == (L'.length : Int)) = false := beq_eq_false_iff_ne.2 (by omega)
    have hd := hide (show decide (L = L') = false from decide_eq_false fun e => hll (by rw [e]))
    have hn1 : ¬ (L.length : Int) = (L'.length : Int) := by omega
    go_enter Tryz.func18, Tryz.ntmps18
    go_wp2
    go_ret
    exact ⟨ret_b hd.out, Below.refl _ _⟩

theorem refP_PathOf {scs : List Sc} {i : Int} (hv : validH scs [] = true) : refP scs i = PathOf scs i := by
  unfold refP PathOf thereH
  rw [hv, Bool.and_true]
  by_cases h : 0 ≤ i ∧ i < scs.length
  · rw [if_pos h, decide_eq_true h]; rfl
  · rw [if_neg h, decide_eq_false h]; rfl
theorem PathOf_bad {scs : List Sc} {i : Int} (hv : validH scs [] = false) : PathOf scs i = [] := by
  unfold PathOf thereH
  rw [hv, Bool.and_false]; rfl
theorem refValid_none {w : World} {scs : List Sc} {A : Option Addr} (cap : Nat) (h : InS w scs A) :
    Calls Tryz.prog 10 #[.slice A scs.length cap, .slice none 0 0] w fun e w' => e = .returned (.bool (validH scs [])) ∧ Below w.heap.size w w' := refValid21_any scs [] A none cap 0 w h.none
set_option maxRecDepth 20000 in
theorem refNames_any {w : World} {scs : List Sc} {A : Option Addr} (cap : Nat) (i : Int) (h : InS w scs A) (hl : scs.length ≤ 100000) :
    Calls Tryz.prog 20 #[.slice A scs.length cap, .int .i64 i] w fun e w' => ∃ B c, e = .returned (.slice B (PathOf scs i).length c) ∧ Sl Value.string w' B (PathOf scs i) ∧ Below w.heap.size w w' := by
  have VN := hide (refValid_none cap h)
  cases hv : validH scs [] with
  | true =>
    have hP := refP_PathOf (i := i) hv
    have RP := hide (fun (W : World) (hb : Below w.heap.size w W) => refPath_any cap i (sc_below h.hs hb) (validH_decl hv).decl hl)
    rw [hv] at VN
    have RP' := RP.out
    rw [hP] at RP'
    generalize PathOf scs i = P at *
    generalize scs.length = n at *
    have RP2 := hide RP'
    clear h RP RP' hP hv
    go_enter Tryz.func20, Tryz.ntmps20
    go_wp2_with fail
    refine VN.out.mono ?_
    rintro e w1 ⟨rfl, hb⟩
    have HB := hide hb
    clear hb
    go_wp2_with fail
    refine (RP2.out w1 HB.out).mono ?_
    rintro e w2 ⟨g, c, rfl, ho, hb⟩
    have HB2 := hide (HB.out.trans (hb.mono HB.out.size))
    have HO := hide (show Sl Value.string w2 (some ⟨g, 0, none⟩) P from by obtain ⟨A9, c9, e9, h9, _⟩ := Sl_own ho rfl; cases e9; exact h9)
    clear ho hb
    go_wp2
    go_ret
    exact ⟨_, _, rfl, HO.out, HB2.out⟩
  | false =>
    have hP := PathOf_bad (i := i) hv
    rw [hv] at VN
    rw [hP]
    generalize scs.length = n at *
    clear h hP hv
    go_enter Tryz.func20, Tryz.ntmps20
    go_wp2_with fail
    refine VN.out.mono ?_
    rintro e w1 ⟨rfl, hb⟩
    have HB := hide hb
    clear hb
    go_wp2
    go_ret
    exact ⟨none, 0, rfl, Sl.nil _ _ _, HB.out⟩
set_option maxRecDepth 20000 in
theorem refDepth_any {w : World} {scs : List Sc} {A : Option Addr} (cap : Nat) (i : Int) (h : InS w scs A) (hl : scs.length ≤ 100000) :
    Calls Tryz.prog 17 #[.slice A scs.length cap, .int .i64 i] w fun e w' => e = .returned (.int .i64 ((PathOf scs i).length : Int)) ∧ Below w.heap.size w w' := by
  have VN := hide (refValid_none cap h)
  cases hv : validH scs [] with
  | true =>
    have hP := refP_PathOf (i := i) hv
    have RP := hide (fun (W : World) (hb : Below w.heap.size w W) => refPath_any cap i (sc_below h.hs hb) (validH_decl hv).decl hl)
    rw [hv] at VN
    have RP' := RP.out
    rw [hP] at RP'
    have hpl := PathOf_len scs i
    generalize PathOf scs i = P at *
    generalize scs.length = n at *
    have RP2 := hide RP'
    clear h RP RP' hP hv
    go_enter Tryz.func17, Tryz.ntmps17
    go_wp2_with fail
    refine VN.out.mono ?_
    rintro e w1 ⟨rfl, hb⟩
    have HB := hide hb
    clear hb
    go_wp2_with fail
    refine (RP2.out w1 HB.out).mono ?_
    rintro e w2 ⟨g, c, rfl, ho, hb⟩
    have HB2 := hide (HB.out.trans (hb.mono HB.out.size))
    clear ho hb
    go_wp2
    go_ret
    exact ⟨rfl, HB2.out⟩
  | false =>
    have hP := PathOf_bad (i := i) hv
    rw [hv] at VN
    rw [hP]
    generalize scs.length = n at *
    clear h hP hv
    go_enter Tryz.func17, Tryz.ntmps17
    go_wp2_with fail
    refine VN.out.mono ?_
    rintro e w1 ⟨rfl, hb⟩
    have HB := hide hb
    clear hb
    go_wp2
    go_ret
    exact ⟨rfl, HB.out⟩
theorem fullOk_iff {scs : List Sc} {p : Int} (hv : validH scs [] = true) : fullOk scs p = decide (-1 ≤ p ∧ p < scs.length) := by
  unfold fullOk thereH
  rw [hv, Bool.true_and, Bool.and_true]
  by_cases h : p = -1
  · subst h
    rw [decide_eq_true (show (-1 : Int) ≤ -1 ∧ (-1 : Int) < scs.length by omega)]; simp
  · rw [decide_eq_false h, Bool.false_or]
    by_cases h2 : 0 ≤ p ∧ p < scs.length
    · rw [decide_eq_true h2, decide_eq_true (by omega)]
    · rw [decide_eq_false h2, decide_eq_false (by omega)]
set_option maxRecDepth 20000 in
set_option maxHeartbeats 4000000 in
theorem refFull_bad {w : World} {scs : List Sc} {A : Option Addr} (cap : Nat) (v : Va) (h : InS w scs A) (hf : fullOk scs v.scope = false) :
    Calls Tryz.prog 22 #[.slice A scs.length cap, vaV v] w fun e w' => e = .returned (.slice none 0 0) ∧ Below w.heap.size w w' := by
  have VN := hide (fun W (hb : Below w.heap.size w W) => refValid_none cap (h.below hb))
  have hF := fun hv => fullOk_iff (p := v.scope) (scs := scs) hv
  rw [hf] at hF
  obtain ⟨nm, ty, sc, sg, rg, msb, lsb⟩ := v
  simp only at hF
  have hl := h.hl
  generalize validH scs [] = b at *
  generalize scs.length = n at *
  unfold vaV
  clear h hf
  have HB0 := hide ((Below.refl w.heap.size w).alloc (Nat.le_refl _) (.cells #[.string nm, .int .i64 ty, .int .i64 sc, .int .i64 sg, .bool rg, .int .i64 msb, .int .i64 lsb] 33))
  have HR := hide (Row.new w 33 #[.string nm, .int .i64 ty, .int .i64 sc, .int .i64 sg, .bool rg, .int .i64 msb, .int .i64 lsb])
  cases b with
  | false =>
    clear hF
    go_enter Tryz.func22, Tryz.ntmps22
    go_wp2_with fail
    refine (VN.out _ HB0.out).mono ?_
    rintro e w1 ⟨rfl, hb⟩
    have HB1 := hide (HB0.out.trans (hb.mono HB0.out.size))
    clear hb
    go_wp2
    any_goals first | (rename_i hu hb; exact (undef_bool hu).elim) | skip
    go_ret
    exact ⟨rfl, HB1.out⟩
  | true =>
    have hno := of_decide_eq_false (hF rfl).symm
    clear hF
    go_enter Tryz.func22, Tryz.ntmps22
    go_wp2_with fail
    refine (VN.out _ HB0.out).mono ?_
    rintro e w1 ⟨rfl, hb⟩
    have HB1 := hide (HB0.out.trans (hb.mono HB0.out.size))
    have HR1 := hide (HR.out.below hb HR.out.lt)
    have hc1 : w1.cell? ⟨w.heap.size, 2, none⟩ = some (.int .i64 sc) := HR1.out.cell 2
    clear hb
    by_cases s1 : sc < -1
    · clear hno
      go_wp2
      any_goals first | (rename_i hu hb; exact (undef_bool hu).elim) | skip
      go_ret
      exact ⟨rfl, HB1.out⟩
    · have s2 : (n : Int) ≤ sc := by omega
      clear hno
      go_wp2
      go_ret
      exact ⟨rfl, HB1.out⟩
set_option maxRecDepth 20000 in
set_option maxHeartbeats 4000000 in
theorem refFull_good {w : World} {scs : List Sc} {A : Option Addr} (cap : Nat) (v : Va) (h : InS w scs A) (hl : scs.length ≤ 100000) (hf : fullOk scs v.scope = true) :
    Calls Tryz.prog 22 #[.slice A scs.length cap, vaV v] w fun e w' => ∃ u, e = .returned u ∧ w'.ownsRow w.heap.size 9 1 u ((pathH scs v.scope).length + 1) ((pathH scs v.scope).map Value.string ++ [.string v.name]) ∧ Below w.heap.size w w' := by
  have hvalid : validH scs [] = true := by
    unfold fullOk at hf
    rw [Bool.and_eq_true] at hf
    exact hf.1
  have VN := hide (fun W (hb : Below w.heap.size w W) => refValid_none cap (h.below hb))
  rw [hvalid] at VN
  have hrange : -1 ≤ v.scope ∧ v.scope < scs.length := by
    rw [fullOk_iff hvalid] at hf
    exact of_decide_eq_true hf
  have hg := validH_decl hvalid
  have PA := hide (fun W (hb : Below w.heap.size w W) => refPath_any cap v.scope (sc_below h.hs hb) hg.decl hl)
  have PA' := PA.out
  rw [refP_in hrange.1 hrange.2] at PA'
  have PA := hide PA'
  have hpl : (pathH scs v.scope).length ≤ 100001 := by
    rw [pathH_len]
    have := upF_len scs (v.scope.toNat + 1) v.scope
    show (upF scs (v.scope.toNat + 1) v.scope).length ≤ _
    omega
  obtain ⟨nm, ty, sc, sg, rg, msb, lsb⟩ := v
  simp only at PA hpl hrange ⊢
  generalize pathH scs sc = P at *
  generalize scs.length = n at *
  unfold vaV
  obtain ⟨s1, s2⟩ := hrange
  have s1' : ¬ sc < -1 := by omega
  have s2' : ¬ (n : Int) ≤ sc := by omega
  clear h hf hvalid hg PA'
  have HB0 := hide ((Below.refl w.heap.size w).alloc (Nat.le_refl _) (.cells #[.string nm, .int .i64 ty, .int .i64 sc, .int .i64 sg, .bool rg, .int .i64 msb, .int .i64 lsb] 33))
  have HR := hide (Row.new w 33 #[.string nm, .int .i64 ty, .int .i64 sc, .int .i64 sg, .bool rg, .int .i64 msb, .int .i64 lsb])
  · go_enter Tryz.func22, Tryz.ntmps22
    go_wp2_with fail
    refine (VN.out _ HB0.out).mono ?_
    rintro e w1 ⟨rfl, hb⟩
    have HBA := hide (HB0.out.trans (hb.mono HB0.out.size))
    have HRA := hide (HR.out.below hb HR.out.lt)
    have hc2 : w1.cell? ⟨w.heap.size, 2, none⟩ = some (.int .i64 sc) := HRA.out.cell 2
    have hc0 : w1.cell? ⟨w.heap.size, 0, none⟩ = some (.string nm) := HRA.out.cell 0
    clear hb
    go_wp2_with fail
    obtain ⟨iS, hiS, hz0', hz1', hz2'⟩ := info_parts infoStrH
    have HI := hide hiS
    have HZ0 := hide hz0'
    have HZ1 := hide hz1'
    have HZ2 := hide hz2'
    have H1C := hide (show ∀ u ∈ [Value.string nm], u.oneCell' = true by intro u hu; simp only [List.mem_cons, List.not_mem_nil, or_false] at hu; rcases hu with rfl; rfl)
    have HK1 := hide (show P.length + 1 ≤ maxLen by unfold maxLen; omega)
    have HK2 := hide (show (P.length + 1) * 16 ≤ 140737488355328 by omega)
    have hwA := HBA.out.size
    have HwA := hide hwA
    clear hiS hz0' hz1' hz2'
    go_region_held3 (fun w' => w'.cell? ⟨w.heap.size, 2, none⟩ = some (.int .i64 sc) ∧ w'.cell? ⟨w.heap.size, 0, none⟩ = some (.string nm)) (go_keep) (first
      | (go_at_call 40; refine (PA.out w1.drew HBA.out.drew).mono ?_; rintro e w5 ⟨gP, cp1, rfl, ho5, hb5⟩; have hd0 : w5.cell? ⟨w.heap.size, 0, none⟩ = some (.string nm) := (hb5.cell (p := ⟨w.heap.size, 0, none⟩) HRA.out.lt).trans hc0; have hd2 : w5.cell? ⟨w.heap.size, 2, none⟩ = some (.int .i64 sc) := (hb5.cell (p := ⟨w.heap.size, 2, none⟩) HRA.out.lt).trans hc2; have HX5 := hide (show (Value.slice (some ⟨gP, 0, none⟩) P.length cp1).ownBlock ≠ some w.heap.size from fun e => Nat.not_lt.2 (ho5.lt _ e).1 HRA.out.lt); have Ho5 := hide (ownsRow_mono ho5 hwA); have Hb5 := hide (HBA.out.drew.trans (hb5.mono HBA.out.size)); clear ho5 hb5)
      | (go_at_call 40; refine (PA.out (w1.drew.alloc (.cells #[.string nm] 9)) (HBA.out.drew.alloc HBA.out.size _)).mono ?_; rintro e w5 ⟨gP, cp1, rfl, ho5, hb5⟩; have hd0 : w5.cell? ⟨w.heap.size, 0, none⟩ = some (.string nm) := (hb5.cell (p := ⟨w.heap.size, 0, none⟩) (by rw [World.size_alloc]; exact Nat.lt_succ_of_lt HRA.out.lt)).trans ((HRA.out.alloc _).cell 0); have hd2 : w5.cell? ⟨w.heap.size, 2, none⟩ = some (.int .i64 sc) := (hb5.cell (p := ⟨w.heap.size, 2, none⟩) (by rw [World.size_alloc]; exact Nat.lt_succ_of_lt HRA.out.lt)).trans ((HRA.out.alloc _).cell 2); have HX5 := hide (show (Value.slice (some ⟨gP, 0, none⟩) P.length cp1).ownBlock ≠ some w.heap.size from fun e => Nat.not_lt.2 (ho5.lt _ e).1 (by rw [World.size_alloc]; exact Nat.lt_succ_of_lt HRA.out.lt)); have Ho5 := hide (ownsRow_mono ho5 (Nat.le_trans hwA (by rw [World.size_alloc]; exact Nat.le_succ _))); have Hb5 := hide ((HBA.out.drew.alloc HBA.out.size (.cells #[.string nm] 9)).trans (hb5.mono (Nat.le_trans hwA (by rw [World.size_alloc]; exact Nat.le_succ _)))); have Hn5 := hide ((Row.new w1.drew 9 #[.string nm]).below hb5 (by rw [World.size_alloc]; exact Nat.lt_succ_self _)); clear ho5 hb5)
      | (refine step_append_lies _ rfl _ _ 34 rfl w.heap.size 9 iS _ 1 16 Tryz.underlying34 HI.out HZ0.out HZ1.out HZ2.out rfl (by decide) (.slice (some ⟨gP, 0, none⟩) P.length cp1) P.length (P.map Value.string) rfl (Ho5.out.alloc _) ⟨w5.heap.size, 0, none⟩ 1 1 [.string nm] rfl rfl (cells_new _ _ rfl) H1C.out (by decide) HK1.out HK2.out (Nat.le_trans Hb5.out.size (by rw [World.size_alloc]; exact Nat.le_succ _)) _ rfl ?_; intro g6 cap6 w6 hown6 hgrow6 hat6 hlt6; have hk0 : w6.cell? ⟨w.heap.size, 0, none⟩ = some (.string nm) := (hgrow6.cell_far ⟨w.heap.size, 0, none⟩ (by rw [World.size_alloc]; exact Nat.lt_succ_of_lt (World.block_lt_of_cell? w5 _ hd0)) (fun e => HX5.out e.symm)).trans ((((Below.refl w5.heap.size w5).alloc (Nat.le_refl _) _).cell (p := ⟨w.heap.size, 0, none⟩) (World.block_lt_of_cell? w5 _ hd0)).trans hd0); have hk2 : w6.cell? ⟨w.heap.size, 2, none⟩ = some (.int .i64 sc) := (hgrow6.cell_far ⟨w.heap.size, 2, none⟩ (by rw [World.size_alloc]; exact Nat.lt_succ_of_lt (World.block_lt_of_cell? w5 _ hd2)) (fun e => HX5.out e.symm)).trans ((((Below.refl w5.heap.size w5).alloc (Nat.le_refl _) _).cell (p := ⟨w.heap.size, 2, none⟩) (World.block_lt_of_cell? w5 _ hd2)).trans hd2); have HF := hide (show w6.ownsRow w.heap.size 9 1 (.slice (some ⟨g6, 0, none⟩) (P.length + 1) cap6) (P.length + 1) (P.map Value.string ++ [.string nm]) ∧ Below w.heap.size w w6 from ⟨hown6, (Hb5.out.alloc Hb5.out.size _).grown hgrow6 (Nat.le_trans Hb5.out.size (by rw [World.size_alloc]; exact Nat.le_succ _)) (fun j hj => (World.ownsRow.lt (Ho5.out.alloc (.cells #[.string nm] 9)) j hj).1)⟩); clear hown6 hgrow6 hat6 hlt6)
      | (refine step_append_lies _ rfl _ _ 34 rfl w.heap.size 9 iS _ 1 16 Tryz.underlying34 HI.out HZ0.out HZ1.out HZ2.out rfl (by decide) (.slice (some ⟨gP, 0, none⟩) P.length cp1) P.length (P.map Value.string) rfl Ho5.out ⟨w1.heap.size, 0, none⟩ 1 1 [.string nm] rfl rfl (World.news_of_block (cs := #[.string nm]) (t := 9) (fr := (0, 0)) Hn5.out) H1C.out (by decide) HK1.out HK2.out Hb5.out.size _ rfl ?_; intro g6 cap6 w6 hown6 hgrow6 hat6 hlt6; have hk0 : w6.cell? ⟨w.heap.size, 0, none⟩ = some (.string nm) := (hgrow6.cell_far ⟨w.heap.size, 0, none⟩ (World.block_lt_of_cell? w5 _ hd0) (fun e => HX5.out e.symm)).trans hd0; have hk2 : w6.cell? ⟨w.heap.size, 2, none⟩ = some (.int .i64 sc) := (hgrow6.cell_far ⟨w.heap.size, 2, none⟩ (World.block_lt_of_cell? w5 _ hd2) (fun e => HX5.out e.symm)).trans hd2; have HF := hide (show w6.ownsRow w.heap.size 9 1 (.slice (some ⟨g6, 0, none⟩) (P.length + 1) cap6) (P.length + 1) (P.map Value.string ++ [.string nm]) ∧ Below w.heap.size w w6 from ⟨hown6, Hb5.out.grown hgrow6 Hb5.out.size (fun j hj => (World.ownsRow.lt Ho5.out j hj).1)⟩); clear hown6 hgrow6 hat6 hlt6))
    all_goals
      go_wp2
      go_ret
      exact ⟨_, rfl, HF.out.1, HF.out.2⟩
theorem refFull_any {w : World} {scs : List Sc} {A : Option Addr} (cap : Nat) (v : Va) (h : InS w scs A) (hl : scs.length ≤ 100000) :
    Calls Tryz.prog 22 #[.slice A scs.length cap, vaV v] w fun e w' => ∃ u, e = .returned u ∧ w'.ownsRow w.heap.size 9 1 u (FullOf scs v).length ((FullOf scs v).map Value.string) ∧ Below w.heap.size w w' := by
  cases hf : fullOk scs v.scope with
  | true =>
    have e : FullOf scs v = pathH scs v.scope ++ [v.name] := by unfold FullOf; rw [if_pos hf]
    rw [e]
    refine (refFull_good cap v h hl hf).mono ?_
    rintro e w' ⟨u, rfl, ho, hb⟩
    refine ⟨u, rfl, ?_, hb⟩
    rw [List.length_append, List.map_append]; exact ho
  | false =>
    have e : FullOf scs v = [] := by unfold FullOf; rw [if_neg (by rw [hf]; decide)]
    rw [e]
    refine (refFull_bad cap v h hf).mono ?_
    rintro e w' ⟨rfl, hb⟩
    exact ⟨_, rfl, World.ownsRow_nil _ _ _ _, hb⟩
theorem findG_some {scs : List Sc} (hd : DeclS scs) : ∀ (L : List ByteArray) (a b : Int), -1 ≤ a → a < scs.length → findG scs L a = some b → -1 ≤ b ∧ b < scs.length ∧ pathH scs b = pathH scs a ++ L
  | [], a, b, h1, h2, h => by
    have : a = b := Option.some.inj h
    subst this
    exact ⟨h1, h2, by simp⟩
  | p :: L, a, b, h1, h2, h => by
    unfold findG at h
    split at h
    · cases h
    · rename_i hk
      rcases idxP_cases (isH a p) scs with ⟨e, _⟩ | ⟨i, hi, e, hp, _⟩
      · rw [e] at hk; omega
      · rw [e] at h
        unfold isH at hp
        rw [Bool.and_eq_true, decide_eq_true_eq, decide_eq_true_eq] at hp
        obtain ⟨g1, g2, g3⟩ := findG_some hd L (i : Int) b (by omega) (by omega) h
        refine ⟨g1, g2, ?_⟩
        rw [g3, pathH_step hd hi, scH_at hi, hp.1, hp.2]
        simp
theorem findH_hit {scs : List Sc} {path : List ByteArray} (hv : validH scs [] = true) {i : Nat} (hi : i < scs.length) (h : refP scs (i : Int) = path) : findH scs path = ((i : Int), 0) := by
  rw [refP_PathOf hv] at h
  rw [← h]
  exact find_path hv hi
theorem findH_none {scs : List Sc} {path : List ByteArray} (hv : validH scs [] = true) (h : ∀ i, i < scs.length → refP scs (i : Int) ≠ path) : findH scs path = (0, 6) := by
  have g := validH_decl hv
  unfold findH
  rw [if_neg (by rw [hv]; decide)]
  cases hf : findG scs path (-1) with
  | none => rfl
  | some b =>
    obtain ⟨g1, g2, g3⟩ := findG_some g.decl path (-1) b (by omega) (by omega) hf
    rw [pathH_neg scs (i := -1) (by omega), List.nil_append] at g3
    show (if b < 0 then _ else _) = _
    by_cases hb : b < 0
    · rw [if_pos hb]
    · obtain ⟨i, rfl⟩ : ∃ i : Nat, b = i := ⟨b.toNat, by omega⟩
      exact absurd (by rw [refP_in (by omega) g2]; exact g3) (h i (by omega))
theorem findH_bad {scs : List Sc} {path : List ByteArray} (hv : validH scs [] = false) : findH scs path = (0, 1) := by unfold findH; rw [if_pos hv]
set_option maxRecDepth 20000 in
set_option maxHeartbeats 4000000 in
theorem refFind_any {w : World} {scs : List Sc} {A A' : Option Addr} (cap cap' : Nat) (path : List ByteArray) (h : InS w scs A) (hl : scs.length ≤ 100000) (hp : Sl Value.string w A' path) (hpl : path.length ≤ 100000) :
    Calls Tryz.prog 15 #[.slice A scs.length cap, .slice A' path.length cap'] w fun e w' => e = .returned (.tuple #[.int .i64 (findH scs path).1, .int .i64 (findH scs path).2]) ∧ Below w.heap.size w w' := by
  have VN := hide (refValid_none cap h)
  cases hv : validH scs [] with
  | true =>
    rw [hv] at VN
    have RP := hide (fun (i : Int) (W : World) (hb : Below w.heap.size w W) => refPath_any cap i (sc_below h.hs hb) (validH_decl hv).decl hl)
    have TX := hide (fun (i : Int) (W : World) (hb : Below w.heap.size w W) (g c : Nat) (hs : Sl Value.string W (some ⟨g, 0, none⟩) (refP scs i)) => Texts_anyH (some ⟨g, 0, none⟩) A' c cap' (refP scs i) path W (by have := refP_len scs i; omega) (by omega) hs (hp.below hb))
    have H1 := hide (fun (i : Nat) (hi : i < scs.length) (e : refP scs (i : Int) = path) => findH_hit hv hi e)
    have H2 := hide (findH_none (path := path) hv)
    obtain ⟨r1, r2, hr⟩ : ∃ r1 r2, findH scs path = (r1, r2) := ⟨_, _, rfl⟩
    have H1' := H1.out
    have H2' := H2.out
    rw [hr] at H1' H2' ⊢
    simp only
    obtain ⟨m, hm⟩ : ∃ m, path.length = m := ⟨_, rfl⟩
    obtain ⟨n, hn⟩ : ∃ n, scs.length = n := ⟨_, rfl⟩
    have VN' := VN.out
    have RP' := RP.out
    have TX' := TX.out
    rw [hm] at TX'
    rw [hn] at VN' RP' H1' H2' hl
    rw [hn, hm]
    have VN2 := hide VN'
    have RP2 := hide RP'
    have TX2 := hide TX'
    have H12 := hide H1'
    have H22 := hide H2'
    clear h hp hv VN VN' RP RP' TX TX' H1 H1' H2 H2' hr hm hn
    go_enter Tryz.func15, Tryz.ntmps15
    go_wp2_with fail
    refine VN2.out.mono ?_
    rintro e w1 ⟨rfl, hb⟩
    have HB := hide hb
    clear hb
    go_wp2_with fail
    go_loopw [6] (fun v wr => ∃ i : Nat, v = .int .i64 (i : Int) ∧ i ≤ n ∧ Hid (∀ j, j < i → refP scs (j : Int) ≠ path) ∧ Hid (Below w.heap.size w wr)) (fun v _ => n - (intOf v).toNat)
    case atStart => exact ⟨0, rfl, Nat.zero_le _, hide (fun j h => absurd h (by omega)), HB⟩
    case round =>
      obtain ⟨i, rfl, hi, HA, HB⟩ := hrel
      by_cases hlt : i < n
      · have hi' : (i : Int) < (n : Int) := by omega
        have hw1 : IntKind.i64.wrap ((i : Int) + 1) = (i : Int) + 1 := IntWalk.i64_in _ (by omega)
        have RPi := hide (RP2.out (i : Int))
        have TXi := hide (TX2.out (i : Int))
        have Hi1 := hide (H12.out i hlt)
        have HA2 := hide (fun (h : refP scs (i : Int) ≠ path) (j : Nat) (hj : j < i + 1) => show refP scs (j : Int) ≠ path from by
          rcases Nat.lt_or_ge j i with h1 | h1
          · exact HA.out j h1
          · obtain rfl : j = i := by omega
            exact h)
        generalize refP scs (i : Int) = P at *
        go_wp2_with fail
        refine (RPi.out wr HB.out).mono ?_
        rintro e w5 ⟨g5, c5, rfl, ho5, hb5⟩
        have HB5 := hide (HB.out.trans (hb5.mono HB.out.size))
        have HS5 := hide (show Sl Value.string w5 (some ⟨g5, 0, none⟩) P from by obtain ⟨A9, c9, e9, h9, _⟩ := Sl_own ho5 rfl; cases e9; exact h9)
        clear ho5 hb5
        have TXw := hide (TXi.out w5 HB5.out g5 c5 HS5.out)
        obtain ⟨d, hd⟩ : ∃ d, decide (P = path) = d := ⟨_, rfl⟩
        rw [hd] at TXw
        have HD := hide hd
        clear hd
        go_wp2_with fail
        refine TXw.out.mono ?_
        rintro e w6 ⟨rfl, hb6⟩
        have HB6 := hide (HB5.out.trans (hb6.mono HB5.out.size))
        clear hb6
        cases d with
        | true =>
          have HR := hide (show r1 = (i : Int) ∧ r2 = 0 from Prod.mk.inj (Hi1.out (of_decide_eq_true HD.out)))
          go_wp2
          go_ret2
          exact ⟨by rw [HR.out.1, HR.out.2]; first | done | rfl, HB6.out⟩
        | false =>
          have HA3 := hide (HA2.out (of_decide_eq_false HD.out))
          go_wp2
          go_roundw
          case rel => exact ⟨i + 1, by go_num, by omega, HA3, HB6⟩
          case measure => simp [intOf]; omega
      · obtain rfl : i = n := by omega
        have hi' : ¬ (i : Int) < (i : Int) := by omega
        have HR := hide (show r1 = 0 ∧ r2 = 6 from Prod.mk.inj (H22.out (fun j hj => HA.out j hj)))
        go_wp2
        go_ret2
        exact ⟨by rw [HR.out.1, HR.out.2]; first | done | rfl, HB.out⟩
  | false =>
    rw [hv] at VN
    rw [findH_bad hv]
    generalize scs.length = n at *
    generalize path.length = m at *
    clear h hp hv
    go_enter Tryz.func15, Tryz.ntmps15
    go_wp2_with fail
    refine VN.out.mono ?_
    rintro e w1 ⟨rfl, hb⟩
    have HB := hide hb
    clear hb
    go_wp2
    go_ret2
    exact ⟨rfl, HB.out⟩
end Go.Proofs.YtpfiofgchkfkhaaGreat
