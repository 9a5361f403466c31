/- The walk of HierarchyInverse. -/
import Derived.Test.YtpfiofgchkfkhaaMgK
import Derived.Test.YtpfiofgchkfkhaaMgL
import Derived.Deep.RegionHeld3
set_option linter.unusedVariables false
set_option linter.unusedSimpArgs false
namespace Go.Proofs.Ytpfiofgchkfkhaa
open Go.RowKit Go.Shelf Go.Maps
theorem Contains_any (A : Option Addr) (n cap : Nat) (L : List Int) (x : Int) (w : World) (hn : n = L.length) (hl : L.length ≤ 1000000) (hs : Sl intV w A L) :
    Calls Try.prog 18 #[.slice A n cap, .int .i64 x] w fun e w' => e = .returned (.bool (L.contains x)) ∧ w = w' := by
  subst hn
  rcases Nat.eq_zero_or_pos L.length with h0 | h0
  · obtain rfl := List.eq_nil_of_length_eq_zero h0
    exact (Try.slices_Contains_int_empty A cap x w).mono (by rintro e w' ⟨rfl, rfl⟩; exact ⟨rfl, rfl⟩)
  · obtain ⟨b, off, rfl, hat⟩ := hs h0
    refine (Try.slices_Contains_int b off L.length cap L x w (Nat.le_refl _) (by omega) (fun j hj => ?_)).mono ?_
    · rw [hat j hj, List.getD_eq_getElem?_getD, List.getElem?_eq_getElem hj]; rfl
    · rintro e w' ⟨rfl, rfl⟩
      rw [List.take_length]
      exact ⟨rfl, rfl⟩
set_option maxRecDepth 20000 in
set_option maxHeartbeats 8000000 in
theorem inverse_walk (A : Option Addr) (n cap : Nat) (scs : List Sc) (A' : Option Addr) (m cap' : Nat) (vs : List Va) (w : World) (hn : scs.length = n) (hn0 : n ≤ maxLen) (hs : InScs w A scs) (hm : vs.length = m) (hm0 : m ≤ maxLen) (hv : InVas w A' cap' vs) (hg : Gm w) :
    Calls Try.prog 5 #[.slice A n cap, .slice A' m cap'] w fun e w' => e = .returned (.bool true) ∧ Below w.heap.size w w' := by
  subst hn; subst hm
  have AW := hide (awake_hi w hg)
  have FW := hide (fun W (hb : Below w.heap.size w W) => FewH_any cap cap' (sc_below hs.s hb) (va_below hv.s hb) hn0 hm0 (fun x hx => (hs.ok x hx).name) (fun v hv' => (hv.ok v hv').name))
  cases hf : fewHB scs vs with
  | false =>
    have FW' := FW.out
    rw [hf] at FW'
    have FW2 := hide FW'
    generalize scs.length = n at *
    generalize vs.length = m at *
    clear FW FW' hs hv hf
    go_enter Try.func5, Try.ntmps5
    go_wp2_with fail
    refine AW.out.mono ?_
    rintro e w1 ⟨rfl, hb⟩
    have HB1 := hide hb
    clear hb
    go_wp2_with fail
    refine (FW2.out w1 HB1.out).mono ?_
    rintro e w2 ⟨rfl, rfl⟩
    go_wp2
    any_goals first | (rename_i hu hb; exact (undef_bool hu).elim) | skip
    go_ret
    exact ⟨rfl, HB1.out⟩
  | true =>
    have FW' := FW.out
    rw [hf] at FW'
    have FW2 := hide FW'
    have hI := in_few hs hv hf
    obtain ⟨_, _, hsl, hvl⟩ := few_spec hf
    have VH := hide (fun W (hb : Below w.heap.size w W) => Valid_H scs vs A A' cap cap' W (hI.below hb))
    cases hvd : validH scs vs with
    | false =>
      have VH' := VH.out
      rw [hvd] at VH'
      have VH2 := hide VH'
      generalize scs.length = n at *
      generalize vs.length = m at *
      clear FW FW' hs hv hf hI VH VH' hvd
      go_enter Try.func5, Try.ntmps5
      go_wp2_with fail
      refine AW.out.mono ?_
      rintro e w1 ⟨rfl, hb⟩
      have HB1 := hide hb
      clear hb
      go_wp2_with fail
      refine (FW2.out w1 HB1.out).mono ?_
      rintro e w2 ⟨rfl, rfl⟩
      go_wp2_with fail
      refine (VH2.out w1 HB1.out).mono ?_
      rintro e w3 ⟨rfl, hb⟩
      have HB3 := hide (HB1.out.trans (hb.mono HB1.out.size))
      clear hb
      go_wp2
      go_ret
      exact ⟨rfl, HB3.out⟩
    | true =>
      have VH' := VH.out
      rw [hvd] at VH'
      have VH2 := hide VH'
      have hvn := validH_nil hvd
      have g := validH_decl hvd
      have HI := hide hI
      have PA := hide (fun (i : Nat) (hi : i < scs.length) W (hb : Below w.heap.size w W) => Path_any cap (i : Int) (hI.toS.below hb) (by omega))
      have DE := hide (fun (i : Nat) (hi : i < scs.length) W (hb : Below w.heap.size w W) => Depth_any cap (i : Int) (hI.toS.below hb) (by omega))
      have FI := hide (fun (i : Nat) (hi : i < scs.length) W (hb : Below w.heap.size w W) (B : Option Addr) (c : Nat) (hp : Sl Value.string W B (PathOf scs (i : Int))) => show Calls Try.prog 14 #[.slice A scs.length cap, .slice B (PathOf scs (i : Int)).length c] W fun e w' => e = .returned (.tuple #[.int .i64 (i : Int), .int .i64 0]) ∧ Below W.heap.size W w' from by
        have := Find_any cap c (PathOf scs (i : Int)) (hI.toS.below hb) hp (by have := PathOf_len scs (i : Int); omega)
        rw [find_path hvn hi] at this
        exact this)
      have FU := hide (fun (v : Va) W (hb : Below w.heap.size w W) => Full_any cap v (hI.toS.below hb) (by omega))
      have LK := hide (fun (v : Va) W (hb : Below w.heap.size w W) (B : Option Addr) (c : Nat) (hp : Sl Value.string W B (FullOf scs v)) => Lookup_any cap cap' c (FullOf scs v) (hI.below hb) (by omega) hp (by have := FullOf_len scs v; omega))
      have LM := hide (fun (v : Va) (h1 : -1 ≤ v.scope) (h2 : v.scope < scs.length) => look_mem hvd h1 h2)
      have LL := hide (fun p => LookOf_len scs vs p)
      have GD := hide g.declV
      have hPL := fun i : Int => PathOf_len scs i
      have HPL := hide hPL
      have HFL := hide (fun v => FullOf_len scs v)
      have HVS := hide hv.s
      obtain ⟨n, hn⟩ : ∃ n, scs.length = n := ⟨_, rfl⟩
      obtain ⟨m, hm⟩ : ∃ m, vs.length = m := ⟨_, rfl⟩
      have VH3 := VH2.out
      have FW3 := FW2.out
      have PA' := PA.out
      have DE' := DE.out
      have FI' := FI.out
      have FU' := FU.out
      have LK' := LK.out
      have GD' := GD.out
      have LM' := LM.out
      have LL' := LL.out
      have HPL' := HPL.out
      have HFL' := HFL.out
      rw [hn] at VH3 FW3 PA' DE' FI' FU' LK' GD' LM' HPL' HFL' hsl
      rw [hm] at VH3 FW3 LK' LL' hvl
      rw [hn, hm]
      have VH4 := hide VH3
      have FW4 := hide FW3
      have PA2 := hide PA'
      have DE2 := hide DE'
      have FI2 := hide FI'
      have FU2 := hide FU'
      have LK2 := hide LK'
      have GD2 := hide GD'
      have LM2 := hide LM'
      have LL2 := hide LL'
      have HPL2 := hide HPL'
      have HFL2 := hide HFL'
      have Hm := hide hm
      clear hn0 hm0 FW FW' FW2 FW3 hs hv hf hI VH VH' VH2 VH3 hvd hvn g PA PA' DE DE' FI FI' FU FU' LK LK' GD GD' LM LM' LL LL' hPL HPL HPL' HFL HFL' hn hm
      go_enter Try.func5, Try.ntmps5
      go_wp2_with fail
      refine AW.out.mono ?_
      rintro e w1 ⟨rfl, hb⟩
      have HB1 := hide hb
      clear hb
      go_wp2_with fail
      refine (FW4.out w1 HB1.out).mono ?_
      rintro e w2 ⟨rfl, rfl⟩
      go_wp2_with fail
      refine (VH4.out w1 HB1.out).mono ?_
      rintro e w3 ⟨rfl, hb⟩
      have HB3 := hide (HB1.out.trans (hb.mono HB1.out.size))
      clear hb
      go_wp2_with fail
      go_loopw [28] (fun v wr => ∃ i : Nat, v = .int .i64 (i : Int) ∧ i ≤ n ∧ Hid (Below w.heap.size w wr)) (fun v _ => n - (intOf v).toNat)
      case atStart => exact ⟨0, rfl, Nat.zero_le _, HB3⟩
      case round =>
        obtain ⟨i, rfl, hi, HB⟩ := hrel
        by_cases hlt : i < n
        · have hi' : (i : Int) < (n : Int) := by omega
          have hw1 : IntKind.i64.wrap ((i : Int) + 1) = (i : Int) + 1 := IntWalk.i64_in _ (by omega)
          have PP := hide (PA2.out i hlt)
          have DD := hide (DE2.out i hlt)
          have FF := hide (FI2.out i hlt)
          generalize PathOf scs (i : Int) = P at *
          have hii : ((i : Int) == (i : Int)) = true := beq_self_eq_true _
          have hpp : ((P.length : Int) == (P.length : Int)) = true := beq_self_eq_true _
          go_wp2_with fail
          refine (PP.out wr HB.out).mono ?_
          rintro e w5 ⟨v5, rfl, ho5, hb5⟩
          obtain ⟨A5, c5, rfl⟩ := ownH_sl ho5
          have HB5 := hide (HB.out.trans (hb5.mono HB.out.size))
          have HS5 := hide (show Sl Value.string w5 A5 P from by obtain ⟨A9, c9, e9, h9, _⟩ := Sl_own ho5 rfl; cases e9; exact h9)
          clear ho5 hb5
          go_wp2_with fail
          refine (FF.out w5 HB5.out A5 c5 HS5.out).mono ?_
          rintro e w6 ⟨rfl, hb6⟩
          have HB6 := hide (HB5.out.trans (hb6.mono HB5.out.size))
          clear hb6
          go_wp2_with fail
          refine (DD.out w6 HB6.out).mono ?_
          rintro e w7 ⟨rfl, hb7⟩
          have HB7 := hide (HB6.out.trans (hb7.mono HB6.out.size))
          clear hb7
          go_wp2_with fail
          refine (PP.out w7 HB7.out).mono ?_
          rintro e w8 ⟨v8, rfl, ho8, hb8⟩
          obtain ⟨A8, c8, rfl⟩ := ownH_sl ho8
          have HB8 := hide (HB7.out.trans (hb8.mono HB7.out.size))
          clear ho8 hb8
          go_wp2
          go_roundw
          case rel => exact ⟨i + 1, by go_num, by omega, HB8⟩
          case measure => simp [intOf]; omega
        · obtain rfl : i = n := by omega
          have hi' : ¬ (i : Int) < (i : Int) := by omega
          go_wp2_with fail
          go_loopw [59] (fun v wr => ∃ k : Nat, v = .int .i64 (k : Int) ∧ k ≤ m ∧ Hid (Below w.heap.size w wr)) (fun v _ => m - (intOf v).toNat)
          case atStart => exact ⟨0, rfl, Nat.zero_le _, HB⟩
          case round =>
            obtain ⟨k, rfl, hk, HB⟩ := hrel
            obtain ⟨W3, hW3⟩ : ∃ W3, W3 = wr := ⟨_, rfl⟩
            subst hW3
            by_cases hlt2 : k < m
            · have hk' : (k : Int) < (m : Int) := by omega
              have hk0 : (0 : Int) ≤ (k : Int) := by omega
              have hw1 : IntKind.i64.wrap ((k : Int) + 1) = (k : Int) + 1 := IntWalk.i64_in _ (by omega)
              have hix : k < vs.length := by rw [Hm.out]; exact hlt2
              have hgd := GD2.out _ (List.getElem_mem hix)
              have LMk := hide (LM2.out vs[k] hgd.1 hgd.2.1)
              have FUk := hide (FU2.out vs[k])
              have LKk := hide (LK2.out vs[k])
              have LLk := hide (LL2.out (FullOf scs vs[k]))
              obtain ⟨b, off, rfl, hbz, hat⟩ := va_at HVS.out hix
              obtain ⟨c0, c1, c2, c3, c4, c5, c6⟩ := hat W3 HB.out
              have HXE := hide (show vs[k]? = some vs[k] from List.getElem?_eq_getElem hix)
              generalize vs[k]'hix = x at *
              obtain ⟨F, hF⟩ : ∃ F, FullOf scs x = F := ⟨_, rfl⟩
              obtain ⟨L, hL⟩ : ∃ L, LookOf scs vs F = L := ⟨_, rfl⟩
              rw [hF, hL] at LMk
              rw [hF] at FUk
              rw [hF, hL] at LKk LLk
              have hcon : L.contains (k : Int) = true := by
                rw [List.contains_iff_mem]
                exact (LMk.out (k : Int)).2 ⟨k, hix, rfl, by have := HXE.out; rw [List.getElem?_eq_getElem hix] at this; rw [Option.some.inj this], by have := HXE.out; rw [List.getElem?_eq_getElem hix] at this; rw [Option.some.inj this]⟩
              have HCO := hide hcon
              have hLl := LLk.out
              have hrow := hide (show Row (W3.alloc (.cells #[.string x.name, .int .i64 x.typ, .int .i64 x.scope, .int .i64 x.signal, .bool x.ranged, .int .i64 x.msb, .int .i64 x.lsb] 29)) W3.heap.size 29 #[.string x.name, .int .i64 x.typ, .int .i64 x.scope, .int .i64 x.signal, .bool x.ranged, .int .i64 x.msb, .int .i64 x.lsb] from Row.new _ _ _)
              have HBA := hide (HB.out.alloc HB.out.size (.cells #[.string x.name, .int .i64 x.typ, .int .i64 x.scope, .int .i64 x.signal, .bool x.ranged, .int .i64 x.msb, .int .i64 x.lsb] 29))
              have FUx := hide (FUk.out _ HBA.out)
              obtain ⟨nm, ty, sc, sg, rg, msb, lsb⟩ := x
              unfold vaV at FUx
              simp only at c0 c1 c2 c3 c4 c5 c6 hrow HBA LMk FUx
              clear hat hF hL hcon hgd FUk
              go_wp2_with fail
              refine FUx.out.mono ?_
              rintro e w5 ⟨v5, rfl, ho5, hb5⟩
              obtain ⟨A5, cp5, rfl⟩ := ownH_sl ho5
              have HB5 := hide (HBA.out.trans (hb5.mono HBA.out.size))
              have HR5 := hide (hrow.out.below hb5 hrow.out.lt)
              have HS5 := hide (show Sl Value.string w5 A5 F from by obtain ⟨A9, c9, e9, h9, _⟩ := Sl_own ho5 rfl; cases e9; exact h9)
              clear ho5 hb5
              go_wp2_with fail
              have LKx := hide (LKk.out w5 HB5.out A5 cp5)
              refine (LKx.out HS5.out).mono ?_
              rintro e w6 ⟨v6, rfl, ho6, hb6⟩
              obtain ⟨A6, cp6, rfl⟩ := ownH_sl ho6
              have HB6 := hide (HB5.out.trans (hb6.mono HB5.out.size))
              have HR6 := hide (HR5.out.below hb6 HR5.out.lt)
              have HS6 := hide (show Sl intV w6 A6 L from by obtain ⟨A9, c9, e9, h9, _⟩ := Sl_own ho6 rfl; cases e9; exact h9)
              clear ho6 hb6
              have CO := hide (Contains_any A6 L.length cp6 L (k : Int) w6 rfl (by omega) HS6.out)
              have CO' := CO.out
              rw [HCO.out] at CO'
              have CO2 := hide CO'
              clear CO CO'
              go_wp2_with fail
              refine CO2.out.mono ?_
              rintro e w7 ⟨rfl, rfl⟩
              go_wp2_with fail
              go_loopw [77] (fun v wr2 => ∃ j : Nat, v = .int .i64 (j : Int) ∧ j ≤ L.length ∧ Hid (Below w6.heap.size w6 wr2)) (fun v _ => L.length - (intOf v).toNat)
              case atStart => exact ⟨0, rfl, Nat.zero_le _, hide (Below.refl _ _)⟩
              case round =>
                obtain ⟨j, rfl, hj, HB9⟩ := hrel
                by_cases hlt3 : j < L.length
                · have hj' : (j : Int) < (L.length : Int) := by omega
                  have hj0 : (0 : Int) ≤ (j : Int) := by omega
                  have hw2 : IntKind.i64.wrap ((j : Int) + 1) = (j : Int) + 1 := IntWalk.i64_in _ (by omega)
                  obtain ⟨b6, o6, rfl, hb6z, hat6⟩ := Sl.at HS6.out hlt3
                  have d0 := hat6 wr HB9.out
                  have HR9 := hide (HR6.out.below HB9.out HR6.out.lt)
                  obtain ⟨q, hq, hqe, hqs, hqn⟩ := (LMk.out L[j]).1 (List.getElem_mem hlt3)
                  have d0' : wr.cell? ⟨b6, o6 + j, none⟩ = some (.int .i64 (q : Int)) := by rw [d0, hqe]; rfl
                  obtain ⟨bq, oq, heq, hbqz, hatq⟩ := va_at HVS.out hq
                  cases heq
                  obtain ⟨e0, _, e2, _⟩ := hatq wr (HB6.out.trans (HB9.out.mono HB6.out.size))
                  rw [hqs] at e2
                  rw [hqn] at e0
                  have f0 : wr.cell? ⟨W3.heap.size, 0, none⟩ = some (.string nm) := HR9.out.cell 0
                  have f2 : wr.cell? ⟨W3.heap.size, 2, none⟩ = some (.int .i64 sc) := HR9.out.cell 2
                  have hqm : (q : Int) < (m : Int) := by have := Hm.out; omega
                  have hq0 : (0 : Int) ≤ (q : Int) := by omega
                  have hq1 : ¬ (q : Int) < 0 := by omega
                  have hq2 : ¬ (m : Int) ≤ (q : Int) := by omega
                  have hq3 : ¬ m ≤ q := by omega
                  have hq4 : decide ((m : Int) ≤ (q : Int)) = false := decide_eq_false hq2
                  have hq5 : decide (m ≤ q) = false := decide_eq_false hq3
                  have hq6 : decide ((q : Int) < 0) = false := decide_eq_false hq1
                  clear hat6 d0 hatq hqe hqs hqn
                  go_wp2_with fail
                  go_region_held3 (fun w' => w'.cell? ⟨b, off + q * 7, none⟩ = some (.string nm) ∧ w'.cell? ⟨b, off + q * 7 + 2, none⟩ = some (.int .i64 sc) ∧ w'.cell? ⟨W3.heap.size, 0, none⟩ = some (.string nm) ∧ w'.cell? ⟨W3.heap.size, 2, none⟩ = some (.int .i64 sc)) (go_keep) (fail)
                  go_wp2
                  go_roundw
                  case rel => exact ⟨j + 1, by go_num, by omega, hide HB9.out.drew⟩
                  case measure => simp [intOf]; omega
                · obtain rfl : j = L.length := by omega
                  have hj' : ¬ (L.length : Int) < (L.length : Int) := by omega
                  go_wp2
                  go_roundw
                  case rel => exact ⟨k + 1, by go_num, by omega, hide (HB6.out.trans (HB9.out.mono HB6.out.size))⟩
                  case measure => simp [intOf]; omega
            · obtain rfl : k = m := by omega
              have hk' : ¬ (k : Int) < (k : Int) := by omega
              go_wp2
              go_ret
              exact ⟨rfl, HB.out⟩
end Go.Proofs.Ytpfiofgchkfkhaa
