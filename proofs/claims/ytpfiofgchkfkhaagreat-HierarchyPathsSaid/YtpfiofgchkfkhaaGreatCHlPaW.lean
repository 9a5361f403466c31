/- The walk of HierarchyPaths. -/
import Derived.Test.YtpfiofgchkfkhaaGreatCHlD
import Derived.Test.YtpfiofgchkfkhaaGreatMgL
import Derived.Test.YtpfiofgchkfkhaaGreatMgK
import Derived.Test.YtpfiofgchkfkhaaGreatMgP
set_option linter.unusedVariables false
set_option linter.unusedSimpArgs false
namespace Go.Proofs.YtpfiofgchkfkhaaGreat
open Go.RowKit Go.Shelf Go.Maps
theorem Few_12_60H (A : Option Addr) (n cap : Nat) (L : List ByteArray) (w : World) (hn : n = L.length) (hl : L.length ≤ maxLen) (hw : Sl Value.string w A L) :
    Calls Tryz.prog 13 #[.slice A n cap, .int .i64 12, .int .i64 60] w fun e w' => e = .returned (.bool (fewB 12 60 L)) ∧ w' = w := Few_any 12 60 A n cap L w hn hl hw
theorem fewB_len {n z : Nat} {L : List ByteArray} (h : fewB n z L = true) : L.length ≤ n := by
  unfold fewB at h
  simp only [Bool.and_eq_true, decide_eq_true_eq] at h
  first | exact h.1 | exact h.2 | omega
set_option maxRecDepth 20000 in
set_option maxHeartbeats 16000000 in
theorem paths_walk (A : Option Addr) (n cap : Nat) (scs : List Sc) (i : Int) (x : Va) (A3 : Option Addr) (m cap3 : Nat) (path : List ByteArray) (w : World) (hn : scs.length = n) (hn0 : n ≤ maxLen) (hs : InScs w A scs) (hx : VaOk x) (hm : path.length = m) (hm0 : m ≤ maxLen) (hp : Sl Value.string w A3 path) (hg : Gm w) :
    Calls Tryz.prog 4 #[.slice A n cap, .int .i64 i, vaV x, .slice A3 m cap3] w fun e w' => e = .returned (.bool true) ∧ Below w.heap.size w w' := by
  subst hn; subst hm
  have AW := hide (fun (W : World) (hb : Below w.heap.size w W) => awake_hi W (hg.below hb))
  have HR := hide (Row.new w 33 #[.string x.name, .int .i64 x.typ, .int .i64 x.scope, .int .i64 x.signal, .bool x.ranged, .int .i64 x.msb, .int .i64 x.lsb])
  have HB0 := hide ((Below.refl w.heap.size w).alloc (Nat.le_refl _) (.cells #[.string x.name, .int .i64 x.typ, .int .i64 x.scope, .int .i64 x.signal, .bool x.ranged, .int .i64 x.msb, .int .i64 x.lsb] 33))
  have FW := hide (fun (W : World) (hb : Below w.heap.size w W) => show Calls Tryz.prog 6 #[.slice A scs.length cap, .slice (some ⟨W.heap.size, 0, none⟩) 1 1] (W.alloc (.cells #[.string x.name, .int .i64 x.typ, .int .i64 x.scope, .int .i64 x.signal, .bool x.ranged, .int .i64 x.msb, .int .i64 x.lsb] 33)) fun e w' => e = .returned (.bool (fewHB scs [x])) ∧ (W.alloc (.cells #[.string x.name, .int .i64 x.typ, .int .i64 x.scope, .int .i64 x.signal, .bool x.ranged, .int .i64 x.msb, .int .i64 x.lsb] 33)) = w' from
    FewH_any (vs := [x]) (A' := some ⟨W.heap.size, 0, none⟩) cap 1 (sc_below hs.s (hb.alloc hb.size _)) (FlS.new (t := 33) vaE_len (Row.new W _ _)) hn0 (by show 1 ≤ maxLen; unfold maxLen; omega) (fun y hy => (hs.ok y hy).name) (fun v hv' => by obtain rfl := List.mem_singleton.1 hv'; exact hx.name))
  have FP := hide (fun (W : World) (hb : Below w.heap.size w W) => Few_12_60H A3 path.length cap3 path W rfl hm0 (hp.below hb))
  have HFP := hide (@fewB_len 12 60 path)
  have hFS : fewHB scs [x] = true → scs.length ≤ 40 ∧ InS w scs A := fun h => by
    obtain ⟨h1, _, h3, _⟩ := few_spec h
    exact ⟨h3, hs.s, by omega, hs.ok, fun y hy => Nat.le_trans (h1 y hy) (by decide), hs.a⟩
  have HFS := hide hFS
  have HP := hide hp
  have CON := hide (fun (h : InS w scs A) (hl : scs.length ≤ 40) (hpl : path.length ≤ 12) (W : World) (hb : Below w.heap.size w W) =>
    (And.intro (Find_any (A' := A3) cap cap3 path (h.below hb) (hp.below hb) (by omega)) (And.intro (refFind_any (A' := A3) cap cap3 path (h.below hb) (by omega) (hp.below hb) (by omega)) (And.intro (Depth_any cap i (h.below hb) (by omega)) (And.intro (refDepth_any cap i (h.below hb) (by omega)) (And.intro (Path_any cap i (h.below hb) (by omega)) (And.intro (refNames_any cap i (h.below hb) (by omega)) (And.intro (Full_any cap x (h.below hb) (by omega)) (refFull_any cap x (h.below hb) (by omega))))))))))
  have PL := hide (fun (hl : scs.length ≤ 40) => (show (PathOf scs i).length ≤ 1099511627776 ∧ (FullOf scs x).length ≤ 1099511627776 from ⟨by have := PathOf_len scs i; omega, by have := FullOf_len scs x; omega⟩))
  generalize PathOf scs i = P at *
  generalize FullOf scs x = F at *
  generalize findH scs path = fh at *
  obtain ⟨f1, f2⟩ := fh
  generalize fewHB scs [x] = fb at *
  generalize fewB 12 60 path = gb at *
  generalize scs.length = n at *
  generalize path.length = m at *
  obtain ⟨nm, ty, sc, sg, rg, msb, lsb⟩ := x
  unfold vaV at *
  simp only at HR HB0 FW CON
  have AW2 := hide (AW.out _ HB0.out)
  clear hs hx hp hg hFS AW
  go_enter Tryz.func4, Tryz.ntmps4
  go_wp2_with fail
  refine AW2.out.mono ?_
  rintro e w1 ⟨rfl, hb⟩
  have HB1 := hide (HB0.out.trans (hb.mono HB0.out.size))
  have HR1 := hide (HR.out.below hb HR.out.lt)
  clear hb
  have d0 : w1.cell? ⟨w.heap.size, 0, none⟩ = some (.string nm) := HR1.out.cell 0
  have d1 : w1.cell? ⟨w.heap.size, 1, none⟩ = some (.int .i64 ty) := HR1.out.cell 1
  have d2 : w1.cell? ⟨w.heap.size, 2, none⟩ = some (.int .i64 sc) := HR1.out.cell 2
  have d3 : w1.cell? ⟨w.heap.size, 3, none⟩ = some (.int .i64 sg) := HR1.out.cell 3
  have d4 : w1.cell? ⟨w.heap.size, 4, none⟩ = some (.bool rg) := HR1.out.cell 4
  have d5 : w1.cell? ⟨w.heap.size, 5, none⟩ = some (.int .i64 msb) := HR1.out.cell 5
  have d6 : w1.cell? ⟨w.heap.size, 6, none⟩ = some (.int .i64 lsb) := HR1.out.cell 6
  have FW1 := hide (FW.out w1 HB1.out)
  have HB2 := hide (HB1.out.alloc HB1.out.size (.cells #[.string nm, .int .i64 ty, .int .i64 sc, .int .i64 sg, .bool rg, .int .i64 msb, .int .i64 lsb] 33))
  have HR2 := hide (HR1.out.alloc (.cells #[.string nm, .int .i64 ty, .int .i64 sc, .int .i64 sg, .bool rg, .int .i64 msb, .int .i64 lsb] 33))
  go_wp2_with fail
  refine FW1.out.mono ?_
  rintro e w2 ⟨rfl, rfl⟩
  clear d0 d1 d2 d3 d4 d5 d6
  cases fb with
  | false =>
    go_wp2
    any_goals first | (rename_i hu hb; exact (undef_bool hu).elim) | skip
    go_ret
    exact ⟨rfl, HB2.out⟩
  | true =>
    obtain ⟨hl40, hIS⟩ := HFS.out rfl
    have HIS := hide hIS
    clear hIS
    have FP2 := hide (FP.out _ HB2.out)
    go_wp2_with fail
    refine FP2.out.mono ?_
    rintro e w3 ⟨rfl, rfl⟩
    cases gb with
    | false =>
      go_wp2
      go_ret
      exact ⟨rfl, HB2.out⟩
    | true =>
      have hm12 : m ≤ 12 := by have := HFP.out rfl; omega
      have CN := hide (CON.out HIS.out hl40 hm12)
      have HPL := hide (PL.out hl40)
      go_wp2_with fail
      refine (CN.out _ HB2.out).1.mono ?_
      rintro e w4 ⟨rfl, hb⟩
      have HB4 := hide (HB2.out.trans (hb.mono HB2.out.size))
      have HR4 := hide (HR2.out.below hb HR2.out.lt)
      clear hb
      go_wp2_with fail
      refine (CN.out w4 HB4.out).2.1.mono ?_
      rintro e w5 ⟨rfl, hb⟩
      have HB5 := hide (HB4.out.trans (hb.mono HB4.out.size))
      have HR5 := hide (HR4.out.below hb HR4.out.lt)
      clear hb
      have k5_0 : w5.cell? ⟨w.heap.size, 0, none⟩ = some (.string nm) := HR5.out.cell 0
      have k5_1 : w5.cell? ⟨w.heap.size, 1, none⟩ = some (.int .i64 ty) := HR5.out.cell 1
      have k5_2 : w5.cell? ⟨w.heap.size, 2, none⟩ = some (.int .i64 sc) := HR5.out.cell 2
      have k5_3 : w5.cell? ⟨w.heap.size, 3, none⟩ = some (.int .i64 sg) := HR5.out.cell 3
      have k5_4 : w5.cell? ⟨w.heap.size, 4, none⟩ = some (.bool rg) := HR5.out.cell 4
      have k5_5 : w5.cell? ⟨w.heap.size, 5, none⟩ = some (.int .i64 msb) := HR5.out.cell 5
      have k5_6 : w5.cell? ⟨w.heap.size, 6, none⟩ = some (.int .i64 lsb) := HR5.out.cell 6
      have q1 : (f1 == f1) = true := beq_self_eq_true _
      have q2 : (f2 == f2) = true := beq_self_eq_true _
      have q3 : ((P.length : Int) == (P.length : Int)) = true := beq_self_eq_true _
      have mixed := mixedH
      go_wp2_with fail
      go_region_held3 (fun w' => w'.cell? ⟨w.heap.size, 0, none⟩ = some (.string nm) ∧ w'.cell? ⟨w.heap.size, 1, none⟩ = some (.int .i64 ty) ∧ w'.cell? ⟨w.heap.size, 2, none⟩ = some (.int .i64 sc) ∧ w'.cell? ⟨w.heap.size, 3, none⟩ = some (.int .i64 sg) ∧ w'.cell? ⟨w.heap.size, 4, none⟩ = some (.bool rg) ∧ w'.cell? ⟨w.heap.size, 5, none⟩ = some (.int .i64 msb) ∧ w'.cell? ⟨w.heap.size, 6, none⟩ = some (.int .i64 lsb)) (go_keep) (first
        | (go_at_call 16; refine ((CN.out w5.drew HB5.out.drew).2.2.1).mono ?_; rintro e w6 ⟨rfl, hb⟩; have HB6 := hide (HB5.out.drew.trans (hb.mono HB5.out.size)); have HR6 := hide (HR5.out.drew.below hb HR5.out.lt); have kw6_0 : w6.cell? ⟨w.heap.size, 0, none⟩ = some (.string nm) := HR6.out.cell 0; have kw6_1 : w6.cell? ⟨w.heap.size, 1, none⟩ = some (.int .i64 ty) := HR6.out.cell 1; have kw6_2 : w6.cell? ⟨w.heap.size, 2, none⟩ = some (.int .i64 sc) := HR6.out.cell 2; have kw6_3 : w6.cell? ⟨w.heap.size, 3, none⟩ = some (.int .i64 sg) := HR6.out.cell 3; have kw6_4 : w6.cell? ⟨w.heap.size, 4, none⟩ = some (.bool rg) := HR6.out.cell 4; have kw6_5 : w6.cell? ⟨w.heap.size, 5, none⟩ = some (.int .i64 msb) := HR6.out.cell 5; have kw6_6 : w6.cell? ⟨w.heap.size, 6, none⟩ = some (.int .i64 lsb) := HR6.out.cell 6;  clear hb; clear k5_0 k5_1 k5_2 k5_3 k5_4 k5_5 k5_6 HR5)
        | (go_at_call 17; refine ((CN.out w6 HB6.out).2.2.2.1).mono ?_; rintro e w7 ⟨rfl, hb⟩; have HB7 := hide (HB6.out.trans (hb.mono HB6.out.size)); have HR7 := hide (HR6.out.below hb HR6.out.lt); have kw7_0 : w7.cell? ⟨w.heap.size, 0, none⟩ = some (.string nm) := HR7.out.cell 0; have kw7_1 : w7.cell? ⟨w.heap.size, 1, none⟩ = some (.int .i64 ty) := HR7.out.cell 1; have kw7_2 : w7.cell? ⟨w.heap.size, 2, none⟩ = some (.int .i64 sc) := HR7.out.cell 2; have kw7_3 : w7.cell? ⟨w.heap.size, 3, none⟩ = some (.int .i64 sg) := HR7.out.cell 3; have kw7_4 : w7.cell? ⟨w.heap.size, 4, none⟩ = some (.bool rg) := HR7.out.cell 4; have kw7_5 : w7.cell? ⟨w.heap.size, 5, none⟩ = some (.int .i64 msb) := HR7.out.cell 5; have kw7_6 : w7.cell? ⟨w.heap.size, 6, none⟩ = some (.int .i64 lsb) := HR7.out.cell 6;  clear hb; clear kw6_0 kw6_1 kw6_2 kw6_3 kw6_4 kw6_5 kw6_6 HR6)
        | (go_at_call 19; refine ((CN.out w7 HB7.out).2.2.2.2.1).mono ?_; rintro e w8 ⟨v8, rfl, ho, hb⟩; have HB8 := hide (HB7.out.trans (hb.mono HB7.out.size)); have HR8 := hide (HR7.out.below hb HR7.out.lt); have kw8_0 : w8.cell? ⟨w.heap.size, 0, none⟩ = some (.string nm) := HR8.out.cell 0; have kw8_1 : w8.cell? ⟨w.heap.size, 1, none⟩ = some (.int .i64 ty) := HR8.out.cell 1; have kw8_2 : w8.cell? ⟨w.heap.size, 2, none⟩ = some (.int .i64 sc) := HR8.out.cell 2; have kw8_3 : w8.cell? ⟨w.heap.size, 3, none⟩ = some (.int .i64 sg) := HR8.out.cell 3; have kw8_4 : w8.cell? ⟨w.heap.size, 4, none⟩ = some (.bool rg) := HR8.out.cell 4; have kw8_5 : w8.cell? ⟨w.heap.size, 5, none⟩ = some (.int .i64 msb) := HR8.out.cell 5; have kw8_6 : w8.cell? ⟨w.heap.size, 6, none⟩ = some (.int .i64 lsb) := HR8.out.cell 6; obtain ⟨A8, c8, rfl⟩ := ownH_sl ho; have HS8 := hide (show Sl Value.string w8 A8 P from (by obtain ⟨A9, c9, e9, h9, _⟩ := Sl_own ho rfl; cases e9; exact h9)); clear ho; clear hb; clear kw7_0 kw7_1 kw7_2 kw7_3 kw7_4 kw7_5 kw7_6 HR7)
        | (go_at_call 20; refine ((CN.out w8 HB8.out).2.2.2.2.2.1).mono ?_; rintro e w9 ⟨B9, c9, rfl, hs9, hb⟩; have HB9 := hide (HB8.out.trans (hb.mono HB8.out.size)); have HR9 := hide (HR8.out.below hb HR8.out.lt); have kw9_0 : w9.cell? ⟨w.heap.size, 0, none⟩ = some (.string nm) := HR9.out.cell 0; have kw9_1 : w9.cell? ⟨w.heap.size, 1, none⟩ = some (.int .i64 ty) := HR9.out.cell 1; have kw9_2 : w9.cell? ⟨w.heap.size, 2, none⟩ = some (.int .i64 sc) := HR9.out.cell 2; have kw9_3 : w9.cell? ⟨w.heap.size, 3, none⟩ = some (.int .i64 sg) := HR9.out.cell 3; have kw9_4 : w9.cell? ⟨w.heap.size, 4, none⟩ = some (.bool rg) := HR9.out.cell 4; have kw9_5 : w9.cell? ⟨w.heap.size, 5, none⟩ = some (.int .i64 msb) := HR9.out.cell 5; have kw9_6 : w9.cell? ⟨w.heap.size, 6, none⟩ = some (.int .i64 lsb) := HR9.out.cell 6; have HS9 := hide hs9; have HS8b := hide (HS8.out.below hb); clear hs9; clear hb; clear kw8_0 kw8_1 kw8_2 kw8_3 kw8_4 kw8_5 kw8_6 HR8)
        | (go_at_call 18; (with_reducible refine (Texts_eq A8 B9 P.length P.length c8 c9 P w9 rfl rfl HPL.out.1 HS8b.out HS9.out).mono ?_); rintro e w10 ⟨rfl, hb⟩; have HB10 := hide (HB9.out.trans (hb.mono HB9.out.size)); have HR10 := hide (HR9.out.below hb HR9.out.lt); have kw10_0 : w10.cell? ⟨w.heap.size, 0, none⟩ = some (.string nm) := HR10.out.cell 0; have kw10_1 : w10.cell? ⟨w.heap.size, 1, none⟩ = some (.int .i64 ty) := HR10.out.cell 1; have kw10_2 : w10.cell? ⟨w.heap.size, 2, none⟩ = some (.int .i64 sc) := HR10.out.cell 2; have kw10_3 : w10.cell? ⟨w.heap.size, 3, none⟩ = some (.int .i64 sg) := HR10.out.cell 3; have kw10_4 : w10.cell? ⟨w.heap.size, 4, none⟩ = some (.bool rg) := HR10.out.cell 4; have kw10_5 : w10.cell? ⟨w.heap.size, 5, none⟩ = some (.int .i64 msb) := HR10.out.cell 5; have kw10_6 : w10.cell? ⟨w.heap.size, 6, none⟩ = some (.int .i64 lsb) := HR10.out.cell 6;  clear hb; clear kw9_0 kw9_1 kw9_2 kw9_3 kw9_4 kw9_5 kw9_6 HR9)
        | (go_at_call 21; refine ((CN.out w10 HB10.out).2.2.2.2.2.2.1).mono ?_; rintro e w11 ⟨v11, rfl, ho, hb⟩; have HB11 := hide (HB10.out.trans (hb.mono HB10.out.size)); have HR11 := hide (HR10.out.below hb HR10.out.lt); have kw11_0 : w11.cell? ⟨w.heap.size, 0, none⟩ = some (.string nm) := HR11.out.cell 0; have kw11_1 : w11.cell? ⟨w.heap.size, 1, none⟩ = some (.int .i64 ty) := HR11.out.cell 1; have kw11_2 : w11.cell? ⟨w.heap.size, 2, none⟩ = some (.int .i64 sc) := HR11.out.cell 2; have kw11_3 : w11.cell? ⟨w.heap.size, 3, none⟩ = some (.int .i64 sg) := HR11.out.cell 3; have kw11_4 : w11.cell? ⟨w.heap.size, 4, none⟩ = some (.bool rg) := HR11.out.cell 4; have kw11_5 : w11.cell? ⟨w.heap.size, 5, none⟩ = some (.int .i64 msb) := HR11.out.cell 5; have kw11_6 : w11.cell? ⟨w.heap.size, 6, none⟩ = some (.int .i64 lsb) := HR11.out.cell 6; obtain ⟨A11, c11, rfl⟩ := ownH_sl ho; have HS11 := hide (show Sl Value.string w11 A11 F from (by obtain ⟨A9, c9, e9, h9, _⟩ := Sl_own ho rfl; cases e9; exact h9)); clear ho; clear hb; clear kw10_0 kw10_1 kw10_2 kw10_3 kw10_4 kw10_5 kw10_6 HR10)
        | (go_at_call 22; refine ((CN.out w11 HB11.out).2.2.2.2.2.2.2).mono ?_; rintro e w12 ⟨v12, rfl, ho, hb⟩; have HB12 := hide (HB11.out.trans (hb.mono HB11.out.size)); have HR12 := hide (HR11.out.below hb HR11.out.lt); have kw12_0 : w12.cell? ⟨w.heap.size, 0, none⟩ = some (.string nm) := HR12.out.cell 0; have kw12_1 : w12.cell? ⟨w.heap.size, 1, none⟩ = some (.int .i64 ty) := HR12.out.cell 1; have kw12_2 : w12.cell? ⟨w.heap.size, 2, none⟩ = some (.int .i64 sc) := HR12.out.cell 2; have kw12_3 : w12.cell? ⟨w.heap.size, 3, none⟩ = some (.int .i64 sg) := HR12.out.cell 3; have kw12_4 : w12.cell? ⟨w.heap.size, 4, none⟩ = some (.bool rg) := HR12.out.cell 4; have kw12_5 : w12.cell? ⟨w.heap.size, 5, none⟩ = some (.int .i64 msb) := HR12.out.cell 5; have kw12_6 : w12.cell? ⟨w.heap.size, 6, none⟩ = some (.int .i64 lsb) := HR12.out.cell 6; obtain ⟨A12, c12, rfl⟩ := ownH_sl ho; have HS12 := hide (show Sl Value.string w12 A12 F from (by obtain ⟨A9, c9, e9, h9, _⟩ := Sl_own ho rfl; cases e9; exact h9)); have HS11b := hide (HS11.out.below hb); clear ho; clear hb; clear kw11_0 kw11_1 kw11_2 kw11_3 kw11_4 kw11_5 kw11_6 HR11)
        | (go_at_call 18; (with_reducible refine (Texts_eq A11 A12 F.length F.length c11 c12 F w12 rfl rfl HPL.out.2 HS11b.out HS12.out).mono ?_); rintro e w13 ⟨rfl, hb⟩; have HB13 := hide (HB12.out.trans (hb.mono HB12.out.size)); have HR13 := hide (HR12.out.below hb HR12.out.lt); have kw13_0 : w13.cell? ⟨w.heap.size, 0, none⟩ = some (.string nm) := HR13.out.cell 0; have kw13_1 : w13.cell? ⟨w.heap.size, 1, none⟩ = some (.int .i64 ty) := HR13.out.cell 1; have kw13_2 : w13.cell? ⟨w.heap.size, 2, none⟩ = some (.int .i64 sc) := HR13.out.cell 2; have kw13_3 : w13.cell? ⟨w.heap.size, 3, none⟩ = some (.int .i64 sg) := HR13.out.cell 3; have kw13_4 : w13.cell? ⟨w.heap.size, 4, none⟩ = some (.bool rg) := HR13.out.cell 4; have kw13_5 : w13.cell? ⟨w.heap.size, 5, none⟩ = some (.int .i64 msb) := HR13.out.cell 5; have kw13_6 : w13.cell? ⟨w.heap.size, 6, none⟩ = some (.int .i64 lsb) := HR13.out.cell 6;  clear hb; clear kw12_0 kw12_1 kw12_2 kw12_3 kw12_4 kw12_5 kw12_6 HR12))
      go_wp2
      go_ret
      exact ⟨rfl, HB13.out⟩
end Go.Proofs.YtpfiofgchkfkhaaGreat
