/- The walk of PatternWider. -/
import Derived.Test.YtcjehiecgdmidaaPtPrW
import Derived.Test.YtcjehiecgdmidaaPtX
set_option linter.unusedVariables false
set_option linter.unusedSimpArgs false
namespace Go.Proofs.Ytcjehiecgdmidaa
open Go.RowKit Go.Shelf
theorem catP {P : Program} (a b : List UInt8) (h : a.length + b.length ≤ 70368744177664) (w : World) : (Op.stringOp .add (bsP a) (bsP b)).run P w = .ok (.string (bsP (a ++ b))) w := by
  rw [run_string_add_sum w _ _ (by rw [bsP_size, bsP_size]; omega)]
  congr 2
theorem bsP_take (l : List UInt8) (k : Nat) : (bsP l).extract 0 k = bsP (l.take k) := by
  apply Go.WideShapes.bytes_inj
  rw [Lib.extract_from_zero, bsP_list, bsP_list]
theorem contains_any (s sub : ByteArray) (W : World) (hs : s.size < 4294967281) (hg : Gm W) : Calls Try.prog 15 #[.string s, .string sub] W fun e w' => e = .returned (.bool (Lib.contains s.data.toList sub.data.toList)) ∧ w' = W := by
  obtain ⟨m, hm⟩ := hg
  exact Try.strings_Contains s sub m W hs hm
namespace patternWider
set_option maxRecDepth 20000 in
set_option maxHeartbeats 8000000 in
theorem walk (p : ByteArray) (at0 : Int) (Ap : Option Addr) (len capp : Nat) (L : List ByteArray) (w : World) (hzp : p.size ≤ maxLen) (hat0 : (Lit.int .u8 at0).wf = true) (hn : L.length = len) (hl : len ≤ maxLen) (hw : Sl Value.string w Ap L ∧ (∀ s ∈ L, s.size ≤ maxLen) ∧ len ≤ capp) (hg : Gm w) :
    Calls Try.prog 4 #[.string p, .int .u8 at0, .slice Ap len capp] w fun e w' => e = .returned (.bool true) ∧ Below w.heap.size w w' := by
  subst hn
  have hat : 0 ≤ at0 ∧ at0 ≤ 255 := by
    have h := hat0
    rw [Lit.wf, Bool.and_eq_true, decide_eq_true_eq, decide_eq_true_eq] at h
    exact ⟨h.1, h.2⟩
  clear hat0
  obtain ⟨hsl, _, hcap⟩ := hw
  have AW := hide (awake_pt w hg)
  have G := hide hg
  have Hsl := hide hsl
  have FW := hide (fun (W : World) (h : Sl Value.string W Ap L) => Few_12_60 Ap L.length capp L W rfl hl h)
  clear hsl hg
  by_cases hbig : 200 < p.size
  · have hb' : (200 : Int) < (p.size : Int) := by omega
    go_enter Try.func4, Try.ntmps4
    go_wp2_with fail
    refine AW.out.mono ?_
    rintro e w1 ⟨rfl, hb⟩
    have B1 := hide hb
    clear hb
    go_wp2
    go_ret
    exact ⟨rfl, B1.out⟩
  · have hb' : ¬ (200 : Int) < (p.size : Int) := by omega
    obtain ⟨l, hp⟩ : ∃ l, p = bsP l := ⟨p.data.toList, bsP_of p⟩
    have hsz := bsP_size l
    rw [← hp] at hsz
    have VX := hide (fun (W : World) (h : Gm W) => Valid_pt l W (by omega) h)
    rw [← hp] at VX
    cases hr : readV l with
    | none =>
      rw [hr, show (none : Option (List Pt)).isSome = false from rfl] at VX
      clear hr hp hsz
      go_enter Try.func4, Try.ntmps4
      go_wp2_with fail
      refine AW.out.mono ?_
      rintro e w1 ⟨rfl, hb⟩
      have B1 := hide hb
      clear hb
      go_wp2_with fail
      refine (VX.out _ (G.out.below B1.out)).mono ?_
      rintro e w2 ⟨rfl, hb⟩
      have B2 := hide (B1.out.trans (hb.mono B1.out.size))
      clear hb
      go_wp2
      go_ret
      exact ⟨rfl, B2.out⟩
    | some ps =>
      rw [hr, show (some ps).isSome = true from rfl] at VX
      have hasc := readV_bytes hr
      have CA := hide (fun W : World => Try.strings_ContainsAny (zero_of_info (n := 256) (by kernel_rfl)).1 p ⟨#[91, 92]⟩ W (by omega) (by decide) (by
        intro j b hj
        rw [hp] at hj
        exact hasc b (List.mem_of_getElem? hj)) (by
        intro j b hj
        have : b ∈ ([91, 92] : List UInt8) := List.mem_of_getElem? hj
        simp at this
        rcases this with rfl | rfl <;> decide))
      rw [show (⟨#[91, 92]⟩ : ByteArray).data.toList = [91, 92] from rfl, show p.data.toList = l by rw [hp]; rfl] at CA
      cases hca : Lib.containsAny l [91, 92] with
      | true =>
        rw [hca] at CA
        clear hr hp hsz hca hasc
        go_enter Try.func4, Try.ntmps4
        go_wp2_with fail
        refine AW.out.mono ?_
        rintro e w1 ⟨rfl, hb⟩
        have B1 := hide hb
        clear hb
        go_wp2_with fail
        refine (VX.out _ (G.out.below B1.out)).mono ?_
        rintro e w2 ⟨rfl, hb⟩
        have B2 := hide (B1.out.trans (hb.mono B1.out.size))
        clear hb
        go_wp2_with fail
        refine (CA.out _).mono ?_
        rintro e w3 ⟨rfl, hb⟩
        have B3 := hide (B2.out.trans (hb.mono B2.out.size))
        clear hb
        go_wp2
        go_ret
        exact ⟨rfl, B3.out⟩
      | false =>
        rw [hca] at CA
        cases hf : fewB 12 60 L with
        | false =>
          rw [hf] at FW
          clear hf hr hp hsz hca hasc
          go_enter Try.func4, Try.ntmps4
          go_wp2_with fail
          refine AW.out.mono ?_
          rintro e w1 ⟨rfl, hb⟩
          have B1 := hide hb
          clear hb
          go_wp2_with fail
          refine (VX.out _ (G.out.below B1.out)).mono ?_
          rintro e w2 ⟨rfl, hb⟩
          have B2 := hide (B1.out.trans (hb.mono B1.out.size))
          clear hb
          go_wp2_with fail
          refine (CA.out _).mono ?_
          rintro e w3 ⟨rfl, hb⟩
          have B3 := hide (B2.out.trans (hb.mono B2.out.size))
          clear hb
          go_wp2_with fail
          refine (FW.out _ (Hsl.out.below B3.out)).mono ?_
          rintro e wS ⟨rfl, rfl⟩
          go_wp2
          go_ret
          exact ⟨rfl, B3.out⟩
        | true =>
          rw [hf] at FW
          obtain ⟨f1, f2⟩ := fewB_spec hf
          clear hf
          have hno : ∀ e ∈ l, e ≠ 91 ∧ e ≠ 92 := fun e he => by
            rw [containsAny_eq, List.any_eq_false] at hca
            have := hca e he
            simp at this
            exact this
          have hlpos : 0 < l.length := List.length_pos_iff.2 (readV_some hr).1
          obtain ⟨i, hi⟩ : ∃ i, at0.toNat % l.length = i := ⟨_, rfl⟩
          have hil : i < l.length := by rw [← hi]; exact Nat.mod_lt _ hlpos
          have hcv : IntKind.i64.wrap at0 = at0 := IntWalk.i64_in _ (by omega)
          have hrem : at0.tmod (p.size : Int) = (i : Int) := by
            rw [Int.tmod_eq_emod_of_nonneg hat.1, hsz, ← hi, Int.natCast_emod, Int.toNat_of_nonneg hat.1]
          have hrem2 : at0 % (p.size : Int) = (i : Int) := by rw [← Int.tmod_eq_emod_of_nonneg hat.1]; exact hrem
          have hnz : (p.size : Int) ≠ 0 := by omega
          have hnz2 : ¬ (p.size : Int) = 0 := by omega
          have hi' : (i : Int) < (p.size : Int) := by omega
          have hi0 : (0 : Int) ≤ (i : Int) := by omega
          have hip : i < p.size := by omega
          obtain ⟨c, hc⟩ : ∃ c, l[i] = c := ⟨_, rfl⟩
          have hpc : p[i]'hip = c := by
            have := bsP_get l i (by rw [bsP_size]; exact hil)
            rw [hc] at this
            subst hp; exact this
          obtain ⟨a, ha⟩ : ∃ a, l.take i = a := ⟨_, rfl⟩
          obtain ⟨b, hb⟩ : ∃ b, l.drop (i + 1) = b := ⟨_, rfl⟩
          have hlab : l = a ++ c :: b := by
            rw [← ha, ← hb, ← hc, ← List.drop_eq_getElem_cons hil, List.take_append_drop]
          have x1 : p.extract 0 i = bsP a := by rw [hp, bsP_take, ha]
          have x2 : p.extract (i + 1) p.size = bsP b := by
            have := bsP_drop l (i + 1)
            rw [hb, ← hp] at this; exact this
          have hwi : IntKind.i64.wrap ((i : Int) + 1) = (i : Int) + 1 := IntWalk.i64_in _ (by omega)
          have hi1 : (i : Int) + 1 ≤ (p.size : Int) := by omega
          have hi2 : (i : Int) ≤ (p.size : Int) := by omega
          have hal : a.length + b.length + 1 ≤ 200 := by
            have := congrArg List.length hlab
            rw [List.length_append, List.length_cons] at this; omega
          have MX := hide (fun (W : World) (h : Gm W) (h2 : Sl Value.string W Ap L) => Match_pt l Ap capp L W (by omega) h h2 (by omega) (fun s hs => by have := f2 s hs; omega))
          rw [← hp, show matchV l (bl L) = mP ps (bl L) by unfold matchV; rw [hr]] at MX
          have HX := hide (fun (W : World) => contains_any p ⟨#[42, 42]⟩ W (by omega))
          generalize Lib.contains p.data.toList (⟨#[42, 42]⟩ : ByteArray).data.toList = cp at HX
          by_cases hskip : c = 46 ∨ c = 42
          · have hn1 := hskip
            clear x1 x2 ha hb hlab hp hr hasc hno hca hc MX HX hi hal hsz
            rcases hn1 with rfl | rfl
            · go_enter Try.func4, Try.ntmps4
              go_wp2_with fail
              refine AW.out.mono ?_
              rintro e w1 ⟨rfl, hb⟩
              have B1 := hide hb
              clear hb
              go_wp2_with fail
              refine (VX.out _ (G.out.below B1.out)).mono ?_
              rintro e w2 ⟨rfl, hb⟩
              have B2 := hide (B1.out.trans (hb.mono B1.out.size))
              clear hb
              go_wp2_with fail
              refine (CA.out _).mono ?_
              rintro e w3 ⟨rfl, hb⟩
              have B3 := hide (B2.out.trans (hb.mono B2.out.size))
              clear hb
              go_wp2_with fail
              refine (FW.out _ (Hsl.out.below B3.out)).mono ?_
              rintro e wS ⟨rfl, rfl⟩
              go_wp2
              go_ret
              exact ⟨rfl, B3.out⟩
            · go_enter Try.func4, Try.ntmps4
              go_wp2_with fail
              refine AW.out.mono ?_
              rintro e w1 ⟨rfl, hb⟩
              have B1 := hide hb
              clear hb
              go_wp2_with fail
              refine (VX.out _ (G.out.below B1.out)).mono ?_
              rintro e w2 ⟨rfl, hb⟩
              have B2 := hide (B1.out.trans (hb.mono B1.out.size))
              clear hb
              go_wp2_with fail
              refine (CA.out _).mono ?_
              rintro e w3 ⟨rfl, hb⟩
              have B3 := hide (B2.out.trans (hb.mono B2.out.size))
              clear hb
              go_wp2_with fail
              refine (FW.out _ (Hsl.out.below B3.out)).mono ?_
              rintro e wS ⟨rfl, rfl⟩
              go_wp2
              go_ret
              exact ⟨rfl, B3.out⟩
          · have hsk1 : c ≠ 46 := fun e => hskip (.inl e)
            have hsk2 : c ≠ 42 := fun e => hskip (.inr e)
            have e46 : ((c.toNat : Int) == 46) = false := toNat_ne (d := 46) hsk1
            have e42 : ((c.toNat : Int) == 42) = false := toNat_ne (d := 42) hsk2
            by_cases h63 : c = 63
            · have e63 : ((c.toNat : Int) == 63) = true := by rw [h63]; rfl
              have hwd : widerB c 42 := .inr ⟨h63, rfl⟩
              have y1 : ∀ W : World, (Op.stringOp .add (bsP a) ⟨#[42]⟩).run Try.prog W = .ok (.string (bsP (a ++ [42]))) W := fun W => catP a [42] (by simp; omega) W
              have y2 : ∀ W : World, (Op.stringOp .add (bsP (a ++ [42])) (bsP b)).run Try.prog W = .ok (.string (bsP (a ++ [42] ++ b))) W := fun W => catP (a ++ [42]) b (by simp; omega) W
              obtain ⟨q, hq⟩ : ∃ q, bsP (a ++ [42] ++ b) = q := ⟨_, rfl⟩
              have hql : (a ++ [42] ++ b).length ≤ 200 := by simp; omega
              have hqz : q.size ≤ 1000 := by rw [← hq, bsP_size]; omega
              have VQ := hide (fun (W : World) (h : Gm W) => Valid_pt (a ++ [42] ++ b) W (by omega) h)
              have MQ := hide (fun (W : World) (h : Gm W) (h2 : Sl Value.string W Ap L) => Match_pt (a ++ [42] ++ b) Ap capp L W (by omega) h h2 (by omega) (fun s hs => by have := f2 s hs; omega))
              have HQ := hide (fun (W : World) => contains_any q ⟨#[42, 42]⟩ W (by omega))
              generalize Lib.contains q.data.toList (⟨#[42, 42]⟩ : ByteArray).data.toList = cq at HQ
              rw [hq] at VQ MQ y2
              have hmono : ∀ qs, readV (a ++ [42] ++ b) = some qs → mP ps (bl L) = true → matchV (a ++ [42] ++ b) (bl L) = true := fun qs hqs hm => by
                have e : a ++ [42] ++ b = a ++ 42 :: b := by simp
                unfold matchV
                rw [hqs]
                rw [e] at hqs
                rw [hlab] at hr
                exact wider_match hwd a b (by rw [← hlab]; exact hno) hr hqs (bl L) hm
              have HMo := hide hmono
              clear hmono hwd ha hb hlab hp hr hasc hno hca hc hi hq hql hsk1 hsk2 hskip f2 hsz
              cases hrq : readV (a ++ [42] ++ b) with
              | none =>
                rw [hrq, show (none : Option (List Pt)).isSome = false from rfl] at VQ
                clear hrq MQ HMo MX HX HQ
                go_enter Try.func4, Try.ntmps4
                go_wp2_with fail
                refine AW.out.mono ?_
                rintro e w1 ⟨rfl, hb⟩
                have B1 := hide hb
                clear hb
                go_wp2_with fail
                refine (VX.out _ (G.out.below B1.out)).mono ?_
                rintro e w2 ⟨rfl, hb⟩
                have B2 := hide (B1.out.trans (hb.mono B1.out.size))
                clear hb
                go_wp2_with fail
                refine (CA.out _).mono ?_
                rintro e w3 ⟨rfl, hb⟩
                have B3 := hide (B2.out.trans (hb.mono B2.out.size))
                clear hb
                go_wp2_with fail
                refine (FW.out _ (Hsl.out.below B3.out)).mono ?_
                rintro e wS ⟨rfl, rfl⟩
                go_upto_region 13 with fail
                go_quiet (fail)
                obtain ⟨W4, hW4⟩ : ∃ W4, wS.drewN nq = W4 := ⟨_, rfl⟩
                rw [hW4]
                have B4 := hide (show Below w.heap.size w W4 by rw [← hW4]; exact Below_drewN B3.out _)
                clear hW4 x1 x2 y1 y2
                go_wp2_with fail
                refine (VQ.out _ (G.out.below B4.out)).mono ?_
                rintro e w5 ⟨rfl, hb⟩
                have B5 := hide (B4.out.trans (hb.mono B4.out.size))
                clear hb
                go_wp2
                go_ret
                exact ⟨rfl, B5.out⟩
              | some qs =>
                rw [hrq, show (some qs).isSome = true from rfl] at VQ
                have hmq := HMo.out qs hrq
                have Hmq := hide hmq
                clear hmq hrq HMo
                go_enter Try.func4, Try.ntmps4
                go_wp2_with fail
                refine AW.out.mono ?_
                rintro e w1 ⟨rfl, hb⟩
                have B1 := hide hb
                clear hb
                go_wp2_with fail
                refine (VX.out _ (G.out.below B1.out)).mono ?_
                rintro e w2 ⟨rfl, hb⟩
                have B2 := hide (B1.out.trans (hb.mono B1.out.size))
                clear hb
                go_wp2_with fail
                refine (CA.out _).mono ?_
                rintro e w3 ⟨rfl, hb⟩
                have B3 := hide (B2.out.trans (hb.mono B2.out.size))
                clear hb
                go_wp2_with fail
                refine (FW.out _ (Hsl.out.below B3.out)).mono ?_
                rintro e wS ⟨rfl, rfl⟩
                go_upto_region 13 with fail
                go_quiet (fail)
                obtain ⟨W4, hW4⟩ : ∃ W4, wS.drewN nq = W4 := ⟨_, rfl⟩
                rw [hW4]
                have B4 := hide (show Below w.heap.size w W4 by rw [← hW4]; exact Below_drewN B3.out _)
                clear hW4 x1 x2 y1 y2
                go_wp2_with fail
                refine (VQ.out _ (G.out.below B4.out)).mono ?_
                rintro e w5 ⟨rfl, hb⟩
                have B5 := hide (B4.out.trans (hb.mono B4.out.size))
                clear hb
                go_wp2_with fail
                refine (HQ.out _ (G.out.below B5.out)).mono ?_
                rintro e wS ⟨rfl, rfl⟩
                go_wp2_with fail
                refine (HX.out _ (G.out.below B5.out)).mono ?_
                rintro e wS ⟨rfl, rfl⟩

                have fin1 : cq = cp ∨ cq ≠ cp := Decidable.em _
                rcases fin1 with rfl | hne
                · cases hm : mP ps (bl L) with
                  | false =>
                    rw [hm] at MX
                    clear hm
                    have hcc : (cq == cq) = true := beq_self_eq_true _
                    go_wp2_with fail
                    refine (MX.out _ (G.out.below B5.out) (Hsl.out.below B5.out)).mono ?_
                    rintro e w6 ⟨rfl, hb⟩
                    have B6 := hide (B5.out.trans (hb.mono B5.out.size))
                    clear hb
                    go_wp2
                    go_ret
                    exact ⟨rfl, B6.out⟩
                  | true =>
                    rw [hm] at MX
                    rw [Hmq.out hm] at MQ
                    clear hm
                    have hcc : (cq == cq) = true := beq_self_eq_true _
                    go_wp2_with fail
                    refine (MX.out _ (G.out.below B5.out) (Hsl.out.below B5.out)).mono ?_
                    rintro e w6 ⟨rfl, hb⟩
                    have B6 := hide (B5.out.trans (hb.mono B5.out.size))
                    clear hb
                    go_wp2_with fail
                    refine (MQ.out _ (G.out.below B6.out) (Hsl.out.below B6.out)).mono ?_
                    rintro e w7 ⟨rfl, hb⟩
                    have B7 := hide (B6.out.trans (hb.mono B6.out.size))
                    clear hb
                    go_wp2
                    go_ret
                    exact ⟨rfl, B7.out⟩
                · have hcc : (cq == cp) = false := beq_eq_false_iff_ne.2 hne
                  go_wp2
                  go_ret
                  exact ⟨rfl, B5.out⟩
            · have e63 : ((c.toNat : Int) == 63) = false := toNat_ne (d := 63) h63
              have hwd : widerB c 63 := .inl ⟨hsk2, hsk1, h63, rfl⟩
              have y1 : ∀ W : World, (Op.stringOp .add (bsP a) ⟨#[63]⟩).run Try.prog W = .ok (.string (bsP (a ++ [63]))) W := fun W => catP a [63] (by simp; omega) W
              have y2 : ∀ W : World, (Op.stringOp .add (bsP (a ++ [63])) (bsP b)).run Try.prog W = .ok (.string (bsP (a ++ [63] ++ b))) W := fun W => catP (a ++ [63]) b (by simp; omega) W
              obtain ⟨q, hq⟩ : ∃ q, bsP (a ++ [63] ++ b) = q := ⟨_, rfl⟩
              have hql : (a ++ [63] ++ b).length ≤ 200 := by simp; omega
              have hqz : q.size ≤ 1000 := by rw [← hq, bsP_size]; omega
              have VQ := hide (fun (W : World) (h : Gm W) => Valid_pt (a ++ [63] ++ b) W (by omega) h)
              have MQ := hide (fun (W : World) (h : Gm W) (h2 : Sl Value.string W Ap L) => Match_pt (a ++ [63] ++ b) Ap capp L W (by omega) h h2 (by omega) (fun s hs => by have := f2 s hs; omega))
              have HQ := hide (fun (W : World) => contains_any q ⟨#[42, 42]⟩ W (by omega))
              generalize Lib.contains q.data.toList (⟨#[42, 42]⟩ : ByteArray).data.toList = cq at HQ
              rw [hq] at VQ MQ y2
              have hmono : ∀ qs, readV (a ++ [63] ++ b) = some qs → mP ps (bl L) = true → matchV (a ++ [63] ++ b) (bl L) = true := fun qs hqs hm => by
                have e : a ++ [63] ++ b = a ++ 63 :: b := by simp
                unfold matchV
                rw [hqs]
                rw [e] at hqs
                rw [hlab] at hr
                exact wider_match hwd a b (by rw [← hlab]; exact hno) hr hqs (bl L) hm
              have HMo := hide hmono
              clear hmono hwd ha hb hlab hp hr hasc hno hca hc hi hq hql hsk1 hsk2 hskip f2 hsz
              cases hrq : readV (a ++ [63] ++ b) with
              | none =>
                rw [hrq, show (none : Option (List Pt)).isSome = false from rfl] at VQ
                clear hrq MQ HMo MX HX HQ
                go_enter Try.func4, Try.ntmps4
                go_wp2_with fail
                refine AW.out.mono ?_
                rintro e w1 ⟨rfl, hb⟩
                have B1 := hide hb
                clear hb
                go_wp2_with fail
                refine (VX.out _ (G.out.below B1.out)).mono ?_
                rintro e w2 ⟨rfl, hb⟩
                have B2 := hide (B1.out.trans (hb.mono B1.out.size))
                clear hb
                go_wp2_with fail
                refine (CA.out _).mono ?_
                rintro e w3 ⟨rfl, hb⟩
                have B3 := hide (B2.out.trans (hb.mono B2.out.size))
                clear hb
                go_wp2_with fail
                refine (FW.out _ (Hsl.out.below B3.out)).mono ?_
                rintro e wS ⟨rfl, rfl⟩
                go_upto_region 13 with fail
                go_quiet (fail)
                obtain ⟨W4, hW4⟩ : ∃ W4, wS.drewN nq = W4 := ⟨_, rfl⟩
                rw [hW4]
                have B4 := hide (show Below w.heap.size w W4 by rw [← hW4]; exact Below_drewN B3.out _)
                clear hW4 x1 x2 y1 y2
                go_wp2_with fail
                refine (VQ.out _ (G.out.below B4.out)).mono ?_
                rintro e w5 ⟨rfl, hb⟩
                have B5 := hide (B4.out.trans (hb.mono B4.out.size))
                clear hb
                go_wp2
                go_ret
                exact ⟨rfl, B5.out⟩
              | some qs =>
                rw [hrq, show (some qs).isSome = true from rfl] at VQ
                have hmq := HMo.out qs hrq
                have Hmq := hide hmq
                clear hmq hrq HMo
                go_enter Try.func4, Try.ntmps4
                go_wp2_with fail
                refine AW.out.mono ?_
                rintro e w1 ⟨rfl, hb⟩
                have B1 := hide hb
                clear hb
                go_wp2_with fail
                refine (VX.out _ (G.out.below B1.out)).mono ?_
                rintro e w2 ⟨rfl, hb⟩
                have B2 := hide (B1.out.trans (hb.mono B1.out.size))
                clear hb
                go_wp2_with fail
                refine (CA.out _).mono ?_
                rintro e w3 ⟨rfl, hb⟩
                have B3 := hide (B2.out.trans (hb.mono B2.out.size))
                clear hb
                go_wp2_with fail
                refine (FW.out _ (Hsl.out.below B3.out)).mono ?_
                rintro e wS ⟨rfl, rfl⟩
                go_upto_region 13 with fail
                go_quiet (fail)
                obtain ⟨W4, hW4⟩ : ∃ W4, wS.drewN nq = W4 := ⟨_, rfl⟩
                rw [hW4]
                have B4 := hide (show Below w.heap.size w W4 by rw [← hW4]; exact Below_drewN B3.out _)
                clear hW4 x1 x2 y1 y2
                go_wp2_with fail
                refine (VQ.out _ (G.out.below B4.out)).mono ?_
                rintro e w5 ⟨rfl, hb⟩
                have B5 := hide (B4.out.trans (hb.mono B4.out.size))
                clear hb
                go_wp2_with fail
                refine (HQ.out _ (G.out.below B5.out)).mono ?_
                rintro e wS ⟨rfl, rfl⟩
                go_wp2_with fail
                refine (HX.out _ (G.out.below B5.out)).mono ?_
                rintro e wS ⟨rfl, rfl⟩

                have fin1 : cq = cp ∨ cq ≠ cp := Decidable.em _
                rcases fin1 with rfl | hne
                · cases hm : mP ps (bl L) with
                  | false =>
                    rw [hm] at MX
                    clear hm
                    have hcc : (cq == cq) = true := beq_self_eq_true _
                    go_wp2_with fail
                    refine (MX.out _ (G.out.below B5.out) (Hsl.out.below B5.out)).mono ?_
                    rintro e w6 ⟨rfl, hb⟩
                    have B6 := hide (B5.out.trans (hb.mono B5.out.size))
                    clear hb
                    go_wp2
                    go_ret
                    exact ⟨rfl, B6.out⟩
                  | true =>
                    rw [hm] at MX
                    rw [Hmq.out hm] at MQ
                    clear hm
                    have hcc : (cq == cq) = true := beq_self_eq_true _
                    go_wp2_with fail
                    refine (MX.out _ (G.out.below B5.out) (Hsl.out.below B5.out)).mono ?_
                    rintro e w6 ⟨rfl, hb⟩
                    have B6 := hide (B5.out.trans (hb.mono B5.out.size))
                    clear hb
                    go_wp2_with fail
                    refine (MQ.out _ (G.out.below B6.out) (Hsl.out.below B6.out)).mono ?_
                    rintro e w7 ⟨rfl, hb⟩
                    have B7 := hide (B6.out.trans (hb.mono B6.out.size))
                    clear hb
                    go_wp2
                    go_ret
                    exact ⟨rfl, B7.out⟩
                · have hcc : (cq == cp) = false := beq_eq_false_iff_ne.2 hne
                  go_wp2
                  go_ret
                  exact ⟨rfl, B5.out⟩
end patternWider
end Go.Proofs.Ytcjehiecgdmidaa
