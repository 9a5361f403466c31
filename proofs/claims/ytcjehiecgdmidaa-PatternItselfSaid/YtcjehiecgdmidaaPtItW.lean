/- The walk of PatternItself; Texts at any two lists. -/
import Derived.Test.YtcjehiecgdmidaaPtWiW
import Derived.Test.YtcjehiecgdmidaaPtItP
import Derived.Test.YtcjehiecgdmidaaNmH
set_option linter.unusedVariables false
set_option linter.unusedSimpArgs false
namespace Go.Proofs.Ytcjehiecgdmidaa
open Go.RowKit Go.Shelf
theorem Few_9_32 (A : Option Addr) (n cap : Nat) (L : List ByteArray) (w : World) (hn : n = L.length) (hl : L.length ≤ maxLen) (hw : Sl Value.string w A L) :
    Calls Try.prog 9 #[.slice A n cap, .int .i64 9, .int .i64 32] w fun e w' => e = .returned (.bool (fewB 9 32 L)) ∧ w' = w := Few_any 9 32 A n cap L w hn hl hw
set_option maxHeartbeats 4000000 in
theorem Texts_any (A A' : Option Addr) (cap cap' : Nat) (L L' : List ByteArray) (w : World) (hl : L.length ≤ 1099511627776) (hl' : L'.length ≤ 1099511627776) (hw : Sl Value.string w A L) (hw' : Sl Value.string w A' L') :
    Calls Try.prog 14 #[.slice A L.length cap, .slice A' L'.length cap'] w fun e w' => e = .returned (.bool (decide (L = L'))) ∧ Below w.heap.size w w' := by
  have Hw := hide hw
  have Hw' := hide hw'
  clear hw hw'
  by_cases hll : L.length = L'.length
  · have hll' : ((L.length : Int) == (L'.length : Int)) = true := by rw [hll]; exact beq_self_eq_true _
    obtain ⟨q, hq⟩ : ∃ q, decide (L = L') = q := ⟨_, rfl⟩
    have Hq := hide hq
    have Hll := hide hll
    clear hq
    rw [← hll]
    clear hll hll'
    go_enter Try.func14, Try.ntmps14
    go_wp2
    go_loopw [5] (fun v wr => ∃ i : Nat, v = .int .i64 i ∧ i ≤ L.length ∧ (∀ j, ∀ h : j < L.length, ∀ h' : j < L'.length, j < i → L[j] = L'[j]) ∧ Below w.heap.size w wr) (fun v _ => L.length - (intOf v).toNat)
    case atStart => exact ⟨0, rfl, Nat.zero_le _, fun j _ _ h => absurd h (Nat.not_lt_zero _), Below.refl _ _⟩
    case round =>
      obtain ⟨i, rfl, hi0, heq, hbr⟩ := hrel
      have Hbr := hide hbr
      have Heq := hide heq
      clear hbr heq
      by_cases hi : i < L.length
      · have hi2 : i < L'.length := by rw [← Hll.out]; exact hi
        obtain ⟨b, off, rfl, hbz, hat⟩ := Hw.out.at hi
        obtain ⟨b', off', rfl, hbz', hat'⟩ := Hw'.out.at hi2
        have hc := hat wr Hbr.out
        have hc' := hat' wr Hbr.out
        obtain ⟨t, ht⟩ : ∃ t, L[i] = t := ⟨_, rfl⟩
        obtain ⟨t', ht'⟩ : ∃ t, L'[i] = t := ⟨_, rfl⟩
        rw [ht] at hc
        rw [ht'] at hc'
        have Ht := hide (And.intro ht ht')
        clear hat hat' ht ht'
        have q1 : (0 : Int) ≤ (i : Int) := by omega
        have q2 : (i : Int) < (L.length : Int) := by omega
        by_cases htt : t = t'
        · have e1 : (t.toList == t'.toList) = true := by rw [htt]; exact beq_self_eq_true _
          have Htt := hide htt
          clear htt
          go_wp2_with fail
          go_quiet (fail)
          go_wp2
          go_roundw
          case rel =>
            refine ⟨i + 1, by go_num, by omega, fun j h h' hj => ?_, Below_drewN Hbr.out _⟩
            by_cases hji : j < i
            · exact Heq.out j h h' hji
            · have : j = i := by omega
              subst this
              rw [Ht.out.1, Ht.out.2]; exact Htt.out
          case measure => simp [intOf]; omega
        · have e1 : (t.toList == t'.toList) = false := beq_eq_false_iff_ne.2 fun e => htt (by
            rw [Lib.toList_data, Lib.toList_data] at e
            exact Go.WideShapes.bytes_inj e)
          have hqf : q = false := by
            rw [← Hq.out]
            refine decide_eq_false fun e => htt ?_
            subst e
            rw [← Ht.out.1, ← Ht.out.2]
          have Hqf := hide hqf
          clear hqf htt
          go_wp2_with fail
          go_quiet (fail)
          go_wp2
          go_ret
          exact ⟨ret_b (Hq.out.trans Hqf.out), Below_drewN Hbr.out _⟩
      · obtain rfl : i = L.length := Nat.le_antisymm hi0 (Nat.le_of_not_lt hi)
        have hqt : q = true := by
          rw [← Hq.out]
          refine decide_eq_true ?_
          apply List.ext_getElem Hll.out
          intro j h h'
          exact Heq.out j h h' h
        have Hqt := hide hqt
        clear hqt
        go_wp2
        go_ret
        exact ⟨ret_b (Hq.out.trans Hqt.out), Hbr.out⟩
  · have hll' : ((L.length : Int) == (L'.length : Int)) = false := beq_eq_false_iff_ne.2 (by omega)
    have hd := hide (show decide (L = L') = false from decide_eq_false fun e => hll (by rw [e]))
    have hn1 : ¬ (L.length : Int) = (L'.length : Int) := by omega
    go_enter Try.func14, Try.ntmps14
    go_wp2
    go_ret
    exact ⟨ret_b hd.out, Below.refl _ _⟩
theorem pj_ascii : ∀ N : List (List UInt8), N.all vN = true → ∀ c ∈ pj N, c.toNat < 128
  | [], _ => fun c hc => by cases hc
  | n :: N, h => by
    rw [List.all_cons, Bool.and_eq_true] at h
    have hn : ∀ c ∈ n, c.toNat < 128 := fun c hc => by
      have h1 := List.all_eq_true.1 (vN_pr h.1) c hc
      unfold prB at h1
      rw [decide_eq_true_eq] at h1; omega
    cases N with
    | nil => exact hn
    | cons m N =>
      rw [pj_cons _ _ (by simp)]
      intro c hc
      rcases List.mem_append.1 hc with hc | hc
      · exact hn c hc
      · rcases List.mem_append.1 hc with hc | hc
        · unfold sepN at hc
          split at hc
          · simp only [List.mem_cons, List.not_mem_nil, or_false] at hc
            rcases hc with rfl | rfl <;> decide
          · simp only [List.mem_cons, List.not_mem_nil, or_false] at hc
            rw [hc]; decide
        · exact pj_ascii (m :: N) h.2 c hc
theorem pathL_ascii (N : List (List UInt8)) : ∀ c ∈ pathL N, c.toNat < 128 := by
  unfold pathL
  split
  · rename_i h
    unfold vpB at h
    rw [Bool.and_eq_true] at h
    exact pj_ascii N h.2
  · intro c hc; cases hc
theorem bl_inj {L L' : List ByteArray} : bl L = bl L' ↔ L = L' :=
  ⟨fun h => by rw [← map_bl L, ← map_bl L', h], fun h => by rw [h]⟩
namespace patternItself
set_option maxRecDepth 20000 in
set_option maxHeartbeats 8000000 in
theorem walk (Ap : Option Addr) (len capp : Nat) (L : List ByteArray) (Ao : Option Addr) (leno capo : Nat) (L' : List ByteArray) (w : World) (hn : L.length = len) (hl : len ≤ maxLen) (hw : Sl Value.string w Ap L ∧ (∀ s ∈ L, s.size ≤ maxLen) ∧ len ≤ capp) (hno : L'.length = leno) (hlo : leno ≤ maxLen) (hwo : Sl Value.string w Ao L' ∧ (∀ s ∈ L', s.size ≤ maxLen) ∧ leno ≤ capo) (hg : Gm w) :
    Calls Try.prog 7 #[.slice Ap len capp, .slice Ao leno capo] w fun e w' => e = .returned (.bool true) ∧ Below w.heap.size w w' := by
  subst hn hno
  obtain ⟨hsl, _, hcap⟩ := hw
  obtain ⟨hsl2, _, hcap2⟩ := hwo
  have AW := hide (awake_pt w hg)
  have G := hide hg
  have Hsl := hide hsl
  have Hsl2 := hide hsl2
  have FW := hide (fun (W : World) (h : Sl Value.string W Ap L) => Few_9_32 Ap L.length capp L W rfl hl h)
  have FW2 := hide (fun (W : World) (h : Sl Value.string W Ao L') => Few_9_32 Ao L'.length capo L' W rfl hlo h)
  clear hsl hsl2 hg
  cases hf : fewB 9 32 L with
  | false =>
    rw [hf] at FW
    clear hf
    go_enter Try.func7, Try.ntmps7
    go_wp2_with fail
    refine AW.out.mono ?_
    rintro e w1 ⟨rfl, hb⟩
    have B1 := hide hb
    clear hb
    go_wp2_with fail
    refine (FW.out _ (Hsl.out.below B1.out)).mono ?_
    rintro e wS ⟨rfl, rfl⟩
    go_wp2
    go_ret
    exact ⟨rfl, B1.out⟩
  | true =>
    rw [hf] at FW
    obtain ⟨f1, f2⟩ := fewB_spec hf
    clear hf
    cases hf2 : fewB 9 32 L' with
    | false =>
      rw [hf2] at FW2
      clear hf2 f2
      go_enter Try.func7, Try.ntmps7
      go_wp2_with fail
      refine AW.out.mono ?_
      rintro e w1 ⟨rfl, hb⟩
      have B1 := hide hb
      clear hb
      go_wp2_with fail
      refine (FW.out _ (Hsl.out.below B1.out)).mono ?_
      rintro e wS ⟨rfl, rfl⟩
      go_wp2_with fail
      refine (FW2.out _ (Hsl2.out.below B1.out)).mono ?_
      rintro e wS ⟨rfl, rfl⟩
      go_wp2
      go_ret
      exact ⟨rfl, B1.out⟩
    | true =>
      rw [hf2] at FW2
      obtain ⟨g1, g2⟩ := fewB_spec hf2
      clear hf2
      have PA := hide (fun (W : World) (h : Sl Value.string W Ap L) => Path_any Ap L.length capp L W rfl (by omega) h (fun s hs => by have := f2 s hs; omega))
      obtain ⟨l, hl0⟩ : ∃ l, pathL (bl L) = l := ⟨_, rfl⟩
      have hpb : pathB L = bsP l := by rw [← hl0]; rfl
      rw [hpb] at PA
      clear hpb
      by_cases he : l = []
      · have hno := bsP_no
        subst he
        clear f2 g2 hl0
        go_enter Try.func7, Try.ntmps7
        go_wp2_with fail
        refine AW.out.mono ?_
        rintro e w1 ⟨rfl, hb⟩
        have B1 := hide hb
        clear hb
        go_wp2_with fail
        refine (FW.out _ (Hsl.out.below B1.out)).mono ?_
        rintro e wS ⟨rfl, rfl⟩
        go_wp2_with fail
        refine (FW2.out _ (Hsl2.out.below B1.out)).mono ?_
        rintro e wS ⟨rfl, rfl⟩
        go_wp2_with fail
        refine (PA.out _ (Hsl.out.below B1.out)).mono ?_
        rintro e w2 ⟨rfl, hb⟩
        have B2 := hide (B1.out.trans (hb.mono B1.out.size))
        clear hb
        go_wp2
        go_ret
        exact ⟨rfl, B2.out⟩
      · have hne := bsP_ne he
        by_cases hbig : 200 < l.length
        · have hb' : (200 : Int) < ((bsP l).size : Int) := by rw [bsP_size]; omega
          generalize bsP l = p at *
          clear f2 g2 hl0 he
          go_enter Try.func7, Try.ntmps7
          go_wp2_with fail
          refine AW.out.mono ?_
          rintro e w1 ⟨rfl, hb⟩
          have B1 := hide hb
          clear hb
          go_wp2_with fail
          refine (FW.out _ (Hsl.out.below B1.out)).mono ?_
          rintro e wS ⟨rfl, rfl⟩
          go_wp2_with fail
          refine (FW2.out _ (Hsl2.out.below B1.out)).mono ?_
          rintro e wS ⟨rfl, rfl⟩
          go_wp2_with fail
          refine (PA.out _ (Hsl.out.below B1.out)).mono ?_
          rintro e w2 ⟨rfl, hb⟩
          have B2 := hide (B1.out.trans (hb.mono B1.out.size))
          clear hb
          go_wp2
          go_ret
          exact ⟨rfl, B2.out⟩
        · have hb' : ¬ (200 : Int) < ((bsP l).size : Int) := by rw [bsP_size]; omega
          have hasc : ∀ c ∈ l, c.toNat < 128 := by rw [← hl0]; exact pathL_ascii _
          have CA := hide (fun W : World => Try.strings_ContainsAny (zero_of_info (n := 256) (by kernel_rfl)).1 (bsP l) ⟨#[42, 63, 33]⟩ W (by rw [bsP_size]; omega) (by decide) (fun j b hj => hasc b (List.mem_of_getElem? hj)) (by
            intro j b hj
            have : b ∈ ([42, 63, 33] : List UInt8) := List.mem_of_getElem? hj
            simp at this
            rcases this with rfl | rfl | rfl <;> decide))
          rw [show (⟨#[42, 63, 33]⟩ : ByteArray).data.toList = [42, 63, 33] from rfl, bsP_list] at CA
          cases hca : Lib.containsAny l [42, 63, 33] with
          | true =>
            rw [hca] at CA
            generalize bsP l = p at *
            clear f2 g2 hl0 he hca hasc
            go_enter Try.func7, Try.ntmps7
            go_wp2_with fail
            refine AW.out.mono ?_
            rintro e w1 ⟨rfl, hb⟩
            have B1 := hide hb
            clear hb
            go_wp2_with fail
            refine (FW.out _ (Hsl.out.below B1.out)).mono ?_
            rintro e wS ⟨rfl, rfl⟩
            go_wp2_with fail
            refine (FW2.out _ (Hsl2.out.below B1.out)).mono ?_
            rintro e wS ⟨rfl, rfl⟩
            go_wp2_with fail
            refine (PA.out _ (Hsl.out.below B1.out)).mono ?_
            rintro e w2 ⟨rfl, hb⟩
            have B2 := hide (B1.out.trans (hb.mono B1.out.size))
            clear hb
            go_wp2_with fail
            refine (CA.out _).mono ?_
            rintro e w3 ⟨rfl, hb⟩
            have B3 := hide (B2.out.trans (hb.mono B2.out.size))
            clear hb
            go_wp2
            go_ret
            exact ⟨rfl, B3.out⟩
          | false =>
            rw [hca] at CA
            have hs : ∀ c ∈ l, c ≠ 42 ∧ c ≠ 63 := fun e he => by
              rw [containsAny_eq, List.any_eq_false] at hca
              have := hca e he
              simp at this
              exact ⟨this.1, this.2.1⟩
            obtain ⟨i1, i2, i3⟩ := itself_law (bl L) (by rw [hl0]; exact he) (by rw [hl0]; omega) (by rw [hl0]; exact hs)
            rw [hl0] at i1 i2 i3
            have TX := hide (fun (W : World) (h : Sl Value.string W Ap L) (h2 : Sl Value.string W Ao L') => Texts_any Ap Ao capp capo L L' W (by omega) (by omega) h h2)
            have VX := hide (fun (W : World) (h : Gm W) => Valid_pt l W (by omega) h)
            rw [i1] at VX
            have M1 := hide (fun (W : World) (h : Gm W) (h2 : Sl Value.string W Ap L) => Match_pt l Ap capp L W (by omega) h h2 (by omega) (fun s hs => by have := f2 s hs; omega))
            rw [i2, decide_eq_true rfl] at M1
            have M2 := hide (fun (W : World) (h : Gm W) (h2 : Sl Value.string W Ao L') => Match_pt l Ao capo L' W (by omega) h h2 (by omega) (fun s hs => by have := g2 s hs; omega))
            have ed : decide (bl L = bl L') = decide (L = L') := by rw [decide_eq_decide]; exact bl_inj
            rw [i2, ed] at M2
            have PX := hide (fun (W : World) (h : Gm W) => Prefix_pt l W (by omega) h)
            rw [i3] at PX
            have TE := hide (fun (A : Option Addr) (cap : Nat) (W : World) (h1 : Sl Value.string W A L) (h2 : Sl Value.string W Ap L) => Texts_eq A Ap L.length L.length cap capp L W rfl rfl (by omega) h1 h2)
            have hbe : (bl L).length = L.length := bl_len L
            have hmb := map_bl L
            have Hbe := hide (And.intro hbe hmb)
            generalize bsP l = p at *
            generalize decide (L = L') = b0 at *
            have hbb : (b0 == b0) = true := beq_self_eq_true _
            clear f2 g2 hl0 he hca hasc hs i1 i2 i3 ed hbe hmb
            go_enter Try.func7, Try.ntmps7
            go_wp2_with fail
            refine AW.out.mono ?_
            rintro e w1 ⟨rfl, hb⟩
            have B1 := hide hb
            clear hb
            go_wp2_with fail
            refine (FW.out _ (Hsl.out.below B1.out)).mono ?_
            rintro e wS ⟨rfl, rfl⟩
            go_wp2_with fail
            refine (FW2.out _ (Hsl2.out.below B1.out)).mono ?_
            rintro e wS ⟨rfl, rfl⟩
            go_wp2_with fail
            refine (PA.out _ (Hsl.out.below B1.out)).mono ?_
            rintro e w2 ⟨rfl, hb⟩
            have B2 := hide (B1.out.trans (hb.mono B1.out.size))
            clear hb
            go_wp2_with fail
            refine (CA.out _).mono ?_
            rintro e w3 ⟨rfl, hb⟩
            have B3 := hide (B2.out.trans (hb.mono B2.out.size))
            clear hb
            go_wp2_with fail
            refine (TX.out _ (Hsl.out.below B3.out) (Hsl2.out.below B3.out)).mono ?_
            rintro e w4 ⟨rfl, hb⟩
            have B4 := hide (B3.out.trans (hb.mono B3.out.size))
            clear hb
            go_wp2_with fail
            refine (VX.out _ (G.out.below B4.out)).mono ?_
            rintro e w5 ⟨rfl, hb⟩
            have B5 := hide (B4.out.trans (hb.mono B4.out.size))
            clear hb
            go_wp2_with fail
            refine (M1.out _ (G.out.below B5.out) (Hsl.out.below B5.out)).mono ?_
            rintro e w6 ⟨rfl, hb⟩
            have B6 := hide (B5.out.trans (hb.mono B5.out.size))
            clear hb
            go_wp2_with fail
            refine (PX.out _ (G.out.below B6.out)).mono ?_
            rintro e w7 ⟨A, cap, rfl, hs7, hc7, hb⟩
            have B7 := hide (B6.out.trans (hb.mono B6.out.size))
            rw [Hbe.out.2] at hs7
            rw [Hbe.out.1]
            have Hs7 := hide hs7
            clear hb hs7 hc7
            go_wp2_with fail
            refine (TE.out _ _ _ Hs7.out (Hsl.out.below B7.out)).mono ?_
            rintro e w8 ⟨rfl, hb⟩
            have B8 := hide (B7.out.trans (hb.mono B7.out.size))
            clear hb
            go_wp2_with fail
            refine (M2.out _ (G.out.below B8.out) (Hsl2.out.below B8.out)).mono ?_
            rintro e w9 ⟨rfl, hb⟩
            have B9 := hide (B8.out.trans (hb.mono B8.out.size))
            clear hb
            go_wp2
            go_ret
            exact ⟨rfl, B9.out⟩
end patternItself
end Go.Proofs.Ytcjehiecgdmidaa
