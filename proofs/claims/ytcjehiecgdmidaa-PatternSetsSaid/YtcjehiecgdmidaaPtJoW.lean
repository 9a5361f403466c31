/- The walk of PatternJoined. -/
import Derived.Test.YtcjehiecgdmidaaPtWiW
import Derived.Test.YtcjehiecgdmidaaPtY
set_option linter.unusedVariables false
set_option linter.unusedSimpArgs false
namespace Go.Proofs.Ytcjehiecgdmidaa
open Go.RowKit Go.Shelf
theorem Few_8_60 (A : Option Addr) (n cap : Nat) (L : List ByteArray) (w : World) (hn : n = L.length) (hl : L.length ≤ maxLen) (hw : Sl Value.string w A L) :
    Calls Try.prog 9 #[.slice A n cap, .int .i64 8, .int .i64 60] w fun e w' => e = .returned (.bool (fewB 8 60 L)) ∧ w' = w := Few_any 8 60 A n cap L w hn hl hw
theorem contains_no {l : List UInt8} {c : UInt8} (h : Lib.contains l [c] = false) : ∀ e ∈ l, e ≠ c := by
  rintro e he rfl
  have h1 := cutB_eq e l
  unfold cutB at h1
  rw [if_pos he] at h1
  unfold Lib.contains at h
  rw [decide_eq_false_iff_not] at h
  rcases cut_dec l [e] with ⟨h2, _⟩ | ⟨a, r, _, _, h4⟩
  · rw [h2] at h1; simp at h1
  · exact h (by rw [h4]; omega)
theorem Sl_drop {W : World} {b off : Nat} {L : List ByteArray} (h : Sl Value.string W (some ⟨b, off, none⟩) L) (i : Nat) : Sl Value.string W (some ⟨b, off + i, none⟩) (L.drop i) := fun hp => by
  rw [List.length_drop] at hp
  obtain ⟨b', off', h1, h2⟩ := h (by omega)
  cases h1
  exact ⟨b, off + i, rfl, fun j hj => by
    rw [List.length_drop] at hj
    rw [Nat.add_assoc, h2 (i + j) (by omega), List.getElem_drop]⟩
theorem bl_take (L : List ByteArray) (i : Nat) : bl (L.take i) = (bl L).take i := List.map_take
theorem bl_drop (L : List ByteArray) (i : Nat) : bl (L.drop i) = (bl L).drop i := List.map_drop
theorem Sl_drop2 {W : World} {A : Option Addr} {L : List ByteArray} (h : Sl Value.string W A L) (i : Nat) : Sl Value.string W (Option.map (fun x => x.add i) A) (L.drop i) := fun hp => by
  have hp2 := hp
  rw [List.length_drop] at hp2
  obtain ⟨b, off, rfl, _⟩ := h (by omega)
  have e : Option.map (fun x : Addr => x.add i) (some ⟨b, off, none⟩) = some ⟨b, off + i, none⟩ := by
    rw [Option.map_some, Addr.add_mid]
  rw [e]
  exact Sl_drop h i hp
namespace patternJoined
set_option maxRecDepth 20000 in
set_option maxHeartbeats 8000000 in
theorem walk (p q : ByteArray) (Ap : Option Addr) (len capp : Nat) (L : List ByteArray) (w : World) (hzp : p.size ≤ maxLen) (hzq : q.size ≤ maxLen) (hn : L.length = len) (hl : len ≤ maxLen) (hw : Sl Value.string w Ap L ∧ (∀ s ∈ L, s.size ≤ maxLen) ∧ len ≤ capp) (hg : Gm w) :
    Calls Try.prog 5 #[.string p, .string q, .slice Ap len capp] w fun e w' => e = .returned (.bool true) ∧ Below w.heap.size w w' := by
  subst hn
  obtain ⟨hsl, _, hcap⟩ := hw
  have AW := hide (awake_pt w hg)
  have G := hide hg
  have Hsl := hide hsl
  have FW := hide (fun (W : World) (h : Sl Value.string W Ap L) => Few_8_60 Ap L.length capp L W rfl hl h)
  clear hsl hg
  by_cases hbig : 90 < p.size
  · have hb' : (90 : Int) < (p.size : Int) := by omega
    go_enter Try.func5, Try.ntmps5
    go_wp2_with fail
    refine AW.out.mono ?_
    rintro e w1 ⟨rfl, hb⟩
    have B1 := hide hb
    clear hb
    go_wp2
    go_ret
    exact ⟨rfl, B1.out⟩
  · have hb' : ¬ (90 : Int) < (p.size : Int) := by omega
    by_cases hbig2 : 90 < q.size
    · have hb2' : (90 : Int) < (q.size : Int) := by omega
      go_enter Try.func5, Try.ntmps5
      go_wp2_with fail
      refine AW.out.mono ?_
      rintro e w1 ⟨rfl, hb⟩
      have B1 := hide hb
      clear hb
      go_wp2
      go_ret
      exact ⟨rfl, B1.out⟩
    · have hb2' : ¬ (90 : Int) < (q.size : Int) := by omega
      cases hf : fewB 8 60 L with
      | false =>
        rw [hf] at FW
        clear hf
        go_enter Try.func5, Try.ntmps5
        go_wp2_with fail
        refine AW.out.mono ?_
        rintro e w1 ⟨rfl, hb⟩
        have B1 := hide hb
        clear hb
        go_wp2_with fail
        refine (FW.out _ (Hsl.out.below B1.out)).mono ?_
        rintro e wS ⟨rfl, rfl⟩
        go_wp2
        go_ret
        exact ⟨rfl, B1.out⟩
      | true =>
        rw [hf] at FW
        obtain ⟨f1, f2⟩ := fewB_spec hf
        clear hf
        have MA := hide (fun (W : World) (h : Gm W) (h2 : Sl Value.string W Ap L) => (show Calls Try.prog 12 #[.string ⟨#[42, 42]⟩, .slice Ap L.length capp] W fun e w' => e = .returned (.bool true) ∧ Below W.heap.size W w' from star2_any (bl L) ▸ Match_pt [42, 42] Ap capp L W (by decide) h h2 (by omega) (fun s hs => by have := f2 s hs; omega)))
        have MB := hide (fun (W : World) (h : Gm W) (h2 : Sl Value.string W Ap L) => (show Calls Try.prog 12 #[.string ⟨#[42, 42, 46, 42, 42]⟩, .slice Ap L.length capp] W fun e w' => e = .returned (.bool true) ∧ Below W.heap.size W w' from star22_any (bl L) ▸ Match_pt [42, 42, 46, 42, 42] Ap capp L W (by decide) h h2 (by omega) (fun s hs => by have := f2 s hs; omega)))
        obtain ⟨lp, hp⟩ : ∃ l, p = bsP l := ⟨p.data.toList, bsP_of p⟩
        obtain ⟨lq, hq⟩ : ∃ l, q = bsP l := ⟨q.data.toList, bsP_of q⟩
        have hlp : lp.length ≤ 90 := by have := bsP_size lp; rw [← hp] at this; omega
        have hlq : lq.length ≤ 90 := by have := bsP_size lq; rw [← hq] at this; omega
        have VP := hide (fun (W : World) (h : Gm W) => Valid_pt lp W (by omega) h)
        have VQ := hide (fun (W : World) (h : Gm W) => Valid_pt lq W (by omega) h)
        rw [← hp] at VP
        rw [← hq] at VQ
        cases hrp : readV lp with
        | none =>
          rw [hrp, show (none : Option (List Pt)).isSome = false from rfl] at VP
          clear hrp hp hq VQ f2
          go_enter Try.func5, Try.ntmps5
          go_wp2_with fail
          refine AW.out.mono ?_
          rintro e w1 ⟨rfl, hb⟩
          have B1 := hide hb
          clear hb
          go_wp2_with fail
          refine (FW.out _ (Hsl.out.below B1.out)).mono ?_
          rintro e wS ⟨rfl, rfl⟩
          go_wp2_with fail
          refine (MA.out _ (G.out.below B1.out) (Hsl.out.below B1.out)).mono ?_
          rintro e w2 ⟨rfl, hb⟩
          have B2 := hide (B1.out.trans (hb.mono B1.out.size))
          clear hb
          go_wp2_with fail
          refine (MB.out _ (G.out.below B2.out) (Hsl.out.below B2.out)).mono ?_
          rintro e w3 ⟨rfl, hb⟩
          have B3 := hide (B2.out.trans (hb.mono B2.out.size))
          clear hb
          go_wp2_with fail
          refine (VP.out _ (G.out.below B3.out)).mono ?_
          rintro e w4 ⟨rfl, hb⟩
          have B4 := hide (B3.out.trans (hb.mono B3.out.size))
          clear hb
          go_wp2
          go_ret
          exact ⟨rfl, B4.out⟩
        | some ps =>
          rw [hrp, show (some ps).isSome = true from rfl] at VP
          cases hrq : readV lq with
          | none =>
            rw [hrq, show (none : Option (List Pt)).isSome = false from rfl] at VQ
            clear hrp hrq hp hq f2
            go_enter Try.func5, Try.ntmps5
            go_wp2_with fail
            refine AW.out.mono ?_
            rintro e w1 ⟨rfl, hb⟩
            have B1 := hide hb
            clear hb
            go_wp2_with fail
            refine (FW.out _ (Hsl.out.below B1.out)).mono ?_
            rintro e wS ⟨rfl, rfl⟩
            go_wp2_with fail
            refine (MA.out _ (G.out.below B1.out) (Hsl.out.below B1.out)).mono ?_
            rintro e w2 ⟨rfl, hb⟩
            have B2 := hide (B1.out.trans (hb.mono B1.out.size))
            clear hb
            go_wp2_with fail
            refine (MB.out _ (G.out.below B2.out) (Hsl.out.below B2.out)).mono ?_
            rintro e w3 ⟨rfl, hb⟩
            have B3 := hide (B2.out.trans (hb.mono B2.out.size))
            clear hb
            go_wp2_with fail
            refine (VP.out _ (G.out.below B3.out)).mono ?_
            rintro e w4 ⟨rfl, hb⟩
            have B4 := hide (B3.out.trans (hb.mono B3.out.size))
            clear hb
            go_wp2_with fail
            refine (VQ.out _ (G.out.below B4.out)).mono ?_
            rintro e w5 ⟨rfl, hb⟩
            have B5 := hide (B4.out.trans (hb.mono B4.out.size))
            clear hb
            go_wp2
            go_ret
            exact ⟨rfl, B5.out⟩
          | some qs =>
            rw [hrq, show (some qs).isSome = true from rfl] at VQ
            have CC := hide (fun (W : World) (h : Gm W) => contains_any p ⟨#[92]⟩ W (by omega) h)
            rw [show (⟨#[92]⟩ : ByteArray).data.toList = [92] from rfl, show p.data.toList = lp by rw [hp]; rfl] at CC
            cases hct : Lib.contains lp [92] with
            | true =>
              rw [hct] at CC
              clear hrp hrq hp hq hct f2
              go_enter Try.func5, Try.ntmps5
              go_wp2_with fail
              refine AW.out.mono ?_
              rintro e w1 ⟨rfl, hb⟩
              have B1 := hide hb
              clear hb
              go_wp2_with fail
              refine (FW.out _ (Hsl.out.below B1.out)).mono ?_
              rintro e wS ⟨rfl, rfl⟩
              go_wp2_with fail
              refine (MA.out _ (G.out.below B1.out) (Hsl.out.below B1.out)).mono ?_
              rintro e w2 ⟨rfl, hb⟩
              have B2 := hide (B1.out.trans (hb.mono B1.out.size))
              clear hb
              go_wp2_with fail
              refine (MB.out _ (G.out.below B2.out) (Hsl.out.below B2.out)).mono ?_
              rintro e w3 ⟨rfl, hb⟩
              have B3 := hide (B2.out.trans (hb.mono B2.out.size))
              clear hb
              go_wp2_with fail
              refine (VP.out _ (G.out.below B3.out)).mono ?_
              rintro e w4 ⟨rfl, hb⟩
              have B4 := hide (B3.out.trans (hb.mono B3.out.size))
              clear hb
              go_wp2_with fail
              refine (VQ.out _ (G.out.below B4.out)).mono ?_
              rintro e w5 ⟨rfl, hb⟩
              have B5 := hide (B4.out.trans (hb.mono B4.out.size))
              clear hb
              go_wp2_with fail
              refine (CC.out _ (G.out.below B5.out)).mono ?_
              rintro e wS ⟨rfl, rfl⟩
              go_wp2
              go_ret
              exact ⟨rfl, B5.out⟩
            | false =>
              rw [hct] at CC
              have hno := contains_no hct
              have y1 : ∀ W : World, (Op.stringOp .add p ⟨#[46]⟩).run Try.prog W = .ok (.string (bsP (lp ++ [46]))) W := fun W => by rw [hp]; exact catP lp [46] (by simp; omega) W
              have y2 : ∀ W : World, (Op.stringOp .add (bsP (lp ++ [46])) q).run Try.prog W = .ok (.string (bsP (lp ++ [46] ++ lq))) W := fun W => by rw [hq]; exact catP (lp ++ [46]) lq (by simp; omega) W
              obtain ⟨j, hj⟩ : ∃ j, bsP (lp ++ [46] ++ lq) = j := ⟨_, rfl⟩
              obtain ⟨j1, hj1⟩ : ∃ j1, bsP (lp ++ [46]) = j1 := ⟨_, rfl⟩
              have hjl : (lp ++ [46] ++ lq).length ≤ 200 := by simp; omega
              have VJ := hide (fun (W : World) (h : Gm W) => Valid_pt (lp ++ [46] ++ lq) W (by omega) h)
              have MJ := hide (fun (W : World) (h : Gm W) (h2 : Sl Value.string W Ap L) => Match_pt (lp ++ [46] ++ lq) Ap capp L W (by omega) h h2 (by omega) (fun s hs => by have := f2 s hs; omega))
              rw [hj] at VJ MJ y2
              rw [hj1] at y1 y2
              cases hrj : readV (lp ++ [46] ++ lq) with
              | none =>
                rw [hrj, show (none : Option (List Pt)).isSome = false from rfl] at VJ
                clear hrp hrq hrj hp hq hct hno hj hj1 hjl MJ f2
                go_enter Try.func5, Try.ntmps5
                go_wp2_with fail
                refine AW.out.mono ?_
                rintro e w1 ⟨rfl, hb⟩
                have B1 := hide hb
                clear hb
                go_wp2_with fail
                refine (FW.out _ (Hsl.out.below B1.out)).mono ?_
                rintro e wS ⟨rfl, rfl⟩
                go_wp2_with fail
                refine (MA.out _ (G.out.below B1.out) (Hsl.out.below B1.out)).mono ?_
                rintro e w2 ⟨rfl, hb⟩
                have B2 := hide (B1.out.trans (hb.mono B1.out.size))
                clear hb
                go_wp2_with fail
                refine (MB.out _ (G.out.below B2.out) (Hsl.out.below B2.out)).mono ?_
                rintro e w3 ⟨rfl, hb⟩
                have B3 := hide (B2.out.trans (hb.mono B2.out.size))
                clear hb
                go_wp2_with fail
                refine (VP.out _ (G.out.below B3.out)).mono ?_
                rintro e w4 ⟨rfl, hb⟩
                have B4 := hide (B3.out.trans (hb.mono B3.out.size))
                clear hb
                go_wp2_with fail
                refine (VQ.out _ (G.out.below B4.out)).mono ?_
                rintro e w5 ⟨rfl, hb⟩
                have B5 := hide (B4.out.trans (hb.mono B4.out.size))
                clear hb
                go_wp2_with fail
                refine (CC.out _ (G.out.below B5.out)).mono ?_
                rintro e wS ⟨rfl, rfl⟩
                go_wp2_with fail
                refine (VJ.out _ (G.out.below B5.out)).mono ?_
                rintro e w6 ⟨rfl, hb⟩
                have B6 := hide (B5.out.trans (hb.mono B5.out.size))
                clear hb
                go_wp2
                go_ret
                exact ⟨rfl, B6.out⟩
              | some rs =>
                rw [hrj, show (some rs).isSome = true from rfl] at VJ
                have hjoin : rs = ps ++ qs := readV_join hrp hrq (by have e : lp ++ [46] ++ lq = lp ++ 46 :: lq := by simp
                                                                     rw [← e]; exact hrj) hno
                have e1 : matchV (lp ++ [46] ++ lq) (bl L) = wantV ps qs (bl L) (L.length + 1) := by
                  unfold matchV; rw [hrj]
                  show mP rs (bl L) = _
                  rw [hjoin, ← bl_len L, wantV_all]
                rw [e1] at MJ
                have M1 := hide (fun (i n : Nat) (W : World) (hn : n = (L.take i).length) (h : Gm W) (h2 : Sl Value.string W Ap L) => (show Calls Try.prog 12 #[.string p, .slice Ap n capp] W fun e w' => e = .returned (.bool (mP ps ((bl L).take i))) ∧ Below W.heap.size W w' by
                  have := Match_pt lp Ap capp (L.take i) W (by omega) h (Sl_take h2 i) (by rw [List.length_take]; omega) (fun s hs => by have := f2 s (List.mem_of_mem_take hs); omega)
                  rw [← hp, ← hn, show matchV lp (bl (L.take i)) = mP ps ((bl L).take i) by unfold matchV; rw [hrp, bl_take]] at this
                  exact this))
                have M2 := hide (fun (i n c : Nat) (A : Option Addr) (W : World) (hn : n = (L.drop i).length) (h : Gm W) (h2 : Sl Value.string W A (L.drop i)) => (show Calls Try.prog 12 #[.string q, .slice A n c] W fun e w' => e = .returned (.bool (mP qs ((bl L).drop i))) ∧ Below W.heap.size W w' by
                  have := Match_pt lq A c (L.drop i) W (by omega) h h2 (by rw [List.length_drop]; omega) (fun s hs => by have := f2 s (List.mem_of_mem_drop hs); omega)
                  rw [← hq, ← hn, show matchV lq (bl (L.drop i)) = mP qs ((bl L).drop i) by unfold matchV; rw [hrq, bl_drop]] at this
                  exact this))
                clear hrp hrq hrj hp hq hct hno hj hj1 hjl hjoin e1 f2
                go_enter Try.func5, Try.ntmps5
                go_wp2_with fail
                refine AW.out.mono ?_
                rintro e w1 ⟨rfl, hb⟩
                have B1 := hide hb
                clear hb
                go_wp2_with fail
                refine (FW.out _ (Hsl.out.below B1.out)).mono ?_
                rintro e wS ⟨rfl, rfl⟩
                go_wp2_with fail
                refine (MA.out _ (G.out.below B1.out) (Hsl.out.below B1.out)).mono ?_
                rintro e w2 ⟨rfl, hb⟩
                have B2 := hide (B1.out.trans (hb.mono B1.out.size))
                clear hb
                go_wp2_with fail
                refine (MB.out _ (G.out.below B2.out) (Hsl.out.below B2.out)).mono ?_
                rintro e w3 ⟨rfl, hb⟩
                have B3 := hide (B2.out.trans (hb.mono B2.out.size))
                clear hb
                go_wp2_with fail
                refine (VP.out _ (G.out.below B3.out)).mono ?_
                rintro e w4 ⟨rfl, hb⟩
                have B4 := hide (B3.out.trans (hb.mono B3.out.size))
                clear hb
                go_wp2_with fail
                refine (VQ.out _ (G.out.below B4.out)).mono ?_
                rintro e w5 ⟨rfl, hb⟩
                have B5 := hide (B4.out.trans (hb.mono B4.out.size))
                clear hb
                go_wp2_with fail
                refine (CC.out _ (G.out.below B5.out)).mono ?_
                rintro e wS ⟨rfl, rfl⟩
                go_wp2_with fail
                refine (VJ.out _ (G.out.below B5.out)).mono ?_
                rintro e w6 ⟨rfl, hb⟩
                have B6 := hide (B5.out.trans (hb.mono B5.out.size))
                clear hb

                go_upto_region 11 with fail
                go_loopw [7, 8] (fun v7 v8 wr => ∃ i : Nat, v8 = .int .i64 (i : Int) ∧ i ≤ L.length + 1 ∧ v7 = .bool (wantV ps qs (bl L) i) ∧ Below w.heap.size w wr) (fun _ v _ => L.length + 1 - (intOf v).toNat)
                case atStart => exact ⟨0, rfl, Nat.zero_le _, rfl, B6.out⟩
                case round =>
                  obtain ⟨i, rfl, hi, rfl, hb⟩ := hrel
                  have B7 := hide hb
                  clear hb
                  by_cases hle : i ≤ L.length
                  · have hle' : (i : Int) ≤ (L.length : Int) := by omega
                    have hwi : IntKind.i64.wrap ((i : Int) + 1) = (i : Int) + 1 := IntWalk.i64_in _ (by omega)
                    have hi0 : (0 : Int) ≤ (i : Int) := by omega
                    have hicap : (i : Int) ≤ (capp : Int) := by omega
                    have HSu := hide (wantV_succ ps qs (bl L) i)
                    clear y1 y2
                    cases hwv : wantV ps qs (bl L) i with
                    | true =>
                      have HV := hide (show wantV ps qs (bl L) (i + 1) = true by rw [HSu.out, hwv]; rfl)
                      clear hwv
                      go_wp2
                      go_roundw
                      case rel => exact ⟨i + 1, by go_num, by omega, by rw [HV.out], B7.out⟩
                      case measure => simp [intOf]; omega
                    | false =>
                      cases hm1 : mP ps ((bl L).take i) with
                      | false =>
                        have HV := hide (show wantV ps qs (bl L) (i + 1) = false by rw [HSu.out, hwv, hm1]; rfl)
                        have M1i := hide (fun W hn h h2 => M1.out i i W hn h h2)
                        rw [hm1] at M1i
                        have hni : i = (L.take i).length := by rw [List.length_take]; omega
                        have HNi := hide hni
                        clear hwv hm1 hni
                        go_wp2_with fail
                        refine (M1i.out _ HNi.out (G.out.below B7.out) (Hsl.out.below B7.out)).mono ?_
                        rintro e w8 ⟨rfl, hb⟩
                        have B8 := hide (B7.out.trans (hb.mono B7.out.size))
                        clear hb
                        go_wp2
                        go_roundw
                        case rel => exact ⟨i + 1, by go_num, by omega, by rw [HV.out], B8.out⟩
                        case measure => simp [intOf]; omega
                      | true =>
                        have HV := hide (show wantV ps qs (bl L) (i + 1) = mP qs ((bl L).drop i) by rw [HSu.out, hwv, hm1]; rfl)
                        have M1i := hide (fun W hn h h2 => M1.out i i W hn h h2)
                        rw [hm1] at M1i
                        have hni : i = (L.take i).length := by rw [List.length_take]; omega
                        have HNi := hide hni
                        clear hwv hm1 hni
                        go_wp2_with fail
                        refine (M1i.out _ HNi.out (G.out.below B7.out) (Hsl.out.below B7.out)).mono ?_
                        rintro e w8 ⟨rfl, hb⟩
                        have B8 := hide (B7.out.trans (hb.mono B7.out.size))
                        clear hb
                        by_cases hce : i = capp
                        · subst hce
                          go_wp2_with fail
                          refine (M2.out i _ _ _ _ (by rw [List.length_drop]; omega) (G.out.below B8.out) (fun hp => absurd hp (by rw [List.length_drop]; omega))).mono ?_
                          rintro e w9 ⟨rfl, hb⟩
                          have B9 := hide (B8.out.trans (hb.mono B8.out.size))
                          clear hb
                          go_wp2
                          go_roundw
                          case rel => exact ⟨i + 1, by go_num, by omega, by rw [HV.out], B9.out⟩
                          case measure => simp [intOf]; omega
                        · have hne3 : ¬ capp ≤ i := by omega
                          go_wp2_with fail
                          refine (M2.out i (L.length - i) _ _ _ (by rw [List.length_drop]) (G.out.below B8.out) (Sl_drop2 (Hsl.out.below B8.out) i)).mono ?_
                          rintro e w9 ⟨rfl, hb⟩
                          have B9 := hide (B8.out.trans (hb.mono B8.out.size))
                          clear hb
                          go_wp2
                          go_roundw
                          case rel => exact ⟨i + 1, by go_num, by omega, by rw [HV.out], B9.out⟩
                          case measure => simp [intOf]; omega
                  · obtain rfl : i = L.length + 1 := by omega
                    have hnl : ¬ ((L.length + 1 : Nat) : Int) ≤ (L.length : Int) := by omega
                    generalize wantV ps qs (bl L) (L.length + 1) = res at *
                    clear hle hi
                    have hbb : (res == res) = true := beq_self_eq_true _
                    go_wp2_with fail
                    refine (MJ.out _ (G.out.below B7.out) (Hsl.out.below B7.out)).mono ?_
                    rintro e w8 ⟨rfl, hb⟩
                    have B8 := hide (B7.out.trans (hb.mono B7.out.size))
                    clear hb
                    go_wp2
                    go_ret
                    exact ⟨rfl, B8.out⟩
end patternJoined
end Go.Proofs.Ytcjehiecgdmidaa
