/- The walk of PatternPrefix. -/
import Derived.Test.YtcjehiecgdmidaaPtV
import Derived.Test.YtcjehiecgdmidaaPtW
import Derived.Test.YtcjehiecgdmidaaFew
set_option linter.unusedVariables false
set_option linter.unusedSimpArgs false
namespace Go.Proofs.Ytcjehiecgdmidaa
open Go.RowKit Go.Shelf
theorem Few_12_60 (A : Option Addr) (n cap : Nat) (L : List ByteArray) (w : World) (hn : n = L.length) (hl : L.length ≤ maxLen) (hw : Sl Value.string w A L) :
    Calls Try.prog 9 #[.slice A n cap, .int .i64 12, .int .i64 60] w fun e w' => e = .returned (.bool (fewB 12 60 L)) ∧ w' = w := Few_any 12 60 A n cap L w hn hl hw
theorem bl_map (N : List (List UInt8)) : bl (N.map bsP) = N := by
  unfold bl
  rw [List.map_map]
  exact List.map_id N
theorem map_bl (L : List ByteArray) : (bl L).map bsP = L := by
  unfold bl
  rw [List.map_map]
  exact List.map_id L
theorem Sl_take {W : World} {A : Option Addr} {L : List ByteArray} (h : Sl Value.string W A L) (n : Nat) : Sl Value.string W A (L.take n) := fun hp => by
  rw [List.length_take] at hp
  obtain ⟨b, off, h1, h2⟩ := h (by omega)
  exact ⟨b, off, h1, fun i hi => by
    rw [List.length_take] at hi
    rw [h2 i (by omega), List.getElem_take]⟩
theorem readF_len : ∀ (k : Nat) (l : List UInt8) (ps : List Pt), readF k l = some ps → ps.length ≤ k
  | 0, l, ps, h => by cases h
  | k + 1, l, ps, h => by
    unfold readF at h
    cases hp : partV (cutN l).1 with
    | none => rw [hp] at h; cases h
    | some x =>
      rw [hp] at h
      simp only [Option.bind_some] at h
      split at h
      · cases hr : readF k (cutN l).2.1 with
        | none => rw [hr] at h; cases h
        | some qs =>
          rw [hr] at h
          cases h
          have := readF_len k _ qs hr
          rw [List.length_cons]; omega
      · cases h; simp
theorem wildF_len : ∀ (n : Nat) (s : List UInt8) (w : List It), wildF n s = some w → w.length ≤ n
  | 0, s, w, h => by
    unfold wildF at h
    split at h
    · cases h; exact Nat.le_refl _
    · cases h
  | n + 1, s, w, h => by
    unfold wildF at h
    split at h
    · cases h; exact Nat.zero_le _
    · cases hn : nextV s with
      | none => rw [hn] at h; cases h
      | some p =>
        rw [hn] at h
        simp only [Option.bind_some] at h
        cases hw : wildF n p.2 with
        | none => rw [hw] at h; cases h
        | some w2 =>
          rw [hw] at h
          cases h
          have := wildF_len n _ w2 hw
          rw [List.length_cons]; omega
theorem partV_name {s : List UInt8} {x : Pt} (h : partV s = some x) : ∀ n, x.fixed = some n → n.length ≤ 64 := by
  intro n hn
  rcases partV_some h with ⟨_, rfl⟩ | ⟨_, he, rfl⟩ | ⟨w, hw, rfl⟩
  · cases hn
  · cases hn
    obtain ⟨h1, h2⟩ := escN_iff.1 he
    rw [vN_esc h1, Bool.and_eq_true, decide_eq_true_eq] at h2
    omega
  · have h2 : (if w.all It.isPlain then some (w.map It.self) else none) = some n := hn
    split at h2
    · cases h2
      obtain ⟨_, h3, h4⟩ := wildV_some hw
      have := wildF_len _ _ _ h4
      rw [List.length_map]; omega
    · cases h2
theorem prefixV_names : ∀ ps : List Pt, (∀ x ∈ ps, ∀ n, x.fixed = some n → n.length ≤ 64) → (prefixV ps).length ≤ ps.length ∧ ∀ s ∈ prefixV ps, s.length ≤ 64
  | [], _ => ⟨Nat.le_refl _, fun s hs => by cases hs⟩
  | x :: xs, h => by
    have ih := prefixV_names xs fun y hy => h y (List.mem_cons_of_mem _ hy)
    cases hx : x.fixed with
    | none => unfold prefixV; rw [hx]; exact ⟨Nat.zero_le _, fun s hs => by cases hs⟩
    | some n =>
      have e : prefixV (x :: xs) = n :: prefixV xs := by conv => lhs; unfold prefixV; rw [hx]
      rw [e]
      refine ⟨by rw [List.length_cons, List.length_cons]; omega, fun s hs => ?_⟩
      rcases List.mem_cons.1 hs with rfl | hs
      · exact h x (List.mem_cons_self ..) _ hx
      · exact ih.2 s hs
theorem readV_names {l : List UInt8} {ps : List Pt} (h : readV l = some ps) : (prefixV ps).length ≤ 1000 ∧ ∀ s ∈ prefixV ps, s.length ≤ 1000000 := by
  have h1 := readF_len 16 l ps (readV_some h).2.2
  obtain ⟨h2, h3⟩ := prefixV_names ps (readF_all (T := fun _ => True) (U := fun x => ∀ n, x.fixed = some n → n.length ≤ 64) (fun _ _ _ => ⟨trivial, trivial⟩) (fun s x hs _ => partV_name hs) 16 l ps (readV_some h).2.2 trivial)
  exact ⟨by omega, fun s hs => by have := h3 s hs; omega⟩
namespace patternPrefix
set_option maxRecDepth 20000 in
set_option maxHeartbeats 8000000 in
theorem walk (p : ByteArray) (Ap : Option Addr) (len capp : Nat) (L : List ByteArray) (w : World) (hzp : p.size ≤ maxLen) (hn : L.length = len) (hl : len ≤ maxLen) (hw : Sl Value.string w Ap L ∧ (∀ s ∈ L, s.size ≤ maxLen) ∧ len ≤ capp) (hg : Gm w) :
    Calls Try.prog 3 #[.string p, .slice Ap len capp] w fun e w' => e = .returned (.bool true) ∧ Below w.heap.size w w' := by
  subst hn
  obtain ⟨hsl, _, hcap⟩ := hw
  have AW := hide (awake_pt w hg)
  have G := hide hg
  have Hsl := hide hsl
  have FW := hide (fun (W : World) (h : Sl Value.string W Ap L) => Few_12_60 Ap L.length capp L W rfl hl h)
  clear hsl hg
  by_cases hbig : 200 < p.size
  · have hb' : (200 : Int) < (p.size : Int) := by omega
    go_enter Try.func3, Try.ntmps3
    go_wp2_with fail
    refine AW.out.mono ?_
    rintro e w1 ⟨rfl, hb⟩
    have B1 := hide hb
    clear hb
    go_wp2
    go_ret
    exact ⟨rfl, B1.out⟩
  · have hb' : ¬ (200 : Int) < (p.size : Int) := by omega
    cases hf : fewB 12 60 L with
    | false =>
      rw [hf] at FW
      clear hf
      go_enter Try.func3, Try.ntmps3
      go_wp2_with fail
      refine AW.out.mono ?_
      rintro e w1 ⟨rfl, hb⟩
      have B1 := hide hb
      clear hb
      go_wp2_with fail
      refine (FW.out _ (Hsl.out.below B1.out)).mono ?_
      rintro e w1 ⟨rfl, rfl⟩
      go_wp2
      go_ret
      exact ⟨rfl, B1.out⟩
    | true =>
      rw [hf] at FW
      obtain ⟨f1, f2⟩ := fewB_spec hf
      clear hf
      obtain ⟨l, hp⟩ : ∃ l, p = bsP l := ⟨p.data.toList, bsP_of p⟩
      have hlz : l.length ≤ 200 := by have := bsP_size l; rw [← hp] at this; omega
      have PX := hide (fun (W : World) (h : Gm W) => Prefix_pt l W (by omega) h)
      have VX := hide (fun (W : World) (h : Gm W) => Valid_pt l W (by omega) h)
      have MX := hide (fun (W : World) (h : Gm W) (h2 : Sl Value.string W Ap L) => Match_pt l Ap capp L W (by omega) h h2 (by omega) (fun s hs => by have := f2 s hs; omega))
      have MN := hide (fun (A : Option Addr) (n cap : Nat) (N : List (List UInt8)) (W : World) (hn : n = N.length) (h : Gm W) (h2 : Sl Value.string W A (N.map bsP)) (h3 : N.length ≤ 1000) (h4 : ∀ s ∈ N, s.length ≤ 1000000) =>
        (show Calls Try.prog 12 #[.string (bsP l), .slice A n cap] W fun e w' => e = .returned (.bool (matchV l N)) ∧ Below W.heap.size W w' by
          have := Match_pt l A cap (N.map bsP) W (by omega) h h2 (by rw [List.length_map]; omega) (by
            intro s hs
            obtain ⟨t, ht, rfl⟩ := List.mem_map.1 hs
            rw [bsP_size]; exact h4 t ht)
          rw [List.length_map, bl_map, ← hn] at this
          exact this))
      cases hr : readV l with
      | none =>
        have e1 : prefV l = [] := by unfold prefV; rw [hr]
        have e2 : matchV l (bl L) = false := by unfold matchV; rw [hr]
        rw [hr] at VX
        have PX2 := hide (fun W h => PX.out W h)
        rw [e1] at PX2
        rw [e2] at MX
        rw [← hp] at PX2 VX MX
        rw [show (none : Option (List Pt)).isSome = false from rfl] at VX
        clear hr e1 e2 PX MN f2 hp
        go_enter Try.func3, Try.ntmps3
        go_wp2_with fail
        refine AW.out.mono ?_
        rintro e w1 ⟨rfl, hb⟩
        have B1 := hide hb
        clear hb
        go_wp2_with fail
        refine (FW.out _ (Hsl.out.below B1.out)).mono ?_
        rintro e w1 ⟨rfl, rfl⟩
        go_wp2_with fail
        refine (PX2.out _ (G.out.below B1.out)).mono ?_
        rintro e w2 ⟨A, cap, rfl, _, _, hb⟩
        have B2 := hide (B1.out.trans (hb.mono B1.out.size))
        clear hb
        go_wp2_with fail
        refine (VX.out _ (G.out.below B2.out)).mono ?_
        rintro e w3 ⟨rfl, hb⟩
        have B3 := hide (B2.out.trans (hb.mono B2.out.size))
        clear hb
        go_wp2_with fail
        refine (MX.out _ (G.out.below B3.out) (Hsl.out.below B3.out)).mono ?_
        rintro e w4 ⟨rfl, hb⟩
        have B4 := hide (B3.out.trans (hb.mono B3.out.size))
        clear hb
        go_wp2
        go_ret
        exact ⟨rfl, B4.out⟩
      | some ps =>
        have e1 : prefV l = prefixV ps := by unfold prefV; rw [hr]
        have e2 : matchV l (bl L) = mP ps (bl L) := by unfold matchV; rw [hr]
        have e3 : ∀ N, matchV l N = mP ps N := fun N => by unfold matchV; rw [hr]
        have hfit := readV_fit hr
        have hasc := readV_bytes hr
        have hfix := fun h => prefix_all ps hfit (readV_fixed hr h)
        have hpre := prefix_of ps (bl L) hfit
        have hpl := readV_names hr
        rw [e1] at PX
        rw [e2] at MX
        rw [hr] at VX
        rw [show (some ps).isSome = true from rfl] at VX
        obtain ⟨N, hN⟩ : ∃ N, prefixV ps = N := ⟨_, rfl⟩
        rw [hN] at PX hfix hpre hpl
        have MN2 := hide (fun A n cap W hn h h2 => MN.out A n cap N W hn h h2 hpl.1 hpl.2)
        rw [e3] at MN2
        have CA := hide (fun W : World => Try.strings_ContainsAny (zero_of_info (n := 256) (by kernel_rfl)).1 p ⟨#[42, 63, 91]⟩ W (by omega) (by decide) (by
          intro j b hj
          rw [hp] at hj
          exact hasc b (List.mem_of_getElem? hj)) (by
          intro j b hj
          have : b ∈ ([42, 63, 91] : List UInt8) := List.mem_of_getElem? hj
          simp at this
          rcases this with rfl | rfl | rfl <;> decide))
        have hca : Lib.containsAny p.data.toList [42, 63, 91] = false → mP ps N = true := fun h => hfix fun c hc => by
          rw [hp, bsP_list, containsAny_eq, List.any_eq_false] at h
          have := h c hc
          simp at this
          exact this
        rw [show (⟨#[42, 63, 91]⟩ : ByteArray).data.toList = [42, 63, 91] from rfl] at CA
        rw [← hp] at PX VX MX MN2
        have HN := hide hN
        have Hpl := hide hpl
        have Hca := hide hca
        have Hpre := hide hpre
        have HF1 := hide f1
        clear hr e1 e2 e3 hfit hasc hfix hp MN f2 hN hpl hca hpre
        generalize Lib.containsAny p.data.toList [42, 63, 91] = ca at *
        go_enter Try.func3, Try.ntmps3
        go_wp2_with fail
        refine AW.out.mono ?_
        rintro e w1 ⟨rfl, hb⟩
        have B1 := hide hb
        clear hb
        go_wp2_with fail
        refine (FW.out _ (Hsl.out.below B1.out)).mono ?_
        rintro e w1 ⟨rfl, rfl⟩
        go_wp2_with fail
        refine (PX.out _ (G.out.below B1.out)).mono ?_
        rintro e w2 ⟨A, cap, rfl, hs2, hc2, hb⟩
        have B2 := hide (B1.out.trans (hb.mono B1.out.size))
        have Hs2 := hide hs2
        have Hc2 := hide hc2
        clear hb hs2 hc2
        go_wp2_with fail
        refine (VX.out _ (G.out.below B2.out)).mono ?_
        rintro e w3 ⟨rfl, hb⟩
        have B3 := hide (B2.out.trans (hb.mono B2.out.size))
        have Hs3 := hide (Hs2.out.below hb)
        clear hb
        go_wp2_with fail
        refine (CA.out _).mono ?_
        rintro e w4 ⟨rfl, hb⟩
        have B4 := hide (B3.out.trans (hb.mono B3.out.size))
        have Hs4 := hide (Hs3.out.below hb)
        clear hb
        cases ca with
        | false =>
          have hca := Hca.out rfl
          rw [hca] at MN2
          clear hca Hca
          go_wp2_with fail
          refine (MN2.out _ _ _ _ rfl (G.out.below B4.out) Hs4.out).mono ?_
          rintro e w5 ⟨rfl, hb⟩
          have B5 := hide (B4.out.trans (hb.mono B4.out.size))
          have Hs5 := hide (Hs4.out.below hb)
          clear hb
          cases hm : mP ps (bl L) with
          | false =>
            rw [hm] at MX
            clear hm
            go_wp2_with fail
            refine (MX.out _ (G.out.below B5.out) (Hsl.out.below B5.out)).mono ?_
            rintro e w8 ⟨rfl, hb⟩
            have B8 := hide (B5.out.trans (hb.mono B5.out.size))
            clear hb
            go_wp2
            go_ret
            exact ⟨rfl, B8.out⟩
          | true =>
            rw [hm] at MX
            obtain ⟨g1, g2⟩ := Hpre.out hm
            rw [bl_len] at g1
            have hle : (N.length : Int) ≤ (L.length : Int) := by omega
            have hle2 : (N.length : Int) ≤ (capp : Int) := by omega
            have hle0 : (0 : Int) ≤ (N.length : Int) := by omega
            have htk : L.take N.length = N.map bsP := by
              have e := congrArg (List.map bsP) g2
              rw [List.map_take, map_bl] at e
              exact e.symm
            have T := hide (fun (W : World) (h1 : Sl Value.string W A (N.map bsP)) (h2 : Sl Value.string W Ap L) => Texts_eq A Ap N.length N.length cap capp (N.map bsP) W (by rw [List.length_map]) (by rw [List.length_map]) (by have := Hpl.out.1; rw [List.length_map]; omega) h1 (by rw [← htk]; exact Sl_take h2 _))
            clear hm g1 g2 htk
            go_wp2_with fail
            refine (MX.out _ (G.out.below B5.out) (Hsl.out.below B5.out)).mono ?_
            rintro e w8 ⟨rfl, hb⟩
            have B8 := hide (B5.out.trans (hb.mono B5.out.size))
            have Hs8 := hide (Hs5.out.below hb)
            clear hb
            go_wp2_with fail
            refine (T.out _ Hs8.out (Hsl.out.below B8.out)).mono ?_
            rintro e w9 ⟨rfl, hb⟩
            have B9 := hide (B8.out.trans (hb.mono B8.out.size))
            clear hb
            go_wp2
            go_ret
            exact ⟨rfl, B9.out⟩
        | true =>
          cases hm : mP ps (bl L) with
          | false =>
            rw [hm] at MX
            clear hm
            go_wp2_with fail
            refine (MX.out _ (G.out.below B4.out) (Hsl.out.below B4.out)).mono ?_
            rintro e w8 ⟨rfl, hb⟩
            have B8 := hide (B4.out.trans (hb.mono B4.out.size))
            clear hb
            go_wp2
            go_ret
            exact ⟨rfl, B8.out⟩
          | true =>
            rw [hm] at MX
            obtain ⟨g1, g2⟩ := Hpre.out hm
            rw [bl_len] at g1
            have hle : (N.length : Int) ≤ (L.length : Int) := by omega
            have hle2 : (N.length : Int) ≤ (capp : Int) := by omega
            have hle0 : (0 : Int) ≤ (N.length : Int) := by omega
            have htk : L.take N.length = N.map bsP := by
              have e := congrArg (List.map bsP) g2
              rw [List.map_take, map_bl] at e
              exact e.symm
            have T := hide (fun (W : World) (h1 : Sl Value.string W A (N.map bsP)) (h2 : Sl Value.string W Ap L) => Texts_eq A Ap N.length N.length cap capp (N.map bsP) W (by rw [List.length_map]) (by rw [List.length_map]) (by have := Hpl.out.1; rw [List.length_map]; omega) h1 (by rw [← htk]; exact Sl_take h2 _))
            clear hm g1 g2 htk
            go_wp2_with fail
            refine (MX.out _ (G.out.below B4.out) (Hsl.out.below B4.out)).mono ?_
            rintro e w8 ⟨rfl, hb⟩
            have B8 := hide (B4.out.trans (hb.mono B4.out.size))
            have Hs8 := hide (Hs4.out.below hb)
            clear hb
            go_wp2_with fail
            refine (T.out _ Hs8.out (Hsl.out.below B8.out)).mono ?_
            rintro e w9 ⟨rfl, hb⟩
            have B9 := hide (B8.out.trans (hb.mono B8.out.size))
            clear hb
            go_wp2
            go_ret
            exact ⟨rfl, B9.out⟩
end patternPrefix
end Go.Proofs.Ytcjehiecgdmidaa
