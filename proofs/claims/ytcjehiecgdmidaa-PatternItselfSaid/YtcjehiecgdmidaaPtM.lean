/- Contract of pattern's readWild. -/
import Derived.Test.YtcjehiecgdmidaaPtL
set_option linter.unusedVariables false
set_option linter.unusedSimpArgs false
namespace Go.Proofs.Ytcjehiecgdmidaa
open Go.RowKit Go.Shelf

theorem setV_len {s t : List UInt8} {x : It} (h : setV s = some (x, t)) : t.length ≤ s.length := by
  unfold setV at h
  simp only at h
  have h0 : (if decide (s.head? = some 33) = true then s.tail else s).length ≤ s.length := by
    split
    · rw [List.length_tail]; omega
    · exact Nat.le_refl _
  generalize (if decide (s.head? = some 33) = true then s.tail else s) = s1 at h h0
  unfold cutB at h
  by_cases hm : (93 : UInt8) ∈ s1
  · rw [if_pos hm] at h
    simp only [Option.bind_some] at h
    split at h
    · cases h
    · cases hs : setF (s1.takeWhile (· != 93)).length (s1.takeWhile (· != 93)) fun _ => false with
      | none => rw [hs] at h; cases h
      | some f =>
        rw [hs] at h
        simp only [Option.map_some, Option.some.injEq, Prod.mk.injEq] at h
        rw [← h.2, List.length_drop]; omega
  · rw [if_neg hm] at h; cases h
theorem nextV_len {s t : List UInt8} {x : It} (h : nextV s = some (x, t)) : t.length < s.length := by
  cases s with
  | nil => cases h
  | cons c r =>
    rw [nextV] at h
    have e : (c :: r).length = r.length + 1 := rfl
    split at h
    · cases h
    · split at h
      · have := setV_len h; omega
      · split at h
        · simp only [Option.some.injEq, Prod.mk.injEq] at h; rw [← h.2]; omega
        · split at h
          · simp only [Option.some.injEq, Prod.mk.injEq] at h; rw [← h.2]; omega
          · simp only [Option.some.injEq, Prod.mk.injEq] at h; rw [← h.2]; omega
theorem wildF_fuel : ∀ (n m : Nat) (s : List UInt8), s.length ≤ n → s.length ≤ m → wildF n s = wildF m s
  | 0, m, s, hn, _ => by
    have hs : s = [] := List.length_eq_zero_iff.1 (by omega)
    subst hs
    cases m <;> rfl
  | n + 1, 0, s, _, hm => by
    have hs : s = [] := List.length_eq_zero_iff.1 (by omega)
    subst hs; rfl
  | n + 1, m + 1, s, hn, hm => by
    unfold wildF
    by_cases hs : s = []
    · rw [if_pos hs, if_pos hs]
    · rw [if_neg hs, if_neg hs]
      cases h : nextV s with
      | none => rfl
      | some p =>
        have := nextV_len (x := p.1) (t := p.2) h
        simp only [Option.bind_some]
        rw [wildF_fuel n m p.2 (by omega) (by omega)]
theorem wildF_step (s : List UInt8) (hs : s ≠ []) : wildF s.length s = (nextV s).bind fun p => (wildF p.2.length p.2).map (p.1 :: ·) := by
  obtain ⟨n, hn⟩ : ∃ n, s.length = n + 1 := ⟨s.length - 1, by have := List.length_pos_iff.2 hs; omega⟩
  rw [hn]
  conv => lhs; unfold wildF
  rw [if_neg hs]
  cases h : nextV s with
  | none => rfl
  | some p =>
    have := nextV_len (x := p.1) (t := p.2) h
    simp only [Option.bind_some]
    rw [wildF_fuel n p.2.length p.2 (by omega) (Nat.le_refl _)]
/-- the cells of items -/
def itsL (O : List It) : List Value := O.flatMap itL
theorem itsL_len : ∀ O : List It, (itsL O).length = O.length * 259
  | [] => rfl
  | x :: O => by
    show (itL x ++ itsL O).length = _
    rw [List.length_append, itL_len, itsL_len O, List.length_cons]; omega
theorem itsL_snoc (O : List It) (x : It) : itsL O ++ itL x = itsL (O ++ [x]) := by
  unfold itsL
  rw [List.flatMap_append]; simp
theorem itsL_get : ∀ (O : List It) (i : Nat) (hi : i < O.length) (j : Nat), j < 259 → (itsL O)[i * 259 + j]? = (itL O[i])[j]?
  | x :: O, 0, _, j, hj => by
    show (itL x ++ itsL O)[0 * 259 + j]? = _
    rw [List.getElem?_append_left (by rw [itL_len]; omega)]
    simp
  | x :: O, i + 1, hi, j, hj => by
    show (itL x ++ itsL O)[(i + 1) * 259 + j]? = _
    rw [List.getElem?_append_right (by rw [itL_len]; omega), itL_len, show (i + 1) * 259 + j - 259 = i * 259 + j by omega]
    exact itsL_get O i (by simpa using hi) j hj
/-- items lie in a block from its beginning on -/
def WIt (W : World) (g : Nat) (O : List It) : Prop := ∀ i, ∀ hi : i < O.length, ∀ j v, (itL O[i])[j]? = some v → W.cell? ⟨g, i * 259 + j, none⟩ = some v
theorem WIt.items {W : World} {g : Nat} {O : List It} (h : WIt W g O) : Items W g 0 O := items_of W g 0 O fun i hi j v hv => by
  rw [Nat.zero_add]; exact h i hi j v hv
theorem WIt.below {W W' : World} {g B : Nat} {O : List It} (h : WIt W g O) (hb : Below B W W') (hg : g < B) : WIt W' g O := fun i hi j v hv => by
  rw [← h i hi j v hv]
  exact World.cell?_of_block (hb.block g hg)
theorem WIt.own {W : World} {base g n cap : Nat} {e : TypeId} {O : List It} (h : W.ownsRow base e 259 (.slice (some ⟨g, 0, none⟩) n cap) n (itsL O)) (hn : n = O.length) : WIt W g O := fun i hi j v hv => by
  have hj : j < 259 := by
    have := (List.getElem?_eq_some_iff.1 hv).1
    rwa [itL_len] at this
  rw [World.ownsRow.cellAt h (i * 259 + j) (by subst hn; have := Nat.mul_le_mul_right 259 hi; rw [Nat.succ_mul] at this; omega), itsL_get O i hi j hj]
  exact hv
def WildPost (R : Option (List It)) (B : Nat) (w : World) (e : Ending) (w' : World) : Prop :=
  match R with
  | none => e = .returned (.tuple #[.nilIface, .bool false]) ∧ Below B w w'
  | some O => ∃ g cap, e = .returned (.tuple #[.iface 65 (.slice (some ⟨g, 0, none⟩) O.length cap), .bool true]) ∧ WIt w' g O ∧ 1 ≤ O.length ∧ O.length ≤ cap ∧ O.length ≤ 64 ∧ B ≤ g ∧ g < w'.heap.size ∧ Below B w w'
theorem infoIt : (Try.prog.info? 67).map (fun i => (i.zero, i.size, i.bytes)) = some (some (.agg (itL noIt).toArray), 259, 259) := by kernel_rfl

set_option maxRecDepth 100000 in
set_option maxHeartbeats 8000000 in
theorem readWild_any (l : List UInt8) (w : World) (hl : l.length ≤ 1000) (hg : Gm w) :
    Calls Try.prog 27 #[.string (bsP l)] w (WildPost (wildV l) w.heap.size w) := by
  by_cases h1 : l = []
  · subst h1
    have hno := bsP_no
    have hR := hide (show wildV [] = none from rfl)
    generalize wildV [] = R at *
    go_enter Try.func27, Try.ntmps27
    go_wp2
    go_ret2
    rw [hR.out]
    exact ⟨rfl, Below.refl _ _⟩
  · by_cases h2 : 64 < l.length
    · have hne := bsP_ne h1
      have hs : (64 : Int) < ((bsP l).size : Int) := by rw [bsP_size]; omega
      have hR := hide (show wildV l = none by unfold wildV; rw [if_pos (.inr h2)])
      generalize wildV l = R at *
      generalize bsP l = s at *
      go_enter Try.func27, Try.ntmps27
      go_wp2
      go_ret2
      rw [hR.out]
      exact ⟨rfl, Below.refl _ _⟩
    · have hne := bsP_ne h1
      have hs : ¬ (64 : Int) < ((bsP l).size : Int) := by rw [bsP_size]; omega
      have hR : wildV l = wildF l.length l := by unfold wildV; rw [if_neg (by rintro (h | h); exact h1 h; exact h2 h)]
      have G := hide hg
      have HR := hide hR
      generalize wildV l = R at *
      clear hR hg
      go_enter Try.func27, Try.ntmps27
      go_upto_region 4 with fail
      clear hne hs
      go_loopg [0, 4] l.length (fun g v0 v4 wx => ∃ (r : List UInt8) (O : List It), v0 = .string (bsP r) ∧ g = r.length ∧ R = (wildF r.length r).map (O ++ ·) ∧ wx.ownsRow w.heap.size 67 259 v4 O.length (itsL O) ∧ Below w.heap.size w wx ∧ O.length + r.length ≤ 64 ∧ (O = [] → r ≠ []))
      case atStart =>
        refine ⟨l, [], rfl, rfl, ?_, World.ownsRow_nil _ _ _ _, Below.refl _ _, by simp; omega, fun _ => h1⟩
        rw [HR.out]
        cases wildF l.length l <;> rfl
      case round =>
        obtain ⟨r, O, rfl, rfl, hRr, hown, hb, hO, hO0⟩ := hrel
        have Hown := hide hown
        have Hb := hide hb
        have HRr := hide hRr
        clear hown hb hRr
        by_cases hr : r = []
        · subst hr
          have hno := bsP_no
          have hRs : R = some O := by rw [HRr.out]; show some (O ++ []) = _; rw [List.append_nil]
          have hOp : 0 < O.length := List.length_pos_iff.2 fun e => hO0 e rfl
          obtain ⟨g, cap, rfl, hg0, _⟩ := World.ownsRow.form Hown.out hOp
          have hlt := World.ownsRow.lt Hown.out g rfl
          have hcap : O.length ≤ cap := by
            rcases Hown.out.2 with ⟨h0, h1⟩ | ⟨g', cap', cur, hv, _, _, hle, _⟩
            · cases h0
            · cases hv; exact hle
          have HF := hide (show WildPost (some O) w.heap.size w (.returned (.tuple #[.iface 65 (.slice (some ⟨g, 0, none⟩) O.length cap), .bool true])) wr from ⟨g, cap, rfl, WIt.own Hown.out rfl, hOp, hcap, by simpa using hO, hlt.1, hlt.2, Hb.out⟩)
          have HRs := hide hRs
          clear hRs hOp hlt hcap hg0 hO hO0
          go_wp2
          go_ret2
          rw [HRs.out]
          exact HF.out
        · have hne := bsP_ne hr
          have hrz : r.length ≤ 64 := by omega
          have N := hide (next_any r wr hr (by omega) (G.out.below Hb.out))
          have hstep := wildF_step r hr
          have HStep := hide hstep
          have hrl := hide hO
          clear hstep hO hO0
          have hz := zero_it
          obtain ⟨Z, hZ⟩ : ∃ Z, itL noIt = Z := ⟨_, rfl⟩
          rw [hZ] at hz
          have HL := hide (show Z.length = 259 by rw [← hZ]; exact itL_len _)
          have Hz := hide hz
          clear hZ
          go_wp2_with fail
          refine N.out.mono ?_
          rintro e w1 ⟨x, t, ok, rfl, hN, hb1⟩
          obtain ⟨Zx, hZx⟩ : ∃ Zx, itL x = Zx := ⟨_, rfl⟩
          have hx : Zx.length = 259 := by rw [← hZx]; exact itL_len _
          have Hone := hide (show Zx.toArray.all (·.oneCell') = true by rw [← hZx]; exact itL_one _)
          have HI := hide (show (Try.prog.info? 67).map (·.size) = some Zx.length by rw [hx]; kernel_rfl)
          have HI2 := hide (show (Try.prog.info? 67).map (·.size) = some Zx.toArray.size by rw [List.size_toArray]; exact HI.out)
          have r1 : Row (w1.alloc (.cells Z.toArray 67)) w1.heap.size 67 Z.toArray := Row.new _ _ _
          have t0 : (w1.alloc (.cells Z.toArray 67)).there w1.heap.size 0 Zx.length := fun j hj => by
            rw [Nat.zero_add]
            refine ⟨?_, r1.frozen j⟩
            rw [r1.cell j]
            have := HL.out
            simp; omega
          have T0 := hide (show (w1.alloc (.cells Z.toArray 67)).there w1.heap.size 0 Zx.toArray.size by rw [List.size_toArray]; exact t0)
          have HRg := hide (World.rangeAt_setCells_same (w1.alloc (.cells Z.toArray 67)) w1.heap.size 0 Zx t0)
          have hb2 : Below w1.heap.size w1 ((w1.alloc (.cells Z.toArray 67)).setCells w1.heap.size 0 Zx) := ((Below.refl _ _).alloc (Nat.le_refl _) _).trans (Below.setCells_ge w1.heap.size w1.heap.size (Nat.le_refl _) Zx 0 _)
          have HB2 := hide ((Hb.out.trans (hb1.mono Hb.out.size)).trans (hb2.mono (Nat.le_trans Hb.out.size hb1.size)))
          have HOwn2 := hide (ownsRow_below (ownsRow_below Hown.out hb1) hb2)
          have HZx := hide hZx
          have HN := hide hN
          rw [hZx]
          clear hZx r1 t0 hb1 hb2 hN
          cases ok with
          | false =>
            have hRn : R = none := by rw [HRr.out, HStep.out, HN.out]; rfl
            have HRn := hide hRn
            clear hRn
            go_wp2_with (refine wpList_store_mid rfl 67 (.tmp 5) (.tmp 20) rfl w1.heap.size 0 Zx.toArray rfl rfl T0.out HI2.out Hone.out ?_)
            go_ret2
            rw [HRn.out]
            exact ⟨rfl, HB2.out⟩
          | true =>
            have hRs : R = (wildF t.length t).map ((O ++ [x]) ++ ·) := by
              rw [HRr.out, HStep.out, HN.out]
              simp only [if_pos, Option.bind_some]
              cases wildF t.length t with
              | none => rfl
              | some M => show some (O ++ (x :: M)) = some ((O ++ [x]) ++ M); rw [List.append_assoc]; rfl
            have HRs := hide hRs
            have Hx := hide (show 0 < Zx.length ∧ Zx.length ≤ 1000 by rw [hx]; omega)
            have htl : t.length < r.length := nextV_len (x := x) (by rw [HN.out]; rfl)
            clear hRs
            go_upto_region 8 with (refine wpList_store_mid rfl 67 (.tmp 5) (.tmp 20) rfl w1.heap.size 0 Zx.toArray rfl rfl T0.out HI2.out Hone.out ?_)
            obtain ⟨W4, hW4⟩ : ∃ W4, (w1.alloc (.cells Z.toArray 67)).setCells w1.heap.size 0 Zx.toArray.toList = W4 := ⟨_, rfl⟩
            have HRg4 := hide (show W4.rangeAt w1.heap.size 0 Zx by rw [← hW4]; exact HRg.out)
            have HB4 := hide (show Below w.heap.size w W4 by rw [← hW4]; exact HB2.out)
            have HOwn4 := hide (show W4.ownsRow w.heap.size 67 259 u4 O.length (itsL O) by rw [← hW4]; exact HOwn2.out)
            rw [hW4]
            clear hW4 HRg HB2 HOwn2
            go_step
            go_step
            go_step
            go_step
            refine wpList_load_mid rfl 67 (.tmp 5) rfl w1.heap.size 0 rfl Zx _ HRg4.out Try.underlying67 rfl HI.out ?_
            refine wpList_build1 rfl 65 67 (.tmp 26) rfl Zx Z rfl Try.underlying65 Hz.out HI.out Hx.out.1 Hx.out.2 ?_
            refine wpList_append_at _ rfl _ _ 65 rfl w.heap.size 67 infoIt Try.underlying65 (by simp [Value.cells, itL_len]) (by decide) u4 O.length (itsL O) rfl (HOwn4.out.alloc (.cells Zx.toArray 67)) ⟨W4.heap.size, 0, none⟩ 1 1 Zx rfl (by rw [hx]) ?hc ?h1c ?b1 ?b2 ?b3 ?_
            case hc =>
              intro j u hu
              have : (W4.alloc (.cells Zx.toArray 67)).cell? ⟨W4.heap.size, j, none⟩ = Zx.toArray[j]? := (Row.new W4 67 Zx.toArray).cell j
              rw [Addr.add_mid, Nat.zero_add, this]; simpa using hu
            case h1c => exact fun u hu => (Array.all_eq_true_iff_forall_mem.1 Hone.out) u (by simpa using hu)
            case b1 => unfold maxLen; have := hrl.out; omega
            case b2 => have := hrl.out; omega
            case b3 => rw [World.size_alloc]; have := HB4.out.size; omega
            intro v' w5 hown5 hgrow5 _ _
            have Hown5 := hide (show w5.ownsRow w.heap.size 67 259 v' (O ++ [x]).length (itsL (O ++ [x])) by
              rw [← itsL_snoc, HZx.out, List.length_append]; exact hown5)
            have HB5 := hide ((HB4.out.alloc HB4.out.size (.cells Zx.toArray 67)).grown hgrow5 (by rw [World.size_alloc]; have := HB4.out.size; omega) (fun j hj => (World.ownsRow.lt (HOwn4.out.alloc (.cells Zx.toArray 67)) j hj).1))
            clear hown5 hgrow5
            go_wp2
            go_roundg t.length
            case measure => exact htl
            case rel => exact ⟨t, O ++ [x], rfl, rfl, HRs.out, Hown5.out, HB5.out, by have := hrl.out; rw [List.length_append, List.length_singleton]; omega, fun e => by simp at e⟩
end Go.Proofs.Ytcjehiecgdmidaa
