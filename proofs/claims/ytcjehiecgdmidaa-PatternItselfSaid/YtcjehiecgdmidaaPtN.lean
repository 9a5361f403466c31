/- Contract of pattern's read. -/
import Derived.Test.YtcjehiecgdmidaaPtM
import Derived.Test.YtcjehiecgdmidaaNmV
set_option linter.unusedVariables false
set_option linter.unusedSimpArgs false
namespace Go.Proofs.Ytcjehiecgdmidaa
open Go.RowKit Go.Shelf

/-! ### how a pattern is read -/
def partV (s : List UInt8) : Option Pt := if s = [42, 42] then some .any else if s.head? = some 92 then (if escN s then some (.lit s) else none) else (wildV s).map .wild
def readF : Nat → List UInt8 → Option (List Pt)
  | 0, _ => none
  | k + 1, l => (partV (cutN l).1).bind fun x => if (cutN l).2.2 then (readF k (cutN l).2.1).map (x :: ·) else some [x]
def readV (l : List UInt8) : Option (List Pt) := if l = [] ∨ 200 < l.length then none else readF 16 l
theorem cutP_len (l sub : List UInt8) : (Lib.cut l sub).1.length ≤ l.length ∧ (Lib.cut l sub).2.1.length ≤ l.length := by
  unfold Lib.cut; split
  · constructor
    · simp only [List.length_take]; omega
    · simp only [List.length_drop]; omega
  · exact ⟨Nat.le_refl _, Nat.zero_le _⟩
theorem cutP_head (l : List UInt8) (x : UInt8) (sub : List UInt8) (h : (Lib.cut l sub).1.head? = some x) : l.head? = some x := by
  rcases cut_dec l sub with ⟨h1, _⟩ | ⟨a, r, h1, h2, _⟩
  · rw [h1] at h; exact h
  · rw [h2] at h
    rw [h1]
    cases a with
    | nil => cases h
    | cons b t => exact h
theorem cutP_head' (l : List UInt8) (x y : UInt8) (s : List UInt8) (hl : l.head? = some x) (hn : x ≠ y) : (Lib.cut l (y :: s)).1.head? = some x := by
  rcases cut_dec l (y :: s) with ⟨h1, _⟩ | ⟨a, r, h1, h2, _⟩
  · rw [h1]; exact hl
  · rw [h2]
    rw [h1] at hl
    cases a with
    | nil => exact absurd (Option.some.inj hl).symm hn
    | cons b t => exact hl
/-! ### parts in memory -/
def PartIs (W : World) (no : Option Nat) (x : Pt) (v : Value) : Prop :=
  match x with
  | .any => v = .iface 51 (.agg #[])
  | .lit n => v = .iface 52 (.string (bsP n)) ∧ n.length ≤ 32
  | .wild O => ∃ g cap, v = .iface 65 (.slice (some ⟨g, 0, none⟩) O.length cap) ∧ WIt W g O ∧ 1 ≤ O.length ∧ O.length ≤ cap ∧ O.length ≤ 64 ∧ g < W.heap.size ∧ some g ≠ no
theorem PartIs.below {W W' : World} {no : Option Nat} {x : Pt} {v : Value} (h : PartIs W no x v) (hb : Below W.heap.size W W') : PartIs W' no x v := by
  cases x with
  | any => exact h
  | lit n => exact h
  | wild O =>
    obtain ⟨g, cap, h1, h2, h3, h4, h5, h6, h7⟩ := h
    exact ⟨g, cap, h1, h2.below hb h6, h3, h4, h5, Nat.lt_of_lt_of_le h6 hb.size, h7⟩
theorem PartIs.free {W : World} {no : Option Nat} {x : Pt} {v : Value} (h : PartIs W no x v) : PartIs W none x v := by
  cases x with
  | any => exact h
  | lit n => exact h
  | wild O =>
    obtain ⟨g, cap, h1, h2, h3, h4, h5, h6, h7⟩ := h
    exact ⟨g, cap, h1, h2, h3, h4, h5, h6, fun e => by cases e⟩
theorem PartIs.grown {W W' : World} {no no' : Option Nat} {x : Pt} {v : Value} (h : PartIs W no x v) (hg : W.grownBy W' no) (ho : no' = no ∨ no' = some W.heap.size) : PartIs W' no' x v := by
  cases x with
  | any => exact h
  | lit n => exact h
  | wild O =>
    obtain ⟨g, cap, h1, h2, h3, h4, h5, h6, h7⟩ := h
    refine ⟨g, cap, h1, fun i hi j u hu => ?_, h3, h4, h5, Nat.lt_of_lt_of_le h6 hg.size, ?_⟩
    · rw [← h2 i hi j u hu]
      exact World.cell?_of_block (hg.block g h6 h7)
    · rcases ho with rfl | rfl
      · exact h7
      · intro e; cases e; exact absurd h6 (Nat.lt_irrefl _)
def PartsIs (W : World) (no : Option Nat) (ps : List Pt) (xs : List Value) : Prop := xs.length = ps.length ∧ ∀ i, ∀ h : i < ps.length, ∃ v, xs[i]? = some v ∧ PartIs W no ps[i] v
theorem PartsIs.below {W W' : World} {no : Option Nat} {ps : List Pt} {xs : List Value} (h : PartsIs W no ps xs) (hb : Below W.heap.size W W') : PartsIs W' no ps xs :=
  ⟨h.1, fun i hi => by obtain ⟨v, h1, h2⟩ := h.2 i hi; exact ⟨v, h1, h2.below hb⟩⟩
theorem PartsIs.free {W : World} {no : Option Nat} {ps : List Pt} {xs : List Value} (h : PartsIs W no ps xs) : PartsIs W none ps xs :=
  ⟨h.1, fun i hi => by obtain ⟨v, h1, h2⟩ := h.2 i hi; exact ⟨v, h1, h2.free⟩⟩
theorem PartsIs.grown {W W' : World} {no no' : Option Nat} {ps : List Pt} {xs : List Value} {x : Pt} {v : Value} (h : PartsIs W no ps xs) (hx : PartIs W no x v) (hg : W.grownBy W' no) (ho : no' = no ∨ no' = some W.heap.size) : PartsIs W' no' (ps ++ [x]) (xs ++ [v]) :=
  ⟨by rw [List.length_append, List.length_append, h.1]; rfl, fun i hi => by
    rcases Nat.lt_or_ge i ps.length with hlt | hge
    · obtain ⟨u, h1, h2⟩ := h.2 i hlt
      refine ⟨u, by rw [List.getElem?_append_left (by rw [h.1]; exact hlt)]; exact h1, ?_⟩
      rw [List.getElem_append_left hlt]; exact h2.grown hg ho
    · have hi' : i = ps.length := by rw [List.length_append, List.length_singleton] at hi; omega
      subst hi'
      refine ⟨v, by rw [List.getElem?_append_right (by rw [h.1]; exact Nat.le_refl _), h.1]; simp, ?_⟩
      rw [List.getElem_append_right (Nat.le_refl _)]; simpa using hx.grown hg ho⟩
def ReadPost (R : Option (List Pt)) (B : Nat) (w : World) (e : Ending) (w' : World) : Prop :=
  match R with
  | none => e = .returned (.tuple #[.slice none 0 0, .bool false]) ∧ Below B w w'
  | some ps => ∃ A cap xs, e = .returned (.tuple #[.slice A ps.length cap, .bool true]) ∧ Sl id w' A xs ∧ PartsIs w' none ps xs ∧ ps.length ≤ cap ∧ ps.length ≤ 16 ∧ (∀ a, A = some a → B ≤ a.block ∧ a.block < w'.heap.size) ∧ Below B w w'
theorem infoPart : (Try.prog.info? 43).map (fun i => (i.zero, i.size, i.bytes)) = some (some .nilIface, 1, 16) := by kernel_rfl
theorem ownP_cap {w : World} {base : Nat} {e : TypeId} {size : Nat} {A : Option Addr} {m cap n : Nat} {xs : List Value} (h : w.ownsRow base e size (.slice A m cap) n xs) : n ≤ cap := by
  rcases h.2 with ⟨h0, h1⟩ | ⟨g', cap', cur, hv, _, _, hle, _⟩
  · cases h0; simp_all
  · cases hv; exact hle
theorem toList_bsP (l : List UInt8) : (bsP l).toList = l := by rw [Lib.toList_data]; rfl

set_option maxRecDepth 100000 in
set_option maxHeartbeats 8000000 in
theorem read_any (l : List UInt8) (w : World) (hl : l.length ≤ 1000000) (hg : Gm w) :
    Calls Try.prog 19 #[.string (bsP l)] w (ReadPost (readV l) w.heap.size w) := by
  by_cases h1 : l = []
  · subst h1
    have hno := bsP_no
    have hR := hide (show readV [] = none from rfl)
    generalize readV [] = R at *
    go_enter Try.func19, Try.ntmps19
    go_wp2
    go_ret2
    rw [hR.out]
    exact ⟨rfl, Below.refl _ _⟩
  · by_cases h2 : 200 < l.length
    · have hne := bsP_ne h1
      have hs : (200 : Int) < ((bsP l).size : Int) := by rw [bsP_size]; omega
      have hR := hide (show readV l = none by unfold readV; rw [if_pos (.inr h2)])
      generalize readV l = R at *
      generalize bsP l = s at *
      go_enter Try.func19, Try.ntmps19
      go_wp2
      go_ret2
      rw [hR.out]
      exact ⟨rfl, Below.refl _ _⟩
    · have hne := bsP_ne h1
      have hs : ¬ (200 : Int) < ((bsP l).size : Int) := by rw [bsP_size]; omega
      have hR : readV l = readF 16 l := by unfold readV; rw [if_neg (by rintro (h | h); exact h1 h; exact h2 h)]
      have G := hide hg
      have HR := hide hR
      generalize readV l = R at *
      clear hR hg
      go_enter Try.func19, Try.ntmps19
      go_upto_region 5 with fail
      clear hne hs
      go_loopg [0, 4, 5] 17 (fun g v0 v4 v5 wx => ∃ (r : List UInt8) (ps : List Pt) (xs : List Value) (more : Bool), v5 = .bool more ∧ v0 = .string (bsP r) ∧ wx.ownsRow w.heap.size 43 1 v4 ps.length xs ∧ PartsIs wx v4.ownBlock ps xs ∧ Below w.heap.size w wx ∧ ps.length ≤ 16 ∧ r.length ≤ 200 ∧ ((more = false ∧ g = 0 ∧ R = some ps) ∨ (more = true ∧ g + ps.length = 17 ∧ R = (readF (16 - ps.length) r).map (ps ++ ·))))
      case atStart =>
        refine ⟨l, [], [], true, rfl, rfl, World.ownsRow_nil _ _ _ _, ⟨rfl, fun i h => absurd h (Nat.not_lt_zero _)⟩, Below.refl _ _, Nat.zero_le _, by omega, .inr ⟨rfl, rfl, ?_⟩⟩
        rw [HR.out]
        show readF 16 l = (readF 16 l).map _
        cases readF 16 l <;> rfl
      case round =>
        obtain ⟨r, ps, xs, more, rfl, rfl, hown, hps, hb, hpl, hrl, hcase⟩ := hrel
        have Hown := hide hown
        have Hps := hide hps
        have Hb := hide hb
        clear hown hps hb
        rcases hcase with ⟨rfl, rfl, hRp⟩ | ⟨rfl, hgp, hRr⟩
        · have HRp := hide hRp
          clear hRp
          obtain ⟨A, cap, hv, hsl, hlt⟩ := Sl_own (f := id) (xs := xs) (by rw [List.map_id]; exact Hown.out) Hps.out.1.symm
          have hcap : ps.length ≤ cap := by
            exact ownP_cap (hv ▸ Hown.out)
          subst hv
          have HF := hide (show ReadPost (some ps) w.heap.size w (.returned (.tuple #[.slice A ps.length cap, .bool true])) wr from ⟨A, cap, xs, rfl, hsl, Hps.out.free, hcap, hpl, hlt, Hb.out⟩)
          clear hsl hlt hcap
          go_wp2
          go_ret2
          rw [HRp.out]
          exact HF.out
        · obtain ⟨g, rfl⟩ : ∃ g, gk = g + 1 := ⟨gk - 1, by omega⟩
          obtain ⟨A4, cap4, hv4, _, _⟩ := Sl_own (f := id) (xs := xs) (by rw [List.map_id]; exact Hown.out) Hps.out.1.symm
          subst hv4
          have HRr := hide hRr
          have hstep : ∀ k, readF (k + 1) r = (partV (cutN r).1).bind fun x => if (cutN r).2.2 then (readF k (cutN r).2.1).map (x :: ·) else some [x] := fun k => rfl
          have P := hide (fun W : World => Try.strings_HasPrefix (bsP r) ⟨#[92]⟩ W)
          rw [bsP_list, show (⟨#[92]⟩ : ByteArray).data.toList = [92] from rfl, (trim_one 92 r).1] at P
          have Hgp := hide hgp
          clear hRr hgp
          have hcl : (cutN r).1.length ≤ 200 ∧ (cutN r).2.1.length ≤ 200 := by
            have := cutP_len r (if r.head? = some 92 then [32, 46] else [46])
            unfold cutN; omega
          by_cases hh : r.head? = some 92
          · rw [decide_eq_true hh] at P
            have C : ∀ W : World, Gm W → Calls Try.prog 26 #[.string (bsP r), .string ⟨#[32, 46]⟩] W fun e w' => e = .returned (.tuple #[.string (bsP (cutN r).1), .string (bsP (cutN r).2.1), .bool (cutN r).2.2]) ∧ ∃ n, w' = W.drewN n := fun W hW => by
              obtain ⟨m, hm⟩ := hW
              have hcut : cutN r = Lib.cut r [32, 46] := by unfold cutN; rw [if_pos hh]
              rw [hcut]
              exact Try.strings_Cut (bsP r) ⟨#[32, 46]⟩ m W (by rw [bsP_size]; omega) hm
            have hch : (cutN r).1.head? = some 92 := by unfold cutN; rw [if_pos hh]; exact cutP_head' r 92 32 [46] hh (by decide)
            generalize cutN r = c at *
            obtain ⟨s1, r2, more2⟩ := c
            simp only at C hch hcl hstep
            have HC := hide C
            obtain ⟨hs1, hr2⟩ := hcl
            have hns : s1 ≠ [42, 42] := fun e => by rw [e] at hch; exact absurd hch (by decide)
            have hpv : partV s1 = if escN s1 then some (.lit s1) else none := by unfold partV; rw [if_neg hns, if_pos hch]
            rw [hpv] at hstep
            have hns' : ((bsP s1).toList == [42, 42]) = false := by rw [toList_bsP]; exact beq_eq_false_iff_ne.2 hns
            have P2 := hide (fun W : World => Try.strings_HasPrefix (bsP s1) ⟨#[92]⟩ W)
            rw [bsP_list, show (⟨#[92]⟩ : ByteArray).data.toList = [92] from rfl, (trim_one 92 s1).1, decide_eq_true hch] at P2
            have E := hide (fun W : World => Escaped_any (bsP s1) W (by rw [bsP_size]; omega))
            rw [bsP_list] at E
            have Hs1 := hide hs1
            have Hstep := hide hstep
            have he32 : escN s1 = true → s1.length ≤ 32 := fun h => by
              obtain ⟨h1, h2⟩ := escN_iff.1 h
              rw [vN_esc h1, Bool.and_eq_true, decide_eq_true_eq] at h2
              exact h2.1.2
            have He32 := hide he32
            generalize escN s1 = q at *
            clear C hch hns hpv hh hstep hs1 he32
            go_wp2_with fail
            refine (P.out _).mono ?_
            rintro e wr ⟨rfl, rfl⟩
            go_wp2_with fail
            refine (HC.out _ (G.out.below Hb.out)).mono ?_
            rintro e w2 ⟨rfl, k2, rfl⟩
            obtain ⟨W2, hW2⟩ : ∃ W2, wr.drewN k2 = W2 := ⟨_, rfl⟩
            have hbq : Below wr.heap.size wr W2 := by rw [← hW2]; exact Below_drewN (Below.refl _ _) k2
            have Hb2 := hide (Hb.out.trans (hbq.mono Hb.out.size))
            have Hown2 := hide (ownsRow_below Hown.out hbq)
            have Hps2 := hide (Hps.out.below hbq)
            rw [hW2]
            clear hW2 hbq
            go_wp2_with fail
            refine (P2.out _).mono ?_
            rintro e W2 ⟨rfl, rfl⟩
            go_wp2_with fail
            refine (E.out _).mono ?_
            rintro e w3 ⟨rfl, hb3⟩
            have HB3 := hide (Hb2.out.trans (hb3.mono Hb2.out.size))
            have Hown3 := hide (ownsRow_below Hown2.out hb3)
            have Hps3 := hide (Hps2.out.below hb3)
            clear hb3
            cases q with
            | false =>
              have hRn : R = none := by
                rw [HRr.out]
                rcases Nat.eq_zero_or_pos (16 - ps.length) with h | h
                · rw [h]; rfl
                · obtain ⟨k, hk⟩ : ∃ k, 16 - ps.length = k + 1 := ⟨16 - ps.length - 1, by omega⟩
                  rw [hk, Hstep.out]; rfl
              have HRn := hide hRn
              clear hRn
              go_wp2
              go_ret2
              rw [HRn.out]
              exact ⟨rfl, HB3.out⟩
            | true =>
              have HStep := hide (show ∀ k, readF (k + 1) r = if more2 then (readF k r2).map (Pt.lit s1 :: ·) else some [Pt.lit s1] from fun k => Hstep.out k)
              by_cases h16 : ps.length = 16
              · have hRn : R = none := by rw [HRr.out, h16]; rfl
                have HRn := hide hRn
                have h16' : ((ps.length : Int) == 16) = true := by rw [h16]; rfl
                clear hRn h16
                go_wp2
                go_ret2
                rw [HRn.out]
                exact ⟨rfl, HB3.out⟩
              · have h16' : ((ps.length : Int) == 16) = false := beq_eq_false_iff_ne.2 (by omega)
                have hps15 : ps.length ≤ 15 := by omega
                have hRs : R = if more2 then (readF (16 - (ps.length + 1)) r2).map ((ps ++ [Pt.lit s1]) ++ ·) else some (ps ++ [Pt.lit s1]) := by
                  rw [HRr.out, show 16 - ps.length = (16 - (ps.length + 1)) + 1 by omega, HStep.out]
                  cases more2 with
                  | true =>
                    rw [if_pos rfl, if_pos rfl]
                    cases readF (16 - (ps.length + 1)) r2 with
                    | none => rfl
                    | some M => show some (ps ++ (Pt.lit s1 :: M)) = some ((ps ++ [Pt.lit s1]) ++ M); rw [List.append_assoc]; rfl
                  | false => rw [if_neg Bool.false_ne_true, if_neg Bool.false_ne_true]; rfl
                have HRs := hide hRs
                have HPx := hide (show PartIs (w3.alloc (.cells #[.iface 52 (.string (bsP s1))] 43)) (Value.slice A4 ps.length cap4).ownBlock (Pt.lit s1) (.iface 52 (.string (bsP s1))) from ⟨rfl, He32.out rfl⟩)
                have HPs := hide (Hps3.out.below ((Below.refl w3.heap.size w3).alloc (Nat.le_refl _) (.cells #[.iface 52 (.string (bsP s1))] 43)))
                clear hRs h16
                go_wp2_with (at_builtin; refine wpList_append_at _ rfl _ _ 39 rfl w.heap.size 43 infoPart Try.underlying39 rfl (by decide) _ ps.length xs rfl (Hown3.out.alloc (.cells #[.iface 52 (.string (bsP s1))] 43)) ⟨w3.heap.size, 0, none⟩ 1 1 [.iface 52 (.string (bsP s1))] rfl rfl (cells_new _ _ rfl) (by intro u hu; simp only [List.mem_cons, List.not_mem_nil, or_false] at hu; rcases hu with rfl; rfl) (by unfold maxLen; omega) (by omega) (by rw [World.size_alloc]; have := HB3.out.size; omega) ?_; intro v' w9 hown9 hgrow9 _ hnb9)
                have HP9 := hide (HPs.out.grown HPx.out hgrow9 hnb9)
                have HB9 := hide ((HB3.out.alloc HB3.out.size (.cells #[.iface 52 (.string (bsP s1))] 43)).grown hgrow9 (by rw [World.size_alloc]; have := HB3.out.size; omega) (fun j hj => (World.ownsRow.lt (Hown3.out.alloc (.cells #[.iface 52 (.string (bsP s1))] 43)) j hj).1))
                have HOwn9 := hide (show w9.ownsRow w.heap.size 43 1 v' (ps ++ [Pt.lit s1]).length (xs ++ [.iface 52 (.string (bsP s1))]) by rw [List.length_append]; exact hown9)
                clear hown9 hgrow9 hnb9
                cases more2 with
                | true =>
                  have hR2 := HRs.out
                  rw [if_pos rfl] at hR2
                  have HR2 := hide hR2
                  clear hR2 HRs
                  go_wp2
                  go_roundg (16 - ps.length)
                  case measure => have := Hgp.out; omega
                  case rel => exact ⟨r2, ps ++ [Pt.lit s1], xs ++ [.iface 52 (.string (bsP s1))], true, rfl, rfl, HOwn9.out, HP9.out, HB9.out, by rw [List.length_append, List.length_singleton]; omega, hr2, .inr ⟨rfl, by rw [List.length_append, List.length_singleton]; omega, by rw [List.length_append]; exact HR2.out⟩⟩
                | false =>
                  have hR2 := HRs.out
                  rw [if_neg Bool.false_ne_true] at hR2
                  have HR2 := hide hR2
                  clear hR2 HRs
                  go_wp2
                  go_roundg 0
                  case measure => have := Hgp.out; omega
                  case rel => exact ⟨r2, ps ++ [Pt.lit s1], xs ++ [.iface 52 (.string (bsP s1))], false, rfl, rfl, HOwn9.out, HP9.out, HB9.out, by rw [List.length_append, List.length_singleton]; omega, hr2, .inl ⟨rfl, rfl, HR2.out⟩⟩
          · rw [decide_eq_false hh] at P
            have C : ∀ W : World, Gm W → Calls Try.prog 26 #[.string (bsP r), .string ⟨#[46]⟩] W fun e w' => e = .returned (.tuple #[.string (bsP (cutN r).1), .string (bsP (cutN r).2.1), .bool (cutN r).2.2]) ∧ ∃ n, w' = W.drewN n := fun W hW => by
              obtain ⟨m, hm⟩ := hW
              have hcut : cutN r = Lib.cut r [46] := by unfold cutN; rw [if_neg hh]
              rw [hcut]
              exact Try.strings_Cut (bsP r) ⟨#[46]⟩ m W (by rw [bsP_size]; omega) hm
            have hch : (cutN r).1.head? ≠ some 92 := by unfold cutN; rw [if_neg hh]; exact fun e => hh (cutP_head r 92 [46] e)
            generalize cutN r = c at *
            obtain ⟨s1, r2, more2⟩ := c
            simp only at C hch hcl hstep
            have HC := hide C
            obtain ⟨hs1, hr2⟩ := hcl
            by_cases hns : s1 = [42, 42]
            · have hpv : partV s1 = some .any := by unfold partV; rw [if_pos hns]
              rw [hpv] at hstep
              have HStep := hide (show ∀ k, readF (k + 1) r = if more2 then (readF k r2).map (Pt.any :: ·) else some [Pt.any] from fun k => hstep k)
              have hns' : ((bsP s1).toList == [42, 42]) = true := by rw [toList_bsP]; exact beq_iff_eq.2 hns
              clear C hch hns hpv hh hstep hs1
              go_wp2_with fail
              refine (P.out _).mono ?_
              rintro e wr ⟨rfl, rfl⟩
              go_wp2_with fail
              refine (HC.out _ (G.out.below Hb.out)).mono ?_
              rintro e w2 ⟨rfl, k2, rfl⟩
              obtain ⟨W2, hW2⟩ : ∃ W2, wr.drewN k2 = W2 := ⟨_, rfl⟩
              have hbq : Below wr.heap.size wr W2 := by rw [← hW2]; exact Below_drewN (Below.refl _ _) k2
              have Hb2 := hide (Hb.out.trans (hbq.mono Hb.out.size))
              have Hown2 := hide (ownsRow_below Hown.out hbq)
              have Hps2 := hide (Hps.out.below hbq)
              rw [hW2]
              clear hW2 hbq
              by_cases h16 : ps.length = 16
              · have hRn : R = none := by rw [HRr.out, h16]; rfl
                have HRn := hide hRn
                have h16' : ((ps.length : Int) == 16) = true := by rw [h16]; rfl
                clear hRn h16
                go_wp2
                go_ret2
                rw [HRn.out]
                exact ⟨rfl, Hb2.out⟩
              · have h16' : ((ps.length : Int) == 16) = false := beq_eq_false_iff_ne.2 (by omega)
                have hps15 : ps.length ≤ 15 := by omega
                have hRs : R = if more2 then (readF (16 - (ps.length + 1)) r2).map ((ps ++ [Pt.any]) ++ ·) else some (ps ++ [Pt.any]) := by
                  rw [HRr.out, show 16 - ps.length = (16 - (ps.length + 1)) + 1 by omega, HStep.out]
                  cases more2 with
                  | true =>
                    rw [if_pos rfl, if_pos rfl]
                    cases readF (16 - (ps.length + 1)) r2 with
                    | none => rfl
                    | some M => show some (ps ++ (Pt.any :: M)) = some ((ps ++ [Pt.any]) ++ M); rw [List.append_assoc]; rfl
                  | false => rw [if_neg Bool.false_ne_true, if_neg Bool.false_ne_true]; rfl
                have HRs := hide hRs
                have HPx := hide (show PartIs (W2.alloc (.cells #[.iface 51 (.agg #[])] 43)) (Value.slice A4 ps.length cap4).ownBlock (Pt.any) (.iface 51 (.agg #[])) from rfl)
                have HPs := hide (Hps2.out.below ((Below.refl W2.heap.size W2).alloc (Nat.le_refl _) (.cells #[.iface 51 (.agg #[])] 43)))
                clear hRs h16
                go_wp2_with (at_builtin; refine wpList_append_at _ rfl _ _ 39 rfl w.heap.size 43 infoPart Try.underlying39 rfl (by decide) _ ps.length xs rfl (Hown2.out.alloc (.cells #[.iface 51 (.agg #[])] 43)) ⟨W2.heap.size, 0, none⟩ 1 1 [.iface 51 (.agg #[])] rfl rfl (cells_new _ _ rfl) (by intro u hu; simp only [List.mem_cons, List.not_mem_nil, or_false] at hu; rcases hu with rfl; rfl) (by unfold maxLen; omega) (by omega) (by rw [World.size_alloc]; have := Hb2.out.size; omega) ?_; intro v' w9 hown9 hgrow9 _ hnb9)
                have HP9 := hide (HPs.out.grown HPx.out hgrow9 hnb9)
                have HB9 := hide ((Hb2.out.alloc Hb2.out.size (.cells #[.iface 51 (.agg #[])] 43)).grown hgrow9 (by rw [World.size_alloc]; have := Hb2.out.size; omega) (fun j hj => (World.ownsRow.lt (Hown2.out.alloc (.cells #[.iface 51 (.agg #[])] 43)) j hj).1))
                have HOwn9 := hide (show w9.ownsRow w.heap.size 43 1 v' (ps ++ [Pt.any]).length (xs ++ [.iface 51 (.agg #[])]) by rw [List.length_append]; exact hown9)
                clear hown9 hgrow9 hnb9
                cases more2 with
                | true =>
                  have hR2 := HRs.out
                  rw [if_pos rfl] at hR2
                  have HR2 := hide hR2
                  clear hR2 HRs
                  go_wp2
                  go_roundg (16 - ps.length)
                  case measure => have := Hgp.out; omega
                  case rel => exact ⟨r2, ps ++ [Pt.any], xs ++ [.iface 51 (.agg #[])], true, rfl, rfl, HOwn9.out, HP9.out, HB9.out, by rw [List.length_append, List.length_singleton]; omega, hr2, .inr ⟨rfl, by rw [List.length_append, List.length_singleton]; omega, by rw [List.length_append]; exact HR2.out⟩⟩
                | false =>
                  have hR2 := HRs.out
                  rw [if_neg Bool.false_ne_true] at hR2
                  have HR2 := hide hR2
                  clear hR2 HRs
                  go_wp2
                  go_roundg 0
                  case measure => have := Hgp.out; omega
                  case rel => exact ⟨r2, ps ++ [Pt.any], xs ++ [.iface 51 (.agg #[])], false, rfl, rfl, HOwn9.out, HP9.out, HB9.out, by rw [List.length_append, List.length_singleton]; omega, hr2, .inl ⟨rfl, rfl, HR2.out⟩⟩
            · have hpv : partV s1 = (wildV s1).map .wild := by unfold partV; rw [if_neg hns, if_neg hch]
              rw [hpv] at hstep
              have hns' : ((bsP s1).toList == [42, 42]) = false := by rw [toList_bsP]; exact beq_eq_false_iff_ne.2 hns
              have P2 := hide (fun W : World => Try.strings_HasPrefix (bsP s1) ⟨#[92]⟩ W)
              rw [bsP_list, show (⟨#[92]⟩ : ByteArray).data.toList = [92] from rfl, (trim_one 92 s1).1, decide_eq_false hch] at P2
              have N := hide (fun (W : World) (hW : Gm W) => readWild_any s1 W (by omega) hW)
              have Hstep := hide hstep
              generalize wildV s1 = q at *
              clear C hch hns hpv hh hstep hs1
              go_wp2_with fail
              refine (P.out _).mono ?_
              rintro e wr ⟨rfl, rfl⟩
              go_wp2_with fail
              refine (HC.out _ (G.out.below Hb.out)).mono ?_
              rintro e w2 ⟨rfl, k2, rfl⟩
              obtain ⟨W2, hW2⟩ : ∃ W2, wr.drewN k2 = W2 := ⟨_, rfl⟩
              have hbq : Below wr.heap.size wr W2 := by rw [← hW2]; exact Below_drewN (Below.refl _ _) k2
              have Hb2 := hide (Hb.out.trans (hbq.mono Hb.out.size))
              have Hown2 := hide (ownsRow_below Hown.out hbq)
              have Hps2 := hide (Hps.out.below hbq)
              rw [hW2]
              clear hW2 hbq
              go_wp2_with fail
              refine (P2.out _).mono ?_
              rintro e W2 ⟨rfl, rfl⟩
              go_wp2_with fail
              refine (N.out _ (G.out.below Hb2.out)).mono ?_
              rintro e w3 h3
              cases q with
              | none =>
                obtain ⟨rfl, hb3⟩ := h3
                have hRn : R = none := by
                  rw [HRr.out]
                  rcases Nat.eq_zero_or_pos (16 - ps.length) with h | h
                  · rw [h]; rfl
                  · obtain ⟨k, hk⟩ : ∃ k, 16 - ps.length = k + 1 := ⟨16 - ps.length - 1, by omega⟩
                    rw [hk, Hstep.out]; rfl
                have HRn := hide hRn
                have HB3 := hide (Hb2.out.trans (hb3.mono Hb2.out.size))
                clear hRn hb3
                go_wp2
                go_ret2
                rw [HRn.out]
                exact ⟨rfl, HB3.out⟩
              | some O =>
                obtain ⟨g3, cap3, rfl, hwit, hO1, hO2, hO3, hg3, hg3', hb3⟩ := h3
                have HStep := hide (show ∀ k, readF (k + 1) r = if more2 then (readF k r2).map (Pt.wild O :: ·) else some [Pt.wild O] from fun k => Hstep.out k)
                have HB3 := hide (Hb2.out.trans (hb3.mono Hb2.out.size))
                have Hown3 := hide (ownsRow_below Hown2.out hb3)
                have Hps3 := hide (Hps2.out.below hb3)
                have Hx := hide (show PartIs w3 (Value.slice A4 ps.length cap4).ownBlock (.wild O) (.iface 65 (.slice (some ⟨g3, 0, none⟩) O.length cap3)) from ⟨g3, cap3, rfl, hwit, hO1, hO2, hO3, hg3', fun e => by have := (World.ownsRow.lt Hown2.out g3 e.symm).2; omega⟩)
                clear hwit hO1 hO2 hO3 hg3 hg3' hb3
                by_cases h16 : ps.length = 16
                · have hRn : R = none := by rw [HRr.out, h16]; rfl
                  have HRn := hide hRn
                  have h16' : ((ps.length : Int) == 16) = true := by rw [h16]; rfl
                  clear hRn h16
                  go_wp2
                  go_ret2
                  rw [HRn.out]
                  exact ⟨rfl, HB3.out⟩
                · have h16' : ((ps.length : Int) == 16) = false := beq_eq_false_iff_ne.2 (by omega)
                  have hps15 : ps.length ≤ 15 := by omega
                  have hRs : R = if more2 then (readF (16 - (ps.length + 1)) r2).map ((ps ++ [Pt.wild O]) ++ ·) else some (ps ++ [Pt.wild O]) := by
                    rw [HRr.out, show 16 - ps.length = (16 - (ps.length + 1)) + 1 by omega, HStep.out]
                    cases more2 with
                    | true =>
                      rw [if_pos rfl, if_pos rfl]
                      cases readF (16 - (ps.length + 1)) r2 with
                      | none => rfl
                      | some M => show some (ps ++ (Pt.wild O :: M)) = some ((ps ++ [Pt.wild O]) ++ M); rw [List.append_assoc]; rfl
                    | false => rw [if_neg Bool.false_ne_true, if_neg Bool.false_ne_true]; rfl
                  have HRs := hide hRs
                  have HPx := hide (show PartIs (w3.alloc (.cells #[.iface 65 (.slice (some ⟨g3, 0, none⟩) O.length cap3)] 43)) (Value.slice A4 ps.length cap4).ownBlock (Pt.wild O) (.iface 65 (.slice (some ⟨g3, 0, none⟩) O.length cap3)) from Hx.out.below ((Below.refl w3.heap.size w3).alloc (Nat.le_refl _) _))
                  have HPs := hide (Hps3.out.below ((Below.refl w3.heap.size w3).alloc (Nat.le_refl _) (.cells #[.iface 65 (.slice (some ⟨g3, 0, none⟩) O.length cap3)] 43)))
                  clear hRs h16
                  go_wp2_with (at_builtin; refine wpList_append_at _ rfl _ _ 39 rfl w.heap.size 43 infoPart Try.underlying39 rfl (by decide) _ ps.length xs rfl (Hown3.out.alloc (.cells #[.iface 65 (.slice (some ⟨g3, 0, none⟩) O.length cap3)] 43)) ⟨w3.heap.size, 0, none⟩ 1 1 [.iface 65 (.slice (some ⟨g3, 0, none⟩) O.length cap3)] rfl rfl (cells_new _ _ rfl) (by intro u hu; simp only [List.mem_cons, List.not_mem_nil, or_false] at hu; rcases hu with rfl; rfl) (by unfold maxLen; omega) (by omega) (by rw [World.size_alloc]; have := HB3.out.size; omega) ?_; intro v' w9 hown9 hgrow9 _ hnb9)
                  have HP9 := hide (HPs.out.grown HPx.out hgrow9 hnb9)
                  have HB9 := hide ((HB3.out.alloc HB3.out.size (.cells #[.iface 65 (.slice (some ⟨g3, 0, none⟩) O.length cap3)] 43)).grown hgrow9 (by rw [World.size_alloc]; have := HB3.out.size; omega) (fun j hj => (World.ownsRow.lt (Hown3.out.alloc (.cells #[.iface 65 (.slice (some ⟨g3, 0, none⟩) O.length cap3)] 43)) j hj).1))
                  have HOwn9 := hide (show w9.ownsRow w.heap.size 43 1 v' (ps ++ [Pt.wild O]).length (xs ++ [.iface 65 (.slice (some ⟨g3, 0, none⟩) O.length cap3)]) by rw [List.length_append]; exact hown9)
                  clear hown9 hgrow9 hnb9
                  cases more2 with
                  | true =>
                    have hR2 := HRs.out
                    rw [if_pos rfl] at hR2
                    have HR2 := hide hR2
                    clear hR2 HRs
                    go_wp2
                    go_roundg (16 - ps.length)
                    case measure => have := Hgp.out; omega
                    case rel => exact ⟨r2, ps ++ [Pt.wild O], xs ++ [.iface 65 (.slice (some ⟨g3, 0, none⟩) O.length cap3)], true, rfl, rfl, HOwn9.out, HP9.out, HB9.out, by rw [List.length_append, List.length_singleton]; omega, hr2, .inr ⟨rfl, by rw [List.length_append, List.length_singleton]; omega, by rw [List.length_append]; exact HR2.out⟩⟩
                  | false =>
                    have hR2 := HRs.out
                    rw [if_neg Bool.false_ne_true] at hR2
                    have HR2 := hide hR2
                    clear hR2 HRs
                    go_wp2
                    go_roundg 0
                    case measure => have := Hgp.out; omega
                    case rel => exact ⟨r2, ps ++ [Pt.wild O], xs ++ [.iface 65 (.slice (some ⟨g3, 0, none⟩) O.length cap3)], false, rfl, rfl, HOwn9.out, HP9.out, HB9.out, by rw [List.length_append, List.length_singleton]; omega, hr2, .inl ⟨rfl, rfl, HR2.out⟩⟩
end Go.Proofs.Ytcjehiecgdmidaa
