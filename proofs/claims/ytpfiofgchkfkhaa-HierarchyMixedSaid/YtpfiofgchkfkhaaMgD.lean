/- MgD: the texts PtN PtO PtD PtR PtS PtT PtU PtV in one. -/
import Derived.Test.YtpfiofgchkfkhaaMgC
import Derived.Test.YtpfiofgchkfkhaaMgB
import Derived.Deep.RegionHeld3
import Derived.Deep.QuietTactic
import Derived.MakeChecks
/- Contract of pattern's read. -/
set_option linter.unusedVariables false
set_option linter.unusedSimpArgs false
namespace Go.Proofs.Ytpfiofgchkfkhaa
open Go.RowKit Go.Shelf

/-! ### how a pattern is read -/
def partV (s : List UInt8) : Option Pt := if s = [42, 42] then some .any else if s.head? = some 92 then (if escN s then some (.lit s) else none) else (wildV s).map .wild
def readF : Nat → List UInt8 → Option (List Pt)
  | 0, _ => none
  | k + 1, l => (partV (cutN l).1).bind fun x => if (cutN l).2.2 then (readF k (cutN l).2.1).map (x :: ·) else some [x]
def readV (l : List UInt8) : Option (List Pt) := if l = [] ∨ 200 < l.length then none else readF 16 l
theorem cutP_len (l sub : List UInt8) : (Lib.cut l sub).1.length ≤ l.length ∧ (Lib.cut l sub).2.1.length ≤ l.length := by
  unfold Lib.cut; split
  · constructor
    · simp only [List.length_take]; omega
    · simp only [List.length_drop]; omega
  · exact ⟨Nat.le_refl _, Nat.zero_le _⟩
theorem cutP_head (l : List UInt8) (x : UInt8) (sub : List UInt8) (h : (Lib.cut l sub).1.head? = some x) : l.head? = some x := by
  rcases cut_dec l sub with ⟨h1, _⟩ | ⟨a, r, h1, h2, _⟩
  · rw [h1] at h; exact h
  · rw [h2] at h
    rw [h1]
    cases a with
    | nil => cases h
    | cons b t => exact h
theorem cutP_head' (l : List UInt8) (x y : UInt8) (s : List UInt8) (hl : l.head? = some x) (hn : x ≠ y) : (Lib.cut l (y :: s)).1.head? = some x := by
  rcases cut_dec l (y :: s) with ⟨h1, _⟩ | ⟨a, r, h1, h2, _⟩
  · rw [h1]; exact hl
  · rw [h2]
    rw [h1] at hl
    cases a with
    | nil => exact absurd (Option.some.inj hl).symm hn
    | cons b t => exact hl
/-! ### parts in memory -/
def PartIs (W : World) (no : Option Nat) (x : Pt) (v : Value) : Prop :=
  match x with
  | .any => v = .iface 107 (.agg #[])
  | .lit n => v = .iface 108 (.string (bsP n)) ∧ n.length ≤ 32
  | .wild O => ∃ g cap, v = .iface 116 (.slice (some ⟨g, 0, none⟩) O.length cap) ∧ WIt W g O ∧ 1 ≤ O.length ∧ O.length ≤ cap ∧ O.length ≤ 64 ∧ g < W.heap.size ∧ some g ≠ no
theorem PartIs.below {W W' : World} {no : Option Nat} {x : Pt} {v : Value} (h : PartIs W no x v) (hb : Below W.heap.size W W') : PartIs W' no x v := by
  cases x with
  | any => exact h
  | lit n => exact h
  | wild O =>
    obtain ⟨g, cap, h1, h2, h3, h4, h5, h6, h7⟩ := h
    exact ⟨g, cap, h1, h2.below hb h6, h3, h4, h5, Nat.lt_of_lt_of_le h6 hb.size, h7⟩
theorem PartIs.free {W : World} {no : Option Nat} {x : Pt} {v : Value} (h : PartIs W no x v) : PartIs W none x v := by
  cases x with
  | any => exact h
  | lit n => exact h
  | wild O =>
    obtain ⟨g, cap, h1, h2, h3, h4, h5, h6, h7⟩ := h
    exact ⟨g, cap, h1, h2, h3, h4, h5, h6, fun e => by cases e⟩
theorem PartIs.grown {W W' : World} {no no' : Option Nat} {x : Pt} {v : Value} (h : PartIs W no x v) (hg : W.grownBy W' no) (ho : no' = no ∨ no' = some W.heap.size) : PartIs W' no' x v := by
  cases x with
  | any => exact h
  | lit n => exact h
  | wild O =>
    obtain ⟨g, cap, h1, h2, h3, h4, h5, h6, h7⟩ := h
    refine ⟨g, cap, h1, fun i hi j u hu => ?_, h3, h4, h5, Nat.lt_of_lt_of_le h6 hg.size, ?_⟩
    · rw [← h2 i hi j u hu]
      exact World.cell?_of_block (hg.block g h6 h7)
    · rcases ho with rfl | rfl
      · exact h7
      · intro e; cases e; exact absurd h6 (Nat.lt_irrefl _)
def PartsIs (W : World) (no : Option Nat) (ps : List Pt) (xs : List Value) : Prop := xs.length = ps.length ∧ ∀ i, ∀ h : i < ps.length, ∃ v, xs[i]? = some v ∧ PartIs W no ps[i] v
theorem PartsIs.below {W W' : World} {no : Option Nat} {ps : List Pt} {xs : List Value} (h : PartsIs W no ps xs) (hb : Below W.heap.size W W') : PartsIs W' no ps xs :=
  ⟨h.1, fun i hi => by obtain ⟨v, h1, h2⟩ := h.2 i hi; exact ⟨v, h1, h2.below hb⟩⟩
theorem PartsIs.free {W : World} {no : Option Nat} {ps : List Pt} {xs : List Value} (h : PartsIs W no ps xs) : PartsIs W none ps xs :=
  ⟨h.1, fun i hi => by obtain ⟨v, h1, h2⟩ := h.2 i hi; exact ⟨v, h1, h2.free⟩⟩
theorem PartsIs.grown {W W' : World} {no no' : Option Nat} {ps : List Pt} {xs : List Value} {x : Pt} {v : Value} (h : PartsIs W no ps xs) (hx : PartIs W no x v) (hg : W.grownBy W' no) (ho : no' = no ∨ no' = some W.heap.size) : PartsIs W' no' (ps ++ [x]) (xs ++ [v]) :=
  ⟨by rw [List.length_append, List.length_append, h.1]; rfl, fun i hi => by
    rcases Nat.lt_or_ge i ps.length with hlt | hge
    · obtain ⟨u, h1, h2⟩ := h.2 i hlt
      refine ⟨u, by rw [List.getElem?_append_left (by rw [h.1]; exact hlt)]; exact h1, ?_⟩
      rw [List.getElem_append_left hlt]; exact h2.grown hg ho
    · have hi' : i = ps.length := by rw [List.length_append, List.length_singleton] at hi; omega
      subst hi'
      refine ⟨v, by rw [List.getElem?_append_right (by rw [h.1]; exact Nat.le_refl _), h.1]; simp, ?_⟩
      rw [List.getElem_append_right (Nat.le_refl _)]; simpa using hx.grown hg ho⟩
def ReadPost (R : Option (List Pt)) (B : Nat) (w : World) (e : Ending) (w' : World) : Prop :=
  match R with
  | none => e = .returned (.tuple #[.slice none 0 0, .bool false]) ∧ Below B w w'
  | some ps => ∃ A cap xs, e = .returned (.tuple #[.slice A ps.length cap, .bool true]) ∧ Sl id w' A xs ∧ PartsIs w' none ps xs ∧ ps.length ≤ cap ∧ ps.length ≤ 16 ∧ (∀ a, A = some a → B ≤ a.block ∧ a.block < w'.heap.size) ∧ Below B w w'
theorem infoPart : (Try.prog.info? 105).map (fun i => (i.zero, i.size, i.bytes)) = some (some .nilIface, 1, 16) := by kernel_rfl
theorem ownP_cap {w : World} {base : Nat} {e : TypeId} {size : Nat} {A : Option Addr} {m cap n : Nat} {xs : List Value} (h : w.ownsRow base e size (.slice A m cap) n xs) : n ≤ cap := by
  rcases h.2 with ⟨h0, h1⟩ | ⟨g', cap', cur, hv, _, _, hle, _⟩
  · cases h0; simp_all
  · cases hv; exact hle
theorem toList_bsP (l : List UInt8) : (bsP l).toList = l := by rw [Lib.toList_data]; rfl

set_option maxRecDepth 100000 in
set_option maxHeartbeats 8000000 in
theorem read_any (l : List UInt8) (w : World) (hl : l.length ≤ 1000000) (hg : Gm w) :
    Calls Try.prog 69 #[.string (bsP l)] w (ReadPost (readV l) w.heap.size w) := by
  by_cases h1 : l = []
  · subst h1
    have hno := bsP_no
    have hR := hide (show readV [] = none from rfl)
    generalize readV [] = R at *
    go_enter Try.func69, Try.ntmps69
    go_wp2
    go_ret2
    rw [hR.out]
    exact ⟨rfl, Below.refl _ _⟩
  · by_cases h2 : 200 < l.length
    · have hne := bsP_ne h1
      have hs : (200 : Int) < ((bsP l).size : Int) := by rw [bsP_size]; omega
      have hR := hide (show readV l = none by unfold readV; rw [if_pos (.inr h2)])
      generalize readV l = R at *
      generalize bsP l = s at *
      go_enter Try.func69, Try.ntmps69
      go_wp2
      go_ret2
      rw [hR.out]
      exact ⟨rfl, Below.refl _ _⟩
    · have hne := bsP_ne h1
      have hs : ¬ (200 : Int) < ((bsP l).size : Int) := by rw [bsP_size]; omega
      have hR : readV l = readF 16 l := by unfold readV; rw [if_neg (by rintro (h | h); exact h1 h; exact h2 h)]
      have G := hide hg
      have HR := hide hR
      generalize readV l = R at *
      clear hR hg
      go_enter Try.func69, Try.ntmps69
      go_upto_region 5 with fail
      clear hne hs
      go_loopg [0, 4, 5] 17 (fun g v0 v4 v5 wx => ∃ (r : List UInt8) (ps : List Pt) (xs : List Value) (more : Bool), v5 = .bool more ∧ v0 = .string (bsP r) ∧ wx.ownsRow w.heap.size 105 1 v4 ps.length xs ∧ PartsIs wx v4.ownBlock ps xs ∧ Below w.heap.size w wx ∧ ps.length ≤ 16 ∧ r.length ≤ 200 ∧ ((more = false ∧ g = 0 ∧ R = some ps) ∨ (more = true ∧ g + ps.length = 17 ∧ R = (readF (16 - ps.length) r).map (ps ++ ·))))
      case atStart =>
        refine ⟨l, [], [], true, rfl, rfl, World.ownsRow_nil _ _ _ _, ⟨rfl, fun i h => absurd h (Nat.not_lt_zero _)⟩, Below.refl _ _, Nat.zero_le _, by omega, .inr ⟨rfl, rfl, ?_⟩⟩
        rw [HR.out]
        show readF 16 l = (readF 16 l).map _
        cases readF 16 l <;> rfl
      case round =>
        obtain ⟨r, ps, xs, more, rfl, rfl, hown, hps, hb, hpl, hrl, hcase⟩ := hrel
        have Hown := hide hown
        have Hps := hide hps
        have Hb := hide hb
        clear hown hps hb
        rcases hcase with ⟨rfl, rfl, hRp⟩ | ⟨rfl, hgp, hRr⟩
        · have HRp := hide hRp
          clear hRp
          obtain ⟨A, cap, hv, hsl, hlt⟩ := Sl_own (f := id) (xs := xs) (by rw [List.map_id]; exact Hown.out) Hps.out.1.symm
          have hcap : ps.length ≤ cap := by
            exact ownP_cap (hv ▸ Hown.out)
          subst hv
          have HF := hide (show ReadPost (some ps) w.heap.size w (.returned (.tuple #[.slice A ps.length cap, .bool true])) wr from ⟨A, cap, xs, rfl, hsl, Hps.out.free, hcap, hpl, hlt, Hb.out⟩)
          clear hsl hlt hcap
          go_wp2
          go_ret2
          rw [HRp.out]
          exact HF.out
        · obtain ⟨g, rfl⟩ : ∃ g, gk = g + 1 := ⟨gk - 1, by omega⟩
          obtain ⟨A4, cap4, hv4, _, _⟩ := Sl_own (f := id) (xs := xs) (by rw [List.map_id]; exact Hown.out) Hps.out.1.symm
          subst hv4
          have HRr := hide hRr
          have hstep : ∀ k, readF (k + 1) r = (partV (cutN r).1).bind fun x => if (cutN r).2.2 then (readF k (cutN r).2.1).map (x :: ·) else some [x] := fun k => rfl
          have P := hide (fun W : World => Try.strings_HasPrefix (bsP r) ⟨#[92]⟩ W)
          rw [bsP_list, show (⟨#[92]⟩ : ByteArray).data.toList = [92] from rfl, (trim_one 92 r).1] at P
          have Hgp := hide hgp
          clear hRr hgp
          have hcl : (cutN r).1.length ≤ 200 ∧ (cutN r).2.1.length ≤ 200 := by
            have := cutP_len r (if r.head? = some 92 then [32, 46] else [46])
            unfold cutN; omega
          by_cases hh : r.head? = some 92
          · rw [decide_eq_true hh] at P
            have C : ∀ W : World, Gm W → Calls Try.prog 80 #[.string (bsP r), .string ⟨#[32, 46]⟩] W fun e w' => e = .returned (.tuple #[.string (bsP (cutN r).1), .string (bsP (cutN r).2.1), .bool (cutN r).2.2]) ∧ ∃ n, w' = W.drewN n := fun W hW => by
              obtain ⟨m, hm⟩ := hW
              have hcut : cutN r = Lib.cut r [32, 46] := by unfold cutN; rw [if_pos hh]
              rw [hcut]
              exact Try.strings_Cut (bsP r) ⟨#[32, 46]⟩ m W (by rw [bsP_size]; omega) hm
            have hch : (cutN r).1.head? = some 92 := by unfold cutN; rw [if_pos hh]; exact cutP_head' r 92 32 [46] hh (by decide)
            generalize cutN r = c at *
            obtain ⟨s1, r2, more2⟩ := c
            simp only at C hch hcl hstep
            have HC := hide C
            obtain ⟨hs1, hr2⟩ := hcl
            have hns : s1 ≠ [42, 42] := fun e => by rw [e] at hch; exact absurd hch (by decide)
            have hpv : partV s1 = if escN s1 then some (.lit s1) else none := by unfold partV; rw [if_neg hns, if_pos hch]
            rw [hpv] at hstep
            have hns' : ((bsP s1).toList == [42, 42]) = false := by rw [toList_bsP]; exact beq_eq_false_iff_ne.2 hns
            have P2 := hide (fun W : World => Try.strings_HasPrefix (bsP s1) ⟨#[92]⟩ W)
            rw [bsP_list, show (⟨#[92]⟩ : ByteArray).data.toList = [92] from rfl, (trim_one 92 s1).1, decide_eq_true hch] at P2
            have E := hide (fun W : World => Escaped_any (bsP s1) W (by rw [bsP_size]; omega))
            rw [bsP_list] at E
            have Hs1 := hide hs1
            have Hstep := hide hstep
            have he32 : escN s1 = true → s1.length ≤ 32 := fun h => by
              obtain ⟨h1, h2⟩ := escN_iff.1 h
              rw [vN_esc h1, Bool.and_eq_true, decide_eq_true_eq] at h2
              exact h2.1.2
            have He32 := hide he32
            generalize escN s1 = q at *
            clear C hch hns hpv hh hstep hs1 he32
            go_wp2_with fail
            refine (P.out _).mono ?_
            rintro e wr ⟨rfl, rfl⟩
            go_wp2_with fail
            refine (HC.out _ (G.out.below Hb.out)).mono ?_
            rintro e w2 ⟨rfl, k2, rfl⟩
            obtain ⟨W2, hW2⟩ : ∃ W2, wr.drewN k2 = W2 := ⟨_, rfl⟩
            have hbq : Below wr.heap.size wr W2 := by rw [← hW2]; exact Below_drewN (Below.refl _ _) k2
            have Hb2 := hide (Hb.out.trans (hbq.mono Hb.out.size))
            have Hown2 := hide (ownsRow_below Hown.out hbq)
            have Hps2 := hide (Hps.out.below hbq)
            rw [hW2]
            clear hW2 hbq
            go_wp2_with fail
            refine (P2.out _).mono ?_
            rintro e W2 ⟨rfl, rfl⟩
            go_wp2_with fail
            refine (E.out _).mono ?_
            rintro e w3 ⟨rfl, hb3⟩
            have HB3 := hide (Hb2.out.trans (hb3.mono Hb2.out.size))
            have Hown3 := hide (ownsRow_below Hown2.out hb3)
            have Hps3 := hide (Hps2.out.below hb3)
            clear hb3
            cases q with
            | false =>
              have hRn : R = none := by
                rw [HRr.out]
                rcases Nat.eq_zero_or_pos (16 - ps.length) with h | h
                · rw [h]; rfl
                · obtain ⟨k, hk⟩ : ∃ k, 16 - ps.length = k + 1 := ⟨16 - ps.length - 1, by omega⟩
                  rw [hk, Hstep.out]; rfl
              have HRn := hide hRn
              clear hRn
              go_wp2
              go_ret2
              rw [HRn.out]
              exact ⟨rfl, HB3.out⟩
            | true =>
              have HStep := hide (show ∀ k, readF (k + 1) r = if more2 then (readF k r2).map (Pt.lit s1 :: ·) else some [Pt.lit s1] from fun k => Hstep.out k)
              by_cases h16 : ps.length = 16
              · have hRn : R = none := by rw [HRr.out, h16]; rfl
                have HRn := hide hRn
                have h16' : ((ps.length : Int) == 16) = true := by rw [h16]; rfl
                clear hRn h16
                go_wp2
                go_ret2
                rw [HRn.out]
                exact ⟨rfl, HB3.out⟩
              · have h16' : ((ps.length : Int) == 16) = false := beq_eq_false_iff_ne.2 (by omega)
                have hps15 : ps.length ≤ 15 := by omega
                have hRs : R = if more2 then (readF (16 - (ps.length + 1)) r2).map ((ps ++ [Pt.lit s1]) ++ ·) else some (ps ++ [Pt.lit s1]) := by
                  rw [HRr.out, show 16 - ps.length = (16 - (ps.length + 1)) + 1 by omega, HStep.out]
                  cases more2 with
                  | true =>
                    rw [if_pos rfl, if_pos rfl]
                    cases readF (16 - (ps.length + 1)) r2 with
                    | none => rfl
                    | some M => show some (ps ++ (Pt.lit s1 :: M)) = some ((ps ++ [Pt.lit s1]) ++ M); rw [List.append_assoc]; rfl
                  | false => rw [if_neg Bool.false_ne_true, if_neg Bool.false_ne_true]; rfl
                have HRs := hide hRs
                have HPx := hide (show PartIs (w3.alloc (.cells #[.iface 108 (.string (bsP s1))] 105)) (Value.slice A4 ps.length cap4).ownBlock (Pt.lit s1) (.iface 108 (.string (bsP s1))) from ⟨rfl, He32.out rfl⟩)
                have HPs := hide (Hps3.out.below ((Below.refl w3.heap.size w3).alloc (Nat.le_refl _) (.cells #[.iface 108 (.string (bsP s1))] 105)))
                clear hRs h16
                go_wp2_with (at_builtin; refine wpList_append_at _ rfl _ _ 92 rfl w.heap.size 105 infoPart Try.underlying92 rfl (by decide) _ ps.length xs rfl (Hown3.out.alloc (.cells #[.iface 108 (.string (bsP s1))] 105)) ⟨w3.heap.size, 0, none⟩ 1 1 [.iface 108 (.string (bsP s1))] rfl rfl (cells_new _ _ rfl) (by intro u hu; simp only [List.mem_cons, List.not_mem_nil, or_false] at hu; rcases hu with rfl; rfl) (by unfold maxLen; omega) (by omega) (by rw [World.size_alloc]; have := HB3.out.size; omega) ?_; intro v' w9 hown9 hgrow9 _ hnb9)
                have HP9 := hide (HPs.out.grown HPx.out hgrow9 hnb9)
                have HB9 := hide ((HB3.out.alloc HB3.out.size (.cells #[.iface 108 (.string (bsP s1))] 105)).grown hgrow9 (by rw [World.size_alloc]; have := HB3.out.size; omega) (fun j hj => (World.ownsRow.lt (Hown3.out.alloc (.cells #[.iface 108 (.string (bsP s1))] 105)) j hj).1))
                have HOwn9 := hide (show w9.ownsRow w.heap.size 105 1 v' (ps ++ [Pt.lit s1]).length (xs ++ [.iface 108 (.string (bsP s1))]) by rw [List.length_append]; exact hown9)
                clear hown9 hgrow9 hnb9
                cases more2 with
                | true =>
                  have hR2 := HRs.out
                  rw [if_pos rfl] at hR2
                  have HR2 := hide hR2
                  clear hR2 HRs
                  go_wp2
                  go_roundg (16 - ps.length)
                  case measure => have := Hgp.out; omega
                  case rel => exact ⟨r2, ps ++ [Pt.lit s1], xs ++ [.iface 108 (.string (bsP s1))], true, rfl, rfl, HOwn9.out, HP9.out, HB9.out, by rw [List.length_append, List.length_singleton]; omega, hr2, .inr ⟨rfl, by rw [List.length_append, List.length_singleton]; omega, by rw [List.length_append]; exact HR2.out⟩⟩
                | false =>
                  have hR2 := HRs.out
                  rw [if_neg Bool.false_ne_true] at hR2
                  have HR2 := hide hR2
                  clear hR2 HRs
                  go_wp2
                  go_roundg 0
                  case measure => have := Hgp.out; omega
                  case rel => exact ⟨r2, ps ++ [Pt.lit s1], xs ++ [.iface 108 (.string (bsP s1))], false, rfl, rfl, HOwn9.out, HP9.out, HB9.out, by rw [List.length_append, List.length_singleton]; omega, hr2, .inl ⟨rfl, rfl, HR2.out⟩⟩
          · rw [decide_eq_false hh] at P
            have C : ∀ W : World, Gm W → Calls Try.prog 80 #[.string (bsP r), .string ⟨#[46]⟩] W fun e w' => e = .returned (.tuple #[.string (bsP (cutN r).1), .string (bsP (cutN r).2.1), .bool (cutN r).2.2]) ∧ ∃ n, w' = W.drewN n := fun W hW => by
              obtain ⟨m, hm⟩ := hW
              have hcut : cutN r = Lib.cut r [46] := by unfold cutN; rw [if_neg hh]
              rw [hcut]
              exact Try.strings_Cut (bsP r) ⟨#[46]⟩ m W (by rw [bsP_size]; omega) hm
            have hch : (cutN r).1.head? ≠ some 92 := by unfold cutN; rw [if_neg hh]; exact fun e => hh (cutP_head r 92 [46] e)
            generalize cutN r = c at *
            obtain ⟨s1, r2, more2⟩ := c
            simp only at C hch hcl hstep
            have HC := hide C
            obtain ⟨hs1, hr2⟩ := hcl
            by_cases hns : s1 = [42, 42]
            · have hpv : partV s1 = some .any := by unfold partV; rw [if_pos hns]
              rw [hpv] at hstep
              have HStep := hide (show ∀ k, readF (k + 1) r = if more2 then (readF k r2).map (Pt.any :: ·) else some [Pt.any] from fun k => hstep k)
              have hns' : ((bsP s1).toList == [42, 42]) = true := by rw [toList_bsP]; exact beq_iff_eq.2 hns
              clear C hch hns hpv hh hstep hs1
              go_wp2_with fail
              refine (P.out _).mono ?_
              rintro e wr ⟨rfl, rfl⟩
              go_wp2_with fail
              refine (HC.out _ (G.out.below Hb.out)).mono ?_
              rintro e w2 ⟨rfl, k2, rfl⟩
              obtain ⟨W2, hW2⟩ : ∃ W2, wr.drewN k2 = W2 := ⟨_, rfl⟩
              have hbq : Below wr.heap.size wr W2 := by rw [← hW2]; exact Below_drewN (Below.refl _ _) k2
              have Hb2 := hide (Hb.out.trans (hbq.mono Hb.out.size))
              have Hown2 := hide (ownsRow_below Hown.out hbq)
              have Hps2 := hide (Hps.out.below hbq)
              rw [hW2]
              clear hW2 hbq
              by_cases h16 : ps.length = 16
              · have hRn : R = none := by rw [HRr.out, h16]; rfl
                have HRn := hide hRn
                have h16' : ((ps.length : Int) == 16) = true := by rw [h16]; rfl
                clear hRn h16
                go_wp2
                go_ret2
                rw [HRn.out]
                exact ⟨rfl, Hb2.out⟩
              · have h16' : ((ps.length : Int) == 16) = false := beq_eq_false_iff_ne.2 (by omega)
                have hps15 : ps.length ≤ 15 := by omega
                have hRs : R = if more2 then (readF (16 - (ps.length + 1)) r2).map ((ps ++ [Pt.any]) ++ ·) else some (ps ++ [Pt.any]) := by
                  rw [HRr.out, show 16 - ps.length = (16 - (ps.length + 1)) + 1 by omega, HStep.out]
                  cases more2 with
                  | true =>
                    rw [if_pos rfl, if_pos rfl]
                    cases readF (16 - (ps.length + 1)) r2 with
                    | none => rfl
                    | some M => show some (ps ++ (Pt.any :: M)) = some ((ps ++ [Pt.any]) ++ M); rw [List.append_assoc]; rfl
                  | false => rw [if_neg Bool.false_ne_true, if_neg Bool.false_ne_true]; rfl
                have HRs := hide hRs
                have HPx := hide (show PartIs (W2.alloc (.cells #[.iface 107 (.agg #[])] 105)) (Value.slice A4 ps.length cap4).ownBlock (Pt.any) (.iface 107 (.agg #[])) from rfl)
                have HPs := hide (Hps2.out.below ((Below.refl W2.heap.size W2).alloc (Nat.le_refl _) (.cells #[.iface 107 (.agg #[])] 105)))
                clear hRs h16
                go_wp2_with (at_builtin; refine wpList_append_at _ rfl _ _ 92 rfl w.heap.size 105 infoPart Try.underlying92 rfl (by decide) _ ps.length xs rfl (Hown2.out.alloc (.cells #[.iface 107 (.agg #[])] 105)) ⟨W2.heap.size, 0, none⟩ 1 1 [.iface 107 (.agg #[])] rfl rfl (cells_new _ _ rfl) (by intro u hu; simp only [List.mem_cons, List.not_mem_nil, or_false] at hu; rcases hu with rfl; rfl) (by unfold maxLen; omega) (by omega) (by rw [World.size_alloc]; have := Hb2.out.size; omega) ?_; intro v' w9 hown9 hgrow9 _ hnb9)
                have HP9 := hide (HPs.out.grown HPx.out hgrow9 hnb9)
                have HB9 := hide ((Hb2.out.alloc Hb2.out.size (.cells #[.iface 107 (.agg #[])] 105)).grown hgrow9 (by rw [World.size_alloc]; have := Hb2.out.size; omega) (fun j hj => (World.ownsRow.lt (Hown2.out.alloc (.cells #[.iface 107 (.agg #[])] 105)) j hj).1))
                have HOwn9 := hide (show w9.ownsRow w.heap.size 105 1 v' (ps ++ [Pt.any]).length (xs ++ [.iface 107 (.agg #[])]) by rw [List.length_append]; exact hown9)
                clear hown9 hgrow9 hnb9
                cases more2 with
                | true =>
                  have hR2 := HRs.out
                  rw [if_pos rfl] at hR2
                  have HR2 := hide hR2
                  clear hR2 HRs
                  go_wp2
                  go_roundg (16 - ps.length)
                  case measure => have := Hgp.out; omega
                  case rel => exact ⟨r2, ps ++ [Pt.any], xs ++ [.iface 107 (.agg #[])], true, rfl, rfl, HOwn9.out, HP9.out, HB9.out, by rw [List.length_append, List.length_singleton]; omega, hr2, .inr ⟨rfl, by rw [List.length_append, List.length_singleton]; omega, by rw [List.length_append]; exact HR2.out⟩⟩
                | false =>
                  have hR2 := HRs.out
                  rw [if_neg Bool.false_ne_true] at hR2
                  have HR2 := hide hR2
                  clear hR2 HRs
                  go_wp2
                  go_roundg 0
                  case measure => have := Hgp.out; omega
                  case rel => exact ⟨r2, ps ++ [Pt.any], xs ++ [.iface 107 (.agg #[])], false, rfl, rfl, HOwn9.out, HP9.out, HB9.out, by rw [List.length_append, List.length_singleton]; omega, hr2, .inl ⟨rfl, rfl, HR2.out⟩⟩
            · have hpv : partV s1 = (wildV s1).map .wild := by unfold partV; rw [if_neg hns, if_neg hch]
              rw [hpv] at hstep
              have hns' : ((bsP s1).toList == [42, 42]) = false := by rw [toList_bsP]; exact beq_eq_false_iff_ne.2 hns
              have P2 := hide (fun W : World => Try.strings_HasPrefix (bsP s1) ⟨#[92]⟩ W)
              rw [bsP_list, show (⟨#[92]⟩ : ByteArray).data.toList = [92] from rfl, (trim_one 92 s1).1, decide_eq_false hch] at P2
              have N := hide (fun (W : World) (hW : Gm W) => readWild_any s1 W (by omega) hW)
              have Hstep := hide hstep
              generalize wildV s1 = q at *
              clear C hch hns hpv hh hstep hs1
              go_wp2_with fail
              refine (P.out _).mono ?_
              rintro e wr ⟨rfl, rfl⟩
              go_wp2_with fail
              refine (HC.out _ (G.out.below Hb.out)).mono ?_
              rintro e w2 ⟨rfl, k2, rfl⟩
              obtain ⟨W2, hW2⟩ : ∃ W2, wr.drewN k2 = W2 := ⟨_, rfl⟩
              have hbq : Below wr.heap.size wr W2 := by rw [← hW2]; exact Below_drewN (Below.refl _ _) k2
              have Hb2 := hide (Hb.out.trans (hbq.mono Hb.out.size))
              have Hown2 := hide (ownsRow_below Hown.out hbq)
              have Hps2 := hide (Hps.out.below hbq)
              rw [hW2]
              clear hW2 hbq
              go_wp2_with fail
              refine (P2.out _).mono ?_
              rintro e W2 ⟨rfl, rfl⟩
              go_wp2_with fail
              refine (N.out _ (G.out.below Hb2.out)).mono ?_
              rintro e w3 h3
              cases q with
              | none =>
                obtain ⟨rfl, hb3⟩ := h3
                have hRn : R = none := by
                  rw [HRr.out]
                  rcases Nat.eq_zero_or_pos (16 - ps.length) with h | h
                  · rw [h]; rfl
                  · obtain ⟨k, hk⟩ : ∃ k, 16 - ps.length = k + 1 := ⟨16 - ps.length - 1, by omega⟩
                    rw [hk, Hstep.out]; rfl
                have HRn := hide hRn
                have HB3 := hide (Hb2.out.trans (hb3.mono Hb2.out.size))
                clear hRn hb3
                go_wp2
                go_ret2
                rw [HRn.out]
                exact ⟨rfl, HB3.out⟩
              | some O =>
                obtain ⟨g3, cap3, rfl, hwit, hO1, hO2, hO3, hg3, hg3', hb3⟩ := h3
                have HStep := hide (show ∀ k, readF (k + 1) r = if more2 then (readF k r2).map (Pt.wild O :: ·) else some [Pt.wild O] from fun k => Hstep.out k)
                have HB3 := hide (Hb2.out.trans (hb3.mono Hb2.out.size))
                have Hown3 := hide (ownsRow_below Hown2.out hb3)
                have Hps3 := hide (Hps2.out.below hb3)
                have Hx := hide (show PartIs w3 (Value.slice A4 ps.length cap4).ownBlock (.wild O) (.iface 116 (.slice (some ⟨g3, 0, none⟩) O.length cap3)) from ⟨g3, cap3, rfl, hwit, hO1, hO2, hO3, hg3', fun e => by have := (World.ownsRow.lt Hown2.out g3 e.symm).2; omega⟩)
                clear hwit hO1 hO2 hO3 hg3 hg3' hb3
                by_cases h16 : ps.length = 16
                · have hRn : R = none := by rw [HRr.out, h16]; rfl
                  have HRn := hide hRn
                  have h16' : ((ps.length : Int) == 16) = true := by rw [h16]; rfl
                  clear hRn h16
                  go_wp2
                  go_ret2
                  rw [HRn.out]
                  exact ⟨rfl, HB3.out⟩
                · have h16' : ((ps.length : Int) == 16) = false := beq_eq_false_iff_ne.2 (by omega)
                  have hps15 : ps.length ≤ 15 := by omega
                  have hRs : R = if more2 then (readF (16 - (ps.length + 1)) r2).map ((ps ++ [Pt.wild O]) ++ ·) else some (ps ++ [Pt.wild O]) := by
                    rw [HRr.out, show 16 - ps.length = (16 - (ps.length + 1)) + 1 by omega, HStep.out]
                    cases more2 with
                    | true =>
                      rw [if_pos rfl, if_pos rfl]
                      cases readF (16 - (ps.length + 1)) r2 with
                      | none => rfl
                      | some M => show some (ps ++ (Pt.wild O :: M)) = some ((ps ++ [Pt.wild O]) ++ M); rw [List.append_assoc]; rfl
                    | false => rw [if_neg Bool.false_ne_true, if_neg Bool.false_ne_true]; rfl
                  have HRs := hide hRs
                  have HPx := hide (show PartIs (w3.alloc (.cells #[.iface 116 (.slice (some ⟨g3, 0, none⟩) O.length cap3)] 105)) (Value.slice A4 ps.length cap4).ownBlock (Pt.wild O) (.iface 116 (.slice (some ⟨g3, 0, none⟩) O.length cap3)) from Hx.out.below ((Below.refl w3.heap.size w3).alloc (Nat.le_refl _) _))
                  have HPs := hide (Hps3.out.below ((Below.refl w3.heap.size w3).alloc (Nat.le_refl _) (.cells #[.iface 116 (.slice (some ⟨g3, 0, none⟩) O.length cap3)] 105)))
                  clear hRs h16
                  go_wp2_with (at_builtin; refine wpList_append_at _ rfl _ _ 92 rfl w.heap.size 105 infoPart Try.underlying92 rfl (by decide) _ ps.length xs rfl (Hown3.out.alloc (.cells #[.iface 116 (.slice (some ⟨g3, 0, none⟩) O.length cap3)] 105)) ⟨w3.heap.size, 0, none⟩ 1 1 [.iface 116 (.slice (some ⟨g3, 0, none⟩) O.length cap3)] rfl rfl (cells_new _ _ rfl) (by intro u hu; simp only [List.mem_cons, List.not_mem_nil, or_false] at hu; rcases hu with rfl; rfl) (by unfold maxLen; omega) (by omega) (by rw [World.size_alloc]; have := HB3.out.size; omega) ?_; intro v' w9 hown9 hgrow9 _ hnb9)
                  have HP9 := hide (HPs.out.grown HPx.out hgrow9 hnb9)
                  have HB9 := hide ((HB3.out.alloc HB3.out.size (.cells #[.iface 116 (.slice (some ⟨g3, 0, none⟩) O.length cap3)] 105)).grown hgrow9 (by rw [World.size_alloc]; have := HB3.out.size; omega) (fun j hj => (World.ownsRow.lt (Hown3.out.alloc (.cells #[.iface 116 (.slice (some ⟨g3, 0, none⟩) O.length cap3)] 105)) j hj).1))
                  have HOwn9 := hide (show w9.ownsRow w.heap.size 105 1 v' (ps ++ [Pt.wild O]).length (xs ++ [.iface 116 (.slice (some ⟨g3, 0, none⟩) O.length cap3)]) by rw [List.length_append]; exact hown9)
                  clear hown9 hgrow9 hnb9
                  cases more2 with
                  | true =>
                    have hR2 := HRs.out
                    rw [if_pos rfl] at hR2
                    have HR2 := hide hR2
                    clear hR2 HRs
                    go_wp2
                    go_roundg (16 - ps.length)
                    case measure => have := Hgp.out; omega
                    case rel => exact ⟨r2, ps ++ [Pt.wild O], xs ++ [.iface 116 (.slice (some ⟨g3, 0, none⟩) O.length cap3)], true, rfl, rfl, HOwn9.out, HP9.out, HB9.out, by rw [List.length_append, List.length_singleton]; omega, hr2, .inr ⟨rfl, by rw [List.length_append, List.length_singleton]; omega, by rw [List.length_append]; exact HR2.out⟩⟩
                  | false =>
                    have hR2 := HRs.out
                    rw [if_neg Bool.false_ne_true] at hR2
                    have HR2 := hide hR2
                    clear hR2 HRs
                    go_wp2
                    go_roundg 0
                    case measure => have := Hgp.out; omega
                    case rel => exact ⟨r2, ps ++ [Pt.wild O], xs ++ [.iface 116 (.slice (some ⟨g3, 0, none⟩) O.length cap3)], false, rfl, rfl, HOwn9.out, HP9.out, HB9.out, by rw [List.length_append, List.length_singleton]; omega, hr2, .inl ⟨rfl, rfl, HR2.out⟩⟩
end Go.Proofs.Ytpfiofgchkfkhaa

/- Plain laws of matching paths step by step; rows of bools. -/
set_option linter.unusedVariables false
set_option linter.unusedSimpArgs false
namespace Go.Proofs.Ytpfiofgchkfkhaa
open Go.RowKit Go.Shelf

theorem dp_any (ps : List Pt) (x : Pt) (hx : x.isAny = true) (P : List (List UInt8)) (k : Nat) (hk : k ≤ P.length) :
    mP (ps ++ [x]) (P.take k) = (mP ps (P.take k) || (decide (0 < k) && mP (ps ++ [x]) (P.take (k - 1)))) := by
  have one : ∀ q, mP [x] q = true := fun q => by rw [mP_one, if_pos hx]
  have iff : ∀ m, m ≤ P.length → (mP (ps ++ [x]) (P.take m) = true ↔ ∃ i, i ≤ m ∧ mP ps (P.take i) = true) := fun m hm => by
    rw [mP_append]
    constructor
    · rintro ⟨i, hi, h1, _⟩
      rw [List.length_take] at hi
      rw [List.take_take, show min i m = i by omega] at h1
      exact ⟨i, by omega, h1⟩
    · rintro ⟨i, hi, h1⟩
      exact ⟨i, by rw [List.length_take]; omega, by rw [List.take_take, show min i m = i by omega]; exact h1, one _⟩
  rw [Bool.eq_iff_iff, iff k hk, Bool.or_eq_true, Bool.and_eq_true, decide_eq_true_eq]
  constructor
  · rintro ⟨i, hi, h1⟩
    by_cases he : i = k
    · subst he; exact .inl h1
    · exact .inr ⟨by omega, (iff (k - 1) (by omega)).2 ⟨i, by omega, h1⟩⟩
  · rintro (h | ⟨h0, h⟩)
    · exact ⟨k, Nat.le_refl _, h⟩
    · obtain ⟨i, hi, h1⟩ := (iff (k - 1) (by omega)).1 h
      exact ⟨i, by omega, h1⟩
theorem dp_zero (ps : List Pt) (x : Pt) (hx : x.isAny = false) (P : List (List UInt8)) : mP (ps ++ [x]) (P.take 0) = false := by
  rw [← Bool.not_eq_true, mP_append]
  rintro ⟨i, hi, _, h2⟩
  rw [List.take_zero, List.drop_nil, mP_none _ hx] at h2; cases h2
theorem dp_one (ps : List Pt) (x : Pt) (hx : x.isAny = false) (P : List (List UInt8)) (k : Nat) (hk : k < P.length) :
    mP (ps ++ [x]) (P.take (k + 1)) = (mP ps (P.take k) && x.ok P[k]) := by
  rw [Bool.eq_iff_iff, mP_append, Bool.and_eq_true]
  constructor
  · rintro ⟨i, hi, h1, h2⟩
    rw [List.length_take] at hi
    have hl : ((P.take (k + 1)).drop i).length = k + 1 - i := by rw [List.length_drop, List.length_take]; omega
    rw [mP_one, if_neg (by rw [hx]; decide)] at h2
    have h3 : k + 1 - i = 1 := by
      rw [← hl]
      split at h2
      · rename_i n hn; rw [hn]; rfl
      · cases h2
    have hi' : i = k := by omega
    subst hi'
    rw [List.take_take, show min i (i + 1) = i by omega] at h1
    have e : (P.take (i + 1)).drop i = [P[i]] := by
      rw [List.drop_take, show i + 1 - i = 1 by omega, List.drop_eq_getElem_cons hk]; rfl
    rw [e] at h2
    exact ⟨h1, h2⟩
  · rintro ⟨h1, h2⟩
    refine ⟨k, by rw [List.length_take]; omega, by rw [List.take_take, show min k (k + 1) = k by omega]; exact h1, ?_⟩
    have e : (P.take (k + 1)).drop k = [P[k]] := by
      rw [List.drop_take, show k + 1 - k = 1 by omega, List.drop_eq_getElem_cons hk]; rfl
    rw [e, mP_one, if_neg (by rw [hx]; decide)]
    exact h2
/-- the answers for the first k names, all of them -/
def boolsL (P : List (List UInt8)) (q : List Pt) : List Value := (List.range (P.length + 1)).map fun k => .bool (mP q (P.take k))
/-- those below k laid -/
def partL (P : List (List UInt8)) (q : List Pt) (k : Nat) : List Value := (List.range (P.length + 1)).map fun j => .bool (decide (j < k) && mP q (P.take j))
theorem boolsL_get (P : List (List UInt8)) (q : List Pt) (k : Nat) (hk : k ≤ P.length) : (boolsL P q)[k]? = some (.bool (mP q (P.take k))) := by
  unfold boolsL
  rw [List.getElem?_map, List.getElem?_range (by omega)]; rfl
theorem partL_get (P : List (List UInt8)) (q : List Pt) (k j : Nat) (hj : j ≤ P.length) : (partL P q k)[j]? = some (.bool (decide (j < k) && mP q (P.take j))) := by
  unfold partL
  rw [List.getElem?_map, List.getElem?_range (by omega)]; rfl
theorem partL_none (P : List (List UInt8)) (q : List Pt) (k j : Nat) (hj : P.length < j) : (partL P q k)[j]? = none := by
  unfold partL
  rw [List.getElem?_eq_none (by simp; omega)]
theorem partL_0 (P : List (List UInt8)) (q : List Pt) : partL P q 0 = List.replicate (P.length + 1) (.bool false) := by
  unfold partL
  apply List.ext_getElem?
  intro j
  by_cases hj : j < P.length + 1
  · rw [List.getElem?_map, List.getElem?_range hj, List.getElem?_replicate, if_pos hj]; rfl
  · rw [List.getElem?_eq_none (by simp; omega), List.getElem?_eq_none (by simp; omega)]
theorem partL_all (P : List (List UInt8)) (q : List Pt) : partL P q (P.length + 1) = boolsL P q := by
  unfold partL boolsL
  apply List.map_congr_left
  intro j hj
  rw [List.mem_range] at hj
  rw [decide_eq_true hj, Bool.true_and]
theorem partL_set (P : List (List UInt8)) (q : List Pt) (k : Nat) (hk : k ≤ P.length) : (partL P q k).set k (.bool (mP q (P.take k))) = partL P q (k + 1) := by
  apply List.ext_getElem?
  intro j
  rw [List.getElem?_set]
  by_cases h : k = j
  · subst h
    rw [if_pos rfl, if_pos (by unfold partL; simp; omega), partL_get P q (k + 1) k hk, decide_eq_true (Nat.lt_succ_self k), Bool.true_and]
  · rw [if_neg h]
    rcases Nat.lt_or_ge P.length j with hj | hj
    · rw [partL_none _ _ _ _ hj, partL_none _ _ _ _ hj]
    · rw [partL_get _ _ _ _ hj, partL_get _ _ _ _ hj]
      congr 3
      rw [decide_eq_decide]; omega
theorem partL_keep (P : List (List UInt8)) (q : List Pt) (k : Nat) (hf : mP q (P.take k) = false) : partL P q k = partL P q (k + 1) := by
  unfold partL
  apply List.map_congr_left
  intro j hj
  by_cases h : k = j
  · subst h; rw [hf, Bool.and_false, Bool.and_false]
  · congr 2
    rw [decide_eq_decide]; omega
theorem bools_start (P : List (List UInt8)) : (List.replicate (P.length + 1) (Value.bool false)).set 0 (.bool true) = boolsL P [] := by
  rw [← partL_0 P [], ← partL_all]
  apply List.ext_getElem?
  intro j
  rw [List.getElem?_set]
  by_cases h : 0 = j
  · subst h
    rw [if_pos rfl, if_pos (by unfold partL; simp), partL_get _ _ _ _ (Nat.zero_le _), decide_eq_true (Nat.succ_pos _)]
    rfl
  · rw [if_neg h]
    rcases Nat.lt_or_ge P.length j with hj | hj
    · rw [partL_none _ _ _ _ hj, partL_none _ _ _ _ hj]
    · rw [partL_get _ _ _ _ hj, partL_get _ _ _ _ hj]
      have e : mP [] (P.take j) = false := by
        show (P.take j).isEmpty = false
        rw [Bool.eq_false_iff]
        intro he
        have := congrArg List.length (List.isEmpty_iff.1 he)
        rw [List.length_take, List.length_nil] at this
        omega
      rw [e, Bool.and_false, Bool.and_false]
theorem madeP (z : Value) (hz : z.cells = #[z]) (n : Nat) : madeCells z.cells n = (List.replicate n z).toArray := by
  rw [hz]
  apply Array.ext
  · simp [madeCells]
  · intro i h1 h2
    simp [madeCells, Nat.mod_one]
theorem infoBool : (Try.prog.info? 4).map (fun i => (i.zero, i.size, i.bytes)) = some (some (.bool false), 1, 1) := by kernel_rfl
theorem run_make_bools (n : Nat) (hn : n ≤ 1099511627776) (w : World) : (Instr.makeSlice 111 (.int .i64 ((n : Int) + 1)) (.int .i64 ((n : Int) + 1))).run Try.prog w =
    .ok (.slice (some ⟨w.heap.size, 0, none⟩) (n + 1) (n + 1)) (w.alloc (.cells (List.replicate (n + 1) (Value.bool false)).toArray 4)) := by
  obtain ⟨i, hi, hz, h1, h2⟩ := info_parts infoBool
  have h := run_make (P := Try.prog) w 111 4 i _ Try.underlying111 hi hz .i64 .i64 ((n : Int) + 1) ((n : Int) + 1) (by omega) (Int.le_refl _) (by rw [h2]; omega) (by omega)
  rw [h1, madeP _ rfl, show ((n : Int) + 1).toNat = n + 1 by omega, Nat.mul_one] at h
  exact h
theorem assert_any (w : World) : (Instr.typeAssert (.iface 107 (.agg #[])) 105 107 true).run Try.prog w = .ok (.tuple #[.agg #[], .bool true]) w := by
  unfold Instr.typeAssert
  simp [Sem.run_bind, run_underlying Try.underlying107, Result.andThen]
theorem zero_anyP (w : World) : (zeroValue 107).run Try.prog w = .ok (.agg #[]) w := zero_of (by kernel_rfl) w
theorem assert_lit (v : Value) (w : World) : (Instr.typeAssert (.iface 108 v) 105 107 true).run Try.prog w = .ok (.tuple #[.agg #[], .bool false]) w := by
  unfold Instr.typeAssert
  simp [Sem.run_bind, run_underlying Try.underlying107, Result.andThen, zero_anyP]
theorem assert_wild (v : Value) (w : World) : (Instr.typeAssert (.iface 116 v) 105 107 true).run Try.prog w = .ok (.tuple #[.agg #[], .bool false]) w := by
  unfold Instr.typeAssert
  simp [Sem.run_bind, run_underlying Try.underlying107, Result.andThen, zero_anyP]
theorem ahead_of {P : Program} {t : TypeId} {f : FuncId} {d : TypeDesc} {name : String} (h : (P.info? t).map (fun i => (i.methods.find? (·.name == name)).map fun m => (m.path.toList, m.func)) = some (some ([], some (f, false)))) (hu : P.underlying t = some d) (hd : ∀ x, d ≠ .pointer x) (n : Nat) (v : Value) (w : World) : (nilAhead (n + 1) t v name).run P w = .ok (some false) w := by
  cases hq : P.info? t with
  | none => rw [hq] at h; cases h
  | some i =>
    rw [hq] at h
    simp only [Option.map_some, Option.some.injEq] at h
    cases hm : i.methods.find? (·.name == name) with
    | none => rw [hm] at h; cases h
    | some m =>
      rw [hm] at h
      simp only [Option.map_some, Option.some.injEq, Prod.mk.injEq] at h
      have ht : ∀ w, (typeInfo t).run P w = .ok i w := by intro w; simp [typeInfo, Sem.run_bind, Result.andThen, hq]
      unfold nilAhead
      rw [Sem.run_bind, ht, Result.andThen_ok]
      simp only [hm]
      rw [Sem.run_bind, h.1]
      simp only [followBlind, Sem.run_pure, Result.andThen_ok, h.2]
      rw [Sem.run_bind, run_underlying hu, Result.andThen_ok]
      cases d with
      | pointer x => exact absurd rfl (hd x)
      | _ => rfl
theorem method_of {P : Program} {t : TypeId} {f : FuncId} {d : TypeDesc} {name : String} (h : (P.info? t).map (fun i => (i.methods.find? (·.name == name)).map fun m => (m.path.toList, m.func)) = some (some ([], some (f, false)))) (hu : P.underlying t = some d) (hd : ∀ x, d ≠ .pointer x) (n : Nat) (v : Value) (w : World) : (method (n + 1) t v name).run P w = .ok (f, v) w := by
  cases hq : P.info? t with
  | none => rw [hq] at h; cases h
  | some i =>
    rw [hq] at h
    simp only [Option.map_some, Option.some.injEq] at h
    cases hm : i.methods.find? (·.name == name) with
    | none => rw [hm] at h; cases h
    | some m =>
      rw [hm] at h
      simp only [Option.map_some, Option.some.injEq, Prod.mk.injEq] at h
      have ht : ∀ w, (typeInfo t).run P w = .ok i w := by intro w; simp [typeInfo, Sem.run_bind, Result.andThen, hq]
      unfold method
      rw [Sem.run_bind, ht, Result.andThen_ok]
      simp only [hm]
      rw [Sem.run_bind, h.1]
      simp only [follow, Sem.run_pure, Result.andThen_ok, h.2]
      rw [Sem.run_bind]
      unfold receiverAt
      rw [Sem.run_bind, run_underlying hu, Result.andThen_ok]
      cases d with
      | pointer x => exact absurd rfl (hd x)
      | _ => rfl
theorem row_part {W : World} {g : Nat} {t : TypeId} {P : List (List UInt8)} {q : List Pt} {k : Nat} (h : Row W g t (partL P q k).toArray) (hk : k ≤ P.length) (u : Bool) (hu : mP q (P.take k) = u) : Row (W.setCell ⟨g, k, none⟩ (.bool u)) g t (partL P q (k + 1)).toArray := by
  have := h.set_ k (.bool u)
  rwa [show (partL P q k).toArray.setIfInBounds k (.bool u) = (partL P q (k + 1)).toArray by rw [← partL_set P q k hk, hu, List.setIfInBounds_toArray]] at this
end Go.Proofs.Ytpfiofgchkfkhaa

/- Contracts of the parts that are no items: escaped names, and any path. -/
set_option linter.unusedVariables false
set_option linter.unusedSimpArgs false
namespace Go.Proofs.Ytpfiofgchkfkhaa
open Go.RowKit Go.Shelf

theorem literalMatches_any (l s : ByteArray) (w : World) :
    Calls Try.prog 125 #[.string l, .string s] w fun e w' => e = .returned (.bool ((Pt.lit l.data.toList).ok s.data.toList)) ∧ w' = w := by
  have hb : (Pt.lit l.data.toList).ok s.data.toList = (s.toList == l.toList) := by
    show decide (s.data.toList = l.data.toList) = _
    rw [Bool.eq_iff_iff, decide_eq_true_iff, beq_iff_eq, Lib.toList_data, Lib.toList_data]
  go_enter Try.func125, Try.ntmps125
  go_wp2
  go_ret
  exact ⟨ret_b hb, rfl⟩
theorem anyMatches_any (s : ByteArray) (w : World) :
    Calls Try.prog 123 #[.agg #[], .string s] w fun e w' => e = .returned (.bool false) ∧ Below w.heap.size w w' := by
  go_enter Try.func123, Try.ntmps123
  go_wp2
  go_ret
  exact ⟨rfl, by first | exact Below.refl _ _ | exact (Below.refl _ _).alloc (Nat.le_refl _) _⟩
end Go.Proofs.Ytpfiofgchkfkhaa

/- Contract of pattern's match. -/
set_option linter.unusedVariables false
set_option linter.unusedSimpArgs false
namespace Go.Proofs.Ytpfiofgchkfkhaa
open Go.RowKit Go.Shelf

def bl (L : List ByteArray) : List (List UInt8) := L.map fun s => s.data.toList
theorem bl_len (L : List ByteArray) : (bl L).length = L.length := List.length_map _
theorem bl_get (L : List ByteArray) (i : Nat) (h : i < L.length) : (bl L)[i]'(by rw [bl_len]; exact h) = L[i].data.toList := List.getElem_map _
set_option maxRecDepth 100000 in
set_option maxHeartbeats 16000000 in
theorem match_any (A : Option Addr) (cap capp : Nat) (Ap : Option Addr) (ps : List Pt) (xs : List Value) (L : List ByteArray) (w : World) (hsl : Sl id w A xs) (hP : PartsIs w none ps xs) (hAp : Sl Value.string w Ap L)
    (hps : ps.length ≤ 1000) (hL : L.length ≤ 1000000) (hz : ∀ s ∈ L, s.size ≤ 1000000) :
    Calls Try.prog 70 #[.slice A ps.length cap, .slice Ap L.length capp] w fun e w' => e = .returned (.bool (mP ps (bl L))) ∧ Below w.heap.size w w' := by
  have hmk := run_make_bools L.length (by omega)
  have hw1 : IntKind.i64.wrap ((L.length : Int) + 1) = (L.length : Int) + 1 := IntWalk.i64_in _ (by omega)
  obtain ⟨F, hF⟩ : ∃ F, List.replicate (L.length + 1) (Value.bool false) = F := ⟨_, rfl⟩
  rw [hF] at hmk
  have HF := hide hF
  clear hF
  have HSl := hide hsl
  have HP := hide hP
  have HAp := hide hAp
  have HLn := hide (show (bl L).length = L.length from bl_len L)
  have HZ := hide hz
  clear hsl hP hAp hz
  go_enter Try.func70, Try.ntmps70
  go_upto_region 2 with fail
  obtain ⟨W2, hW2⟩ : ∃ W2, w.alloc (.cells F.toArray 4) = W2 := ⟨_, rfl⟩
  have r0 : Row W2 w.heap.size 4 F.toArray := by rw [← hW2]; exact Row.new _ _ _
  have hB : Below w.heap.size w W2 := by rw [← hW2]; exact (Below.refl _ _).alloc (Nat.le_refl _) _
  have hc0 : W2.cell? ⟨w.heap.size, 0, none⟩ = some (.bool false) := by rw [r0.cell, ← HF.out]; simp
  have hf0 : W2.frozen? ⟨w.heap.size, 0, none⟩ = false := r0.frozen 0
  have HR1 := hide (show Row (W2.setCell ⟨w.heap.size, 0, none⟩ (.bool true)) w.heap.size 4 (boolsL (bl L) []).toArray by
    have := r0.set_ 0 (.bool true)
    rwa [show F.toArray.setIfInBounds 0 (.bool true) = (boolsL (bl L) []).toArray by rw [← bools_start, HLn.out, HF.out, List.setIfInBounds_toArray]] at this)
  have HB1 := hide (hB.setCell (p := ⟨w.heap.size, 0, none⟩) (Nat.le_refl _) (.bool true))
  have hlpos : (0 : Int) < (L.length : Int) + 1 := by omega
  rw [hW2]
  clear hW2 r0 hB
  go_upto_region 4 with fail
  clear hc0 hf0
  go_loopw [5, 20] (fun v5 v20 wr => ∃ (i g : Nat), v20 = .int .i64 (i : Int) ∧ i ≤ ps.length ∧ v5 = .slice (some ⟨g, 0, none⟩) (L.length + 1) (L.length + 1) ∧ Row wr g 4 (boolsL (bl L) (ps.take i)).toArray ∧ w.heap.size ≤ g ∧ Below w.heap.size w wr) (fun _ v _ => ps.length - (intOf v).toNat)
  case atStart => exact ⟨0, w.heap.size, rfl, Nat.zero_le _, rfl, HR1.out, Nat.le_refl _, HB1.out⟩
  case round =>
    obtain ⟨i, g, rfl, hi, rfl, hrow, hg, hb⟩ := hrel
    have Hrow := hide hrow
    have Hb := hide hb
    clear hrow hb
    by_cases hlt : i < ps.length
    · obtain ⟨v, hv, hpi⟩ := HP.out.2 i hlt
      have hxi : i < xs.length := by rw [HP.out.1]; exact hlt
      have hv2 : xs[i]'hxi = v := by rw [List.getElem?_eq_getElem hxi] at hv; exact Option.some.inj hv
      obtain ⟨b, off, rfl, hbl, hcell⟩ := HSl.out.at hxi
      have hc := hcell wr (Hb.out.mono (Nat.le_refl _))
      rw [hv2] at hc
      have hc' : wr.cell? ⟨b, off + i, none⟩ = some v := hc
      have htk : ps.take (i + 1) = ps.take i ++ [ps[i]] := by rw [List.take_add_one, List.getElem?_eq_getElem hlt]; rfl
      have hi' : (i : Int) < (ps.length : Int) := by omega
      have hwi : IntKind.i64.wrap ((i : Int) + 1) = (i : Int) + 1 := IntWalk.i64_in _ (by omega)
      have HTk := hide htk
      have Hpi := hide hpi
      clear hv hv2 hcell hpi hc htk hxi
      obtain ⟨x, hx⟩ : ∃ x, ps[i] = x := ⟨_, rfl⟩
      rw [hx] at HTk Hpi
      clear hx
      cases x with
      | any =>
        have hv3 := Hpi.out
        have hv4 : v = .iface 107 (.agg #[]) := hv3
        subst hv4
        clear hv3
        have hta := assert_any
        have hzp := zero_anyP
        go_upto_region 9 with fail
        obtain ⟨W3, hW3⟩ : ∃ W3, (wr.alloc (.cells F.toArray 4)).alloc (.cells #[] 107) = W3 := ⟨_, rfl⟩
        have HW3 := hide (show Row W3 wr.heap.size 4 F.toArray ∧ Row W3 g 4 (boolsL (bl L) (ps.take i)).toArray ∧ Below w.heap.size w W3 ∧ w.heap.size ≤ wr.heap.size from by
          rw [← hW3]; exact ⟨(Row.new _ _ _).alloc _, (Hrow.out.alloc _).alloc _, (Hb.out.alloc Hb.out.size _).alloc (by rw [World.size_alloc]; have := Hb.out.size; omega) _, Hb.out.size⟩)
        have Hgl := hide Hrow.out.lt
        obtain ⟨g2, hg2⟩ : ∃ g2, wr.heap.size = g2 := ⟨_, rfl⟩
        rw [hg2] at HW3 Hgl
        rw [hW3, hg2]
        clear hW3 hg2 hc' hta hzp hmk
        go_loopw [35] (fun v wq => ∃ k : Nat, v = .int .i64 (k : Int) ∧ k ≤ L.length + 1 ∧ Row wq g2 4 (partL (bl L) (ps.take (i + 1)) k).toArray ∧ Row wq g 4 (boolsL (bl L) (ps.take i)).toArray ∧ Below w.heap.size w wq) (fun v _ => L.length + 1 - (intOf v).toNat)
        case atStart => exact ⟨0, rfl, Nat.zero_le _, by rw [partL_0, HLn.out, HF.out]; exact HW3.out.1, HW3.out.2.1, HW3.out.2.2.1⟩
        case round =>
          obtain ⟨k, rfl, hk, hq2, hqg, hqb⟩ := hrel
          have Q2 := hide hq2
          have Qg := hide hqg
          have Qb := hide hqb
          clear hq2 hqg hqb
          by_cases hkl : k < L.length + 1
          · have hk' : (k : Int) < (L.length : Int) + 1 := by omega
            have hk0 : (0 : Int) ≤ (k : Int) := by omega
            have hwk : IntKind.i64.wrap ((k : Int) + 1) = (k : Int) + 1 := IntWalk.i64_in _ (by omega)
            have f0 : wr.frozen? ⟨g2, k, none⟩ = false := Q2.out.frozen _
            have hkP : k ≤ (bl L).length := by rw [HLn.out]; omega
            obtain ⟨v0, c0⟩ : ∃ v0, wr.cell? ⟨g2, k, none⟩ = some v0 := ⟨_, by rw [Q2.out.cell, List.getElem?_toArray]; exact partL_get _ _ _ _ hkP⟩
            have HkP := hide hkP
            have hne : g ≠ g2 := by have := Hgl.out; omega
            have Hne := hide hne
            clear hkP hne
            have HRow := hide (fun (u : Bool) (hu : mP (ps.take (i + 1)) ((bl L).take k) = u) => row_part Q2.out HkP.out u hu)
            have hdp := dp_any (ps.take i) .any rfl (bl L) k HkP.out
            rw [← HTk.out] at hdp
            have ca : wr.cell? ⟨g, k, none⟩ = some (.bool (mP (ps.take i) ((bl L).take k))) := by rw [Qg.out.cell, List.getElem?_toArray]; exact boolsL_get _ _ _ HkP.out
            cases ha : mP (ps.take i) ((bl L).take k) with
            | true =>
              rw [ha] at ca hdp
              have HVal := hide (show mP (ps.take (i + 1)) ((bl L).take k) = true by rw [hdp]; rfl)
              clear hdp ha
              go_wp2
              go_roundw
              case rel => exact ⟨k + 1, by go_num, by omega, HRow.out _ HVal.out, Qg.out.off Hne.out _ _, Qb.out.setCell (p := ⟨g2, k, none⟩) (by have := HW3.out.2.2.2; omega) _⟩
              case measure => simp [intOf]; omega
            | false =>
              rw [ha] at ca hdp
              by_cases hkz : k = 0
              · have hkz' : ¬ (0 : Int) < (k : Int) := by omega
                have HVal := hide (show mP (ps.take (i + 1)) ((bl L).take k) = false by rw [hdp, hkz]; rfl)
                clear hdp ha hkz
                go_wp2
                go_roundw
                case rel => exact ⟨k + 1, by go_num, by omega, HRow.out _ HVal.out, Qg.out.off Hne.out _ _, Qb.out.setCell (p := ⟨g2, k, none⟩) (by have := HW3.out.2.2.2; omega) _⟩
                case measure => simp [intOf]; omega
              · have hkz' : (0 : Int) < (k : Int) := by omega
                obtain ⟨k', hkk⟩ : ∃ k', k = k' + 1 := ⟨k - 1, by omega⟩
                have hsub : IntKind.i64.wrap ((k : Int) - 1) = (k' : Int) := by rw [IntWalk.i64_in _ (by omega)]; omega
                have hk1 : (k' : Int) < (L.length : Int) + 1 := by omega
                have cb : wr.cell? ⟨g2, k', none⟩ = some (.bool (mP (ps.take (i + 1)) ((bl L).take (k - 1)))) := by
                  rw [Q2.out.cell, List.getElem?_toArray, partL_get _ _ _ _ (by have := HkP.out; omega), decide_eq_true (by omega), Bool.true_and, show k - 1 = k' by omega]
                have HVal := hide (show mP (ps.take (i + 1)) ((bl L).take k) = mP (ps.take (i + 1)) ((bl L).take (k - 1)) by rw [hdp, Bool.false_or, decide_eq_true (by omega), Bool.true_and])
                generalize mP (ps.take (i + 1)) ((bl L).take (k - 1)) = vb at *
                clear hdp ha hkz hkk
                go_wp2
                go_roundw
                case rel => exact ⟨k + 1, by go_num, by omega, HRow.out _ HVal.out, Qg.out.off Hne.out _ _, Qb.out.setCell (p := ⟨g2, k, none⟩) (by have := HW3.out.2.2.2; omega) _⟩
                case measure => simp [intOf]; omega
          · obtain rfl : k = L.length + 1 := by omega
            have hnk : ¬ ((L.length + 1 : Nat) : Int) < (L.length : Int) + 1 := by omega
            have Hrow2 := hide (show Row wr g2 4 (boolsL (bl L) (ps.take (i + 1))).toArray by have := Q2.out; rw [← HLn.out, partL_all] at this; exact this)
            clear hkl hk
            go_wp2
            go_roundw
            case rel => exact ⟨i + 1, g2, by go_num, by omega, rfl, Hrow2.out, by have := HW3.out.2.2.2; omega, Qb.out⟩
            case measure => simp [intOf]; omega
      | lit nm =>
        obtain ⟨hv3, _⟩ := Hpi.out
        subst hv3
        have hta := (assert_lit (.string (bsP nm)))
        have hzp := zero_anyP
        go_upto_region 9 with fail
        obtain ⟨W3, hW3⟩ : ∃ W3, (wr.alloc (.cells F.toArray 4)).alloc (.cells #[] 107) = W3 := ⟨_, rfl⟩
        have HW3 := hide (show Row W3 wr.heap.size 4 F.toArray ∧ Row W3 g 4 (boolsL (bl L) (ps.take i)).toArray ∧ Below w.heap.size w W3 ∧ w.heap.size ≤ wr.heap.size from by
          rw [← hW3]; exact ⟨(Row.new _ _ _).alloc _, (Hrow.out.alloc _).alloc _, (Hb.out.alloc Hb.out.size _).alloc (by rw [World.size_alloc]; have := Hb.out.size; omega) _, Hb.out.size⟩)
        have Hgl := hide Hrow.out.lt
        obtain ⟨g2, hg2⟩ : ∃ g2, wr.heap.size = g2 := ⟨_, rfl⟩
        rw [hg2] at HW3 Hgl
        rw [hW3, hg2]
        clear hW3 hg2 hc' hta hzp hmk
        go_loopw [35] (fun v wq => ∃ k : Nat, v = .int .i64 (k : Int) ∧ k ≤ L.length + 1 ∧ Row wq g2 4 (partL (bl L) (ps.take (i + 1)) k).toArray ∧ Row wq g 4 (boolsL (bl L) (ps.take i)).toArray ∧ Below w.heap.size w wq) (fun v _ => L.length + 1 - (intOf v).toNat)
        case atStart => exact ⟨0, rfl, Nat.zero_le _, by rw [partL_0, HLn.out, HF.out]; exact HW3.out.1, HW3.out.2.1, HW3.out.2.2.1⟩
        case round =>
          obtain ⟨k, rfl, hk, hq2, hqg, hqb⟩ := hrel
          have Q2 := hide hq2
          have Qg := hide hqg
          have Qb := hide hqb
          clear hq2 hqg hqb
          by_cases hkl : k < L.length + 1
          · have hk' : (k : Int) < (L.length : Int) + 1 := by omega
            have hk0 : (0 : Int) ≤ (k : Int) := by omega
            have hwk : IntKind.i64.wrap ((k : Int) + 1) = (k : Int) + 1 := IntWalk.i64_in _ (by omega)
            have f0 : wr.frozen? ⟨g2, k, none⟩ = false := Q2.out.frozen _
            have hkP : k ≤ (bl L).length := by rw [HLn.out]; omega
            obtain ⟨v0, c0⟩ : ∃ v0, wr.cell? ⟨g2, k, none⟩ = some v0 := ⟨_, by rw [Q2.out.cell, List.getElem?_toArray]; exact partL_get _ _ _ _ hkP⟩
            have HkP := hide hkP
            have hne : g ≠ g2 := by have := Hgl.out; omega
            have Hne := hide hne
            clear hkP hne
            have HRow := hide (fun (u : Bool) (hu : mP (ps.take (i + 1)) ((bl L).take k) = u) => row_part Q2.out HkP.out u hu)
            by_cases hkz : k = 0
            · have hkz' : ¬ (0 : Int) < (k : Int) := by omega
              have hf : mP (ps.take (i + 1)) ((bl L).take k) = false := by rw [HTk.out, hkz]; exact dp_zero _ _ rfl _
              have HQ := hide (show Row wr g2 4 (partL (bl L) (ps.take (i + 1)) (k + 1)).toArray by rw [← partL_keep _ _ _ hf]; exact Q2.out)
              clear hf hkz
              go_wp2
              go_roundw
              case rel => exact ⟨k + 1, by go_num, by omega, HQ.out, Qg.out, Qb.out⟩
              case measure => simp [intOf]; omega
            · have hkz' : (0 : Int) < (k : Int) := by omega
              obtain ⟨k', hkk⟩ : ∃ k', k = k' + 1 := ⟨k - 1, by omega⟩
              have hsub : IntKind.i64.wrap ((k : Int) - 1) = (k' : Int) := by rw [IntWalk.i64_in _ (by omega)]; omega
              have hk1 : (k' : Int) < (L.length : Int) + 1 := by omega
              have hkL : k' < L.length := by omega
              have hkL' : (k' : Int) < (L.length : Int) := by omega
              have hk10 : (0 : Int) ≤ (k' : Int) := by omega
              have ca : wr.cell? ⟨g, k', none⟩ = some (.bool (mP (ps.take i) ((bl L).take k'))) := by rw [Qg.out.cell, List.getElem?_toArray]; exact boolsL_get _ _ _ (by have := HkP.out; omega)
              have hdp := dp_one (ps.take i) (Pt.lit nm) rfl (bl L) k' (by rw [HLn.out]; exact hkL)
              rw [← HTk.out, ← hkk, bl_get L k' hkL] at hdp
              cases ha : mP (ps.take i) ((bl L).take k') with
              | false =>
                rw [ha] at ca hdp
                have HQ := hide (show Row wr g2 4 (partL (bl L) (ps.take (i + 1)) (k + 1)).toArray by rw [← partL_keep _ _ _ hdp]; exact Q2.out)
                clear hdp ha hkz hkk
                go_wp2
                go_roundw
                case rel => exact ⟨k + 1, by go_num, by omega, HQ.out, Qg.out, Qb.out⟩
                case measure => simp [intOf]; omega
              | true =>
                rw [ha, Bool.true_and] at hdp
                rw [ha] at ca
                obtain ⟨bp, op, hApe, hbp, hcp⟩ := HAp.out.at hkL
                have hcp' := hcp wr (Qb.out.mono (Nat.le_refl _))
                obtain ⟨s, hs⟩ : ∃ s, L[k'] = s := ⟨_, rfl⟩
                have hsz : s.size ≤ 1000000 := by rw [← hs]; exact HZ.out _ (List.getElem_mem hkL)
                rw [hs] at hcp' hdp
                subst hApe
                have hM : ∀ W : World, Below w.heap.size w W → Calls Try.prog 125 #[(.string (bsP nm)), .string s] W fun e w' => e = .returned (.bool ((Pt.lit nm).ok s.data.toList)) ∧ Below W.heap.size W w' := fun W _ => (literalMatches_any (bsP nm) s W).mono (by rintro e w9 ⟨rfl, rfl⟩; exact ⟨rfl, Below.refl _ _⟩)
                have HA := hide (show ∀ w : World, (nilAhead 254 108 (.string (bsP nm)) "wavestore/pattern.matches").run Try.prog w = .ok (some false) w from fun w => ahead_of (f := 125) (by kernel_rfl) Try.underlying108 (by intro x h; cases h) 253 (.string (bsP nm)) w)
                have hmeth : ∀ w : World, (method 254 108 (.string (bsP nm)) "wavestore/pattern.matches").run Try.prog w = .ok (125, (.string (bsP nm))) w := fun w => method_of (f := 125) (by kernel_rfl) Try.underlying108 (by intro x h; cases h) 253 (.string (bsP nm)) w
                have HVal := hide hdp
                have HM := hide hM
                generalize (Pt.lit nm).ok s.data.toList = res at *
                have Hc0 := hide c0
                have HCP := hide (show ∀ W', Below w.heap.size w W' → W'.cell? ⟨bp, op + k', none⟩ = some (.string s) from fun W' hW' => by rw [hcp W' hW', hs])
                clear hdp ha hkz hkk hs hcp hM
                go_upto_region 14 with fail
                have hcs : wr.cell? ⟨bp, op + k', none⟩ = some (.string s) := hcp'
                refine wp_region_held_drew (S := fun w' => w'.cell? ⟨bp, op + k', none⟩ = some (.string s) ∧ (∃ v, w'.cell? ⟨g2, k, none⟩ = some v) ∧ w'.frozen? ⟨g2, k, none⟩ = false) (by kernel_rfl) ⟨hcs, ⟨v0, c0⟩, f0⟩ (fun hHeld => ?_)
                refine wpAnyH_take (i := 0) (oi := ?oi0L) (v := ?v0L) ?h00L ?h10L ?h20L ?h30L ?h40L (Or.inl ⟨?hw0L, ?hy0L⟩) (by assumption) ?rest0L
                case h00L => (simp only [List.getElem?_toArray, List.getElem?_cons_zero, List.getElem?_cons_succ]; rfl)
                case h10L => kernel_rfl
                case h20L => kernel_rfl
                case h30L => kernel_rfl
                case h40L => exact fun _ _ _ h => h
                case hw0L => rfl
                case hy0L => ((intro w hSw; go_simp); (try (with_reducible rfl)))
                try simp only [Act.put, List.setIfInBounds_toArray, List.set_cons_zero, List.set_cons_succ]
                refine wpAnyH_take (i := 1) (oi := ?oi1L) (v := ?v1L) ?h01L ?h11L ?h21L ?h31L ?h41L (Or.inl ⟨?hw1L, ?hy1L⟩) (by assumption) ?rest1L
                case h01L => (simp only [List.getElem?_toArray, List.getElem?_cons_zero, List.getElem?_cons_succ]; rfl)
                case h11L => kernel_rfl
                case h21L => kernel_rfl
                case h31L => kernel_rfl
                case h41L => exact fun _ _ _ h => h
                case hw1L => rfl
                case hy1L => ((intro w hSw; go_simp); (try (with_reducible rfl)))
                try simp only [Act.put, List.setIfInBounds_toArray, List.set_cons_zero, List.set_cons_succ]
                refine wpAnyH_take (i := 2) (oi := ?oi2L) (v := ?v2L) ?h02L ?h12L ?h22L ?h32L ?h42L (Or.inl ⟨?hw2L, ?hy2L⟩) (by assumption) ?rest2L
                case h02L => (simp only [List.getElem?_toArray, List.getElem?_cons_zero, List.getElem?_cons_succ]; rfl)
                case h12L => kernel_rfl
                case h22L => kernel_rfl
                case h32L => kernel_rfl
                case h42L => exact fun _ _ _ h => h
                case hw2L => rfl
                case hy2L => ((intro w hSw; go_simp); (try (with_reducible rfl)))
                try simp only [Act.put, List.setIfInBounds_toArray, List.set_cons_zero, List.set_cons_succ]
                refine wpAnyH_take (i := 3) (oi := ?oi3L) (v := ?v3L) ?h03L ?h13L ?h23L ?h33L ?h43L (Or.inl ⟨?hw3L, ?hy3L⟩) (by assumption) ?rest3L
                case h03L => (simp only [List.getElem?_toArray, List.getElem?_cons_zero, List.getElem?_cons_succ]; rfl)
                case h13L => kernel_rfl
                case h23L => kernel_rfl
                case h33L => kernel_rfl
                case h43L => exact fun _ _ _ h => h
                case hw3L => rfl
                case hy3L => ((intro w hSw; go_simp); (try (with_reducible rfl)))
                try simp only [Act.put, List.setIfInBounds_toArray, List.set_cons_zero, List.set_cons_succ]
                refine wpAnyH_take (i := 4) (oi := ?oi4L) (v := ?v4L) ?h04L ?h14L ?h24L ?h34L ?h44L (Or.inl ⟨?hw4L, ?hy4L⟩) (by assumption) ?rest4L
                case h04L => (simp only [List.getElem?_toArray, List.getElem?_cons_zero, List.getElem?_cons_succ]; rfl)
                case h14L => kernel_rfl
                case h24L => kernel_rfl
                case h34L => kernel_rfl
                case h44L => exact fun _ _ _ h => h
                case hw4L => rfl
                case hy4L => ((intro w hSw; go_simp); (try (with_reducible rfl)))
                try simp only [Act.put, List.setIfInBounds_toArray, List.set_cons_zero, List.set_cons_succ]
                refine wpAnyH_take (i := 5) (oi := ?oi5L) (v := ?v5L) ?h05L ?h15L ?h25L ?h35L ?h45L (Or.inl ⟨?hw5L, ?hy5L⟩) (by assumption) ?rest5L
                case h05L => (simp only [List.getElem?_toArray, List.getElem?_cons_zero, List.getElem?_cons_succ]; rfl)
                case h15L => kernel_rfl
                case h25L => kernel_rfl
                case h35L => kernel_rfl
                case h45L => exact fun _ _ _ h => h
                case hw5L => rfl
                case hy5L => ((intro w hSw; go_simp); (try (with_reducible rfl)))
                try simp only [Act.put, List.setIfInBounds_toArray, List.set_cons_zero, List.set_cons_succ]
                refine wpAnyH_take (i := 6) (oi := ?oi6L) (v := ?v6L) ?h06L ?h16L ?h26L ?h36L ?h46L (Or.inl ⟨?hw6L, ?hy6L⟩) (by assumption) ?rest6L
                case h06L => (simp only [List.getElem?_toArray, List.getElem?_cons_zero, List.getElem?_cons_succ]; rfl)
                case h16L => kernel_rfl
                case h26L => kernel_rfl
                case h36L => kernel_rfl
                case h46L => exact fun _ _ _ h => h
                case hw6L => rfl
                case hy6L => ((intro w hSw; go_simp); (try (with_reducible rfl)))
                try simp only [Act.put, List.setIfInBounds_toArray, List.set_cons_zero, List.set_cons_succ]
                refine wpAnyH_take (i := 7) (oi := ?oi7L) (v := ?v7L) ?h07L ?h17L ?h27L ?h37L ?h47L (Or.inl ⟨?hw7L, ?hy7L⟩) (by assumption) ?rest7L
                case h07L => (simp only [List.getElem?_toArray, List.getElem?_cons_zero, List.getElem?_cons_succ]; rfl)
                case h17L => kernel_rfl
                case h27L => kernel_rfl
                case h37L => kernel_rfl
                case h47L => exact fun _ _ _ h => h
                case hw7L => rfl
                case hy7L => ((intro w hSw; have h7 := hSw.1; go_simp); (try (with_reducible rfl)))
                try simp only [Act.put, List.setIfInBounds_toArray, List.set_cons_zero, List.set_cons_succ]
                refine wpAnyH_take (i := 8) (oi := ?oi8L) (v := ?v8L) ?h08L ?h18L ?h28L ?h38L ?h48L (Or.inl ⟨?hw8L, ?hy8L⟩) (by assumption) ?rest8L
                case h08L => (simp only [List.getElem?_toArray, List.getElem?_cons_zero, List.getElem?_cons_succ]; rfl)
                case h18L => kernel_rfl
                case h28L => kernel_rfl
                case h38L => kernel_rfl
                case h48L => exact fun _ _ _ h => h
                case hw8L => rfl
                case hy8L => ((intro w hSw; go_simp); (try (with_reducible rfl)))
                try simp only [Act.put, List.setIfInBounds_toArray, List.set_cons_zero, List.set_cons_succ]
                refine wpAnyH_take (i := 9) (oi := ?oi9L) (v := ?v9L) ?h09L ?h19L ?h29L ?h39L ?h49L (Or.inl ⟨?hw9L, ?hy9L⟩) (by assumption) ?rest9L
                case h09L => (simp only [List.getElem?_toArray, List.getElem?_cons_zero, List.getElem?_cons_succ]; rfl)
                case h19L => kernel_rfl
                case h29L => kernel_rfl
                case h39L => kernel_rfl
                case h49L => exact fun _ _ _ h => h
                case hw9L => rfl
                case hy9L => ((intro w hSw; have h9 := HA.out w; go_simp); (try (with_reducible rfl)))
                try simp only [Act.put, List.setIfInBounds_toArray, List.set_cons_zero, List.set_cons_succ]
                refine wpAnyH_take (i := 10) (oi := ?oi10L) (v := ?v10L) ?h010L ?h110L ?h210L ?h310L ?h410L (Or.inl ⟨?hw10L, ?hy10L⟩) (by assumption) ?rest10L
                case h010L => (simp only [List.getElem?_toArray, List.getElem?_cons_zero, List.getElem?_cons_succ]; rfl)
                case h110L => kernel_rfl
                case h210L => kernel_rfl
                case h310L => kernel_rfl
                case h410L => exact fun _ _ _ h => h
                case hw10L => rfl
                case hy10L => ((intro w hSw; go_simp); (try (with_reducible rfl)))
                try simp only [Act.put, List.setIfInBounds_toArray, List.set_cons_zero, List.set_cons_succ]
                refine wpAnyH_ready (rs := [11]) (by kernel_rfl) (by simp) ?_
                refine AllReadyH.cons (o := ?oi11L) ?h011L (fun K hK => ?_) AllReadyH.nil
                case h011L => (simp only [List.getElem?_toArray, List.getElem?_cons_zero, List.getElem?_cons_succ]; rfl)
                rw [if_pos (by rfl)]
                go_wp2_with fail
                refine (HM.out _ Qb.out.drew).mono ?_
                rintro e wM ⟨rfl, hbM⟩
                have hB9 : Below w.heap.size w wM := Qb.out.drew.trans (hbM.mono Qb.out.size)
                have R9 : Row wM g2 4 (partL (bl L) (ps.take (i + 1)) k).toArray := Q2.out.drew.below hbM Q2.out.lt
                have Rg9 : Row wM g 4 (boolsL (bl L) (ps.take i)).toArray := Qg.out.drew.below hbM Qg.out.lt
                have c9 : wM.cell? ⟨g2, k, none⟩ = some v0 := by rw [R9.cell, ← Q2.out.cell]; exact Hc0.out
                have f9 : wM.frozen? ⟨g2, k, none⟩ = false := R9.frozen _
                have H9 := hide (And.intro hB9 (And.intro R9 Rg9))
                clear hbM hB9 R9 Rg9 hmeth c0 f0
                refine hK.out _ _ ⟨HCP.out _ H9.out.1, ⟨v0, c9⟩, f9⟩ (fun hHeld2 => ?_)
                clear hK K
                try simp only [Act.put, List.setIfInBounds_toArray, List.set_cons_zero, List.set_cons_succ]
                refine wpAnyH_take (i := 12) (oi := ?oi12L) (v := ?v12L) ?h012L ?h112L ?h212L ?h312L ?h412L (Or.inl ⟨?hw12L, ?hy12L⟩) (by assumption) ?rest12L
                case h012L => (simp only [List.getElem?_toArray, List.getElem?_cons_zero, List.getElem?_cons_succ]; rfl)
                case h112L => kernel_rfl
                case h212L => kernel_rfl
                case h312L => kernel_rfl
                case h412L => exact fun _ _ _ h => h
                case hw12L => rfl
                case hy12L => ((intro w hSw; go_simp); (try (with_reducible rfl)))
                try simp only [Act.put, List.setIfInBounds_toArray, List.set_cons_zero, List.set_cons_succ]
                refine wpAnyH_ready (rs := [13]) (by kernel_rfl) (by simp) ?_
                refine AllReadyH.cons (o := ?oi13L) ?h013L (fun K hK => ?_) AllReadyH.nil
                case h013L => (simp only [List.getElem?_toArray, List.getElem?_cons_zero, List.getElem?_cons_succ]; rfl)
                rw [if_pos (by rfl)]
                go_wp2_with fail
                have R10 := row_part H9.out.2.1 HkP.out res HVal.out
                have HB10 := hide (H9.out.1.setCell (p := ⟨g2, k, none⟩) (by have := HW3.out.2.2.2; omega) (.bool res))
                have HR10 := hide R10
                refine hK.out _ _ ⟨HCP.out _ HB10.out, ⟨_, by rw [R10.cell, List.getElem?_toArray]; exact partL_get _ _ _ _ HkP.out⟩, R10.frozen _⟩ (fun hHeld3 => ?_)
                clear hK K R10
                try simp only [Act.put, List.setIfInBounds_toArray, List.set_cons_zero, List.set_cons_succ]
                refine wpAnyH_done (by kernel_rfl) ?_ _
                clear c9 f9 hHeld3 hHeld2
                go_wp2
                go_roundw
                case rel => exact ⟨k + 1, by go_num, by omega, HR10.out, H9.out.2.2.off Hne.out _ _, HB10.out⟩
                case measure => simp [intOf]; omega
          · obtain rfl : k = L.length + 1 := by omega
            have hnk : ¬ ((L.length + 1 : Nat) : Int) < (L.length : Int) + 1 := by omega
            have Hrow2 := hide (show Row wr g2 4 (boolsL (bl L) (ps.take (i + 1))).toArray by have := Q2.out; rw [← HLn.out, partL_all] at this; exact this)
            clear hkl hk
            go_wp2
            go_roundw
            case rel => exact ⟨i + 1, g2, by go_num, by omega, rfl, Hrow2.out, by have := HW3.out.2.2.2; omega, Qb.out⟩
            case measure => simp [intOf]; omega
      | wild O =>
        obtain ⟨gO, capO, hv3, hW0, hO1, hO2, hO3, hgO, _⟩ := Hpi.out
        subst hv3
        have HW0 := hide hW0
        clear hW0
        have hta := (assert_wild (.slice (some ⟨gO, 0, none⟩) O.length capO))
        have hzp := zero_anyP
        go_upto_region 9 with fail
        obtain ⟨W3, hW3⟩ : ∃ W3, (wr.alloc (.cells F.toArray 4)).alloc (.cells #[] 107) = W3 := ⟨_, rfl⟩
        have HW3 := hide (show Row W3 wr.heap.size 4 F.toArray ∧ Row W3 g 4 (boolsL (bl L) (ps.take i)).toArray ∧ Below w.heap.size w W3 ∧ w.heap.size ≤ wr.heap.size from by
          rw [← hW3]; exact ⟨(Row.new _ _ _).alloc _, (Hrow.out.alloc _).alloc _, (Hb.out.alloc Hb.out.size _).alloc (by rw [World.size_alloc]; have := Hb.out.size; omega) _, Hb.out.size⟩)
        have Hgl := hide Hrow.out.lt
        obtain ⟨g2, hg2⟩ : ∃ g2, wr.heap.size = g2 := ⟨_, rfl⟩
        rw [hg2] at HW3 Hgl
        rw [hW3, hg2]
        clear hW3 hg2 hc' hta hzp hmk
        go_loopw [35] (fun v wq => ∃ k : Nat, v = .int .i64 (k : Int) ∧ k ≤ L.length + 1 ∧ Row wq g2 4 (partL (bl L) (ps.take (i + 1)) k).toArray ∧ Row wq g 4 (boolsL (bl L) (ps.take i)).toArray ∧ Below w.heap.size w wq) (fun v _ => L.length + 1 - (intOf v).toNat)
        case atStart => exact ⟨0, rfl, Nat.zero_le _, by rw [partL_0, HLn.out, HF.out]; exact HW3.out.1, HW3.out.2.1, HW3.out.2.2.1⟩
        case round =>
          obtain ⟨k, rfl, hk, hq2, hqg, hqb⟩ := hrel
          have Q2 := hide hq2
          have Qg := hide hqg
          have Qb := hide hqb
          clear hq2 hqg hqb
          by_cases hkl : k < L.length + 1
          · have hk' : (k : Int) < (L.length : Int) + 1 := by omega
            have hk0 : (0 : Int) ≤ (k : Int) := by omega
            have hwk : IntKind.i64.wrap ((k : Int) + 1) = (k : Int) + 1 := IntWalk.i64_in _ (by omega)
            have f0 : wr.frozen? ⟨g2, k, none⟩ = false := Q2.out.frozen _
            have hkP : k ≤ (bl L).length := by rw [HLn.out]; omega
            obtain ⟨v0, c0⟩ : ∃ v0, wr.cell? ⟨g2, k, none⟩ = some v0 := ⟨_, by rw [Q2.out.cell, List.getElem?_toArray]; exact partL_get _ _ _ _ hkP⟩
            have HkP := hide hkP
            have hne : g ≠ g2 := by have := Hgl.out; omega
            have Hne := hide hne
            clear hkP hne
            have HRow := hide (fun (u : Bool) (hu : mP (ps.take (i + 1)) ((bl L).take k) = u) => row_part Q2.out HkP.out u hu)
            by_cases hkz : k = 0
            · have hkz' : ¬ (0 : Int) < (k : Int) := by omega
              have hf : mP (ps.take (i + 1)) ((bl L).take k) = false := by rw [HTk.out, hkz]; exact dp_zero _ _ rfl _
              have HQ := hide (show Row wr g2 4 (partL (bl L) (ps.take (i + 1)) (k + 1)).toArray by rw [← partL_keep _ _ _ hf]; exact Q2.out)
              clear hf hkz
              go_wp2
              go_roundw
              case rel => exact ⟨k + 1, by go_num, by omega, HQ.out, Qg.out, Qb.out⟩
              case measure => simp [intOf]; omega
            · have hkz' : (0 : Int) < (k : Int) := by omega
              obtain ⟨k', hkk⟩ : ∃ k', k = k' + 1 := ⟨k - 1, by omega⟩
              have hsub : IntKind.i64.wrap ((k : Int) - 1) = (k' : Int) := by rw [IntWalk.i64_in _ (by omega)]; omega
              have hk1 : (k' : Int) < (L.length : Int) + 1 := by omega
              have hkL : k' < L.length := by omega
              have hkL' : (k' : Int) < (L.length : Int) := by omega
              have hk10 : (0 : Int) ≤ (k' : Int) := by omega
              have ca : wr.cell? ⟨g, k', none⟩ = some (.bool (mP (ps.take i) ((bl L).take k'))) := by rw [Qg.out.cell, List.getElem?_toArray]; exact boolsL_get _ _ _ (by have := HkP.out; omega)
              have hdp := dp_one (ps.take i) (Pt.wild O) rfl (bl L) k' (by rw [HLn.out]; exact hkL)
              rw [← HTk.out, ← hkk, bl_get L k' hkL] at hdp
              cases ha : mP (ps.take i) ((bl L).take k') with
              | false =>
                rw [ha] at ca hdp
                have HQ := hide (show Row wr g2 4 (partL (bl L) (ps.take (i + 1)) (k + 1)).toArray by rw [← partL_keep _ _ _ hdp]; exact Q2.out)
                clear hdp ha hkz hkk
                go_wp2
                go_roundw
                case rel => exact ⟨k + 1, by go_num, by omega, HQ.out, Qg.out, Qb.out⟩
                case measure => simp [intOf]; omega
              | true =>
                rw [ha, Bool.true_and] at hdp
                rw [ha] at ca
                obtain ⟨bp, op, hApe, hbp, hcp⟩ := HAp.out.at hkL
                have hcp' := hcp wr (Qb.out.mono (Nat.le_refl _))
                obtain ⟨s, hs⟩ : ∃ s, L[k'] = s := ⟨_, rfl⟩
                have hsz : s.size ≤ 1000000 := by rw [← hs]; exact HZ.out _ (List.getElem_mem hkL)
                rw [hs] at hcp' hdp
                subst hApe
                have hM : ∀ W : World, Below w.heap.size w W → Calls Try.prog 127 #[(.slice (some ⟨gO, 0, none⟩) O.length capO), .string s] W fun e w' => e = .returned (.bool ((Pt.wild O).ok s.data.toList)) ∧ Below W.heap.size W w' := fun W hW => (wildMatches_any W gO 0 capO O s (HW0.out.below hW hgO).items (by omega) hsz hO2).mono (by rintro e w9 ⟨rfl, n, rfl⟩; exact ⟨rfl, Below_drewN (Below.refl _ _) n⟩)
                have HA := hide (show ∀ w : World, (nilAhead 254 116 (.slice (some ⟨gO, 0, none⟩) O.length capO) "wavestore/pattern.matches").run Try.prog w = .ok (some false) w from fun w => ahead_of (f := 127) (by kernel_rfl) Try.underlying116 (by intro x h; cases h) 253 (.slice (some ⟨gO, 0, none⟩) O.length capO) w)
                have hmeth : ∀ w : World, (method 254 116 (.slice (some ⟨gO, 0, none⟩) O.length capO) "wavestore/pattern.matches").run Try.prog w = .ok (127, (.slice (some ⟨gO, 0, none⟩) O.length capO)) w := fun w => method_of (f := 127) (by kernel_rfl) Try.underlying116 (by intro x h; cases h) 253 (.slice (some ⟨gO, 0, none⟩) O.length capO) w
                have HVal := hide hdp
                have HM := hide hM
                generalize (Pt.wild O).ok s.data.toList = res at *
                have Hc0 := hide c0
                have HCP := hide (show ∀ W', Below w.heap.size w W' → W'.cell? ⟨bp, op + k', none⟩ = some (.string s) from fun W' hW' => by rw [hcp W' hW', hs])
                clear hdp ha hkz hkk hs hcp hM
                go_upto_region 14 with fail
                have hcs : wr.cell? ⟨bp, op + k', none⟩ = some (.string s) := hcp'
                refine wp_region_held_drew (S := fun w' => w'.cell? ⟨bp, op + k', none⟩ = some (.string s) ∧ (∃ v, w'.cell? ⟨g2, k, none⟩ = some v) ∧ w'.frozen? ⟨g2, k, none⟩ = false) (by kernel_rfl) ⟨hcs, ⟨v0, c0⟩, f0⟩ (fun hHeld => ?_)
                refine wpAnyH_take (i := 0) (oi := ?oi0W) (v := ?v0W) ?h00W ?h10W ?h20W ?h30W ?h40W (Or.inl ⟨?hw0W, ?hy0W⟩) (by assumption) ?rest0W
                case h00W => (simp only [List.getElem?_toArray, List.getElem?_cons_zero, List.getElem?_cons_succ]; rfl)
                case h10W => kernel_rfl
                case h20W => kernel_rfl
                case h30W => kernel_rfl
                case h40W => exact fun _ _ _ h => h
                case hw0W => rfl
                case hy0W => ((intro w hSw; go_simp); (try (with_reducible rfl)))
                try simp only [Act.put, List.setIfInBounds_toArray, List.set_cons_zero, List.set_cons_succ]
                refine wpAnyH_take (i := 1) (oi := ?oi1W) (v := ?v1W) ?h01W ?h11W ?h21W ?h31W ?h41W (Or.inl ⟨?hw1W, ?hy1W⟩) (by assumption) ?rest1W
                case h01W => (simp only [List.getElem?_toArray, List.getElem?_cons_zero, List.getElem?_cons_succ]; rfl)
                case h11W => kernel_rfl
                case h21W => kernel_rfl
                case h31W => kernel_rfl
                case h41W => exact fun _ _ _ h => h
                case hw1W => rfl
                case hy1W => ((intro w hSw; go_simp); (try (with_reducible rfl)))
                try simp only [Act.put, List.setIfInBounds_toArray, List.set_cons_zero, List.set_cons_succ]
                refine wpAnyH_take (i := 2) (oi := ?oi2W) (v := ?v2W) ?h02W ?h12W ?h22W ?h32W ?h42W (Or.inl ⟨?hw2W, ?hy2W⟩) (by assumption) ?rest2W
                case h02W => (simp only [List.getElem?_toArray, List.getElem?_cons_zero, List.getElem?_cons_succ]; rfl)
                case h12W => kernel_rfl
                case h22W => kernel_rfl
                case h32W => kernel_rfl
                case h42W => exact fun _ _ _ h => h
                case hw2W => rfl
                case hy2W => ((intro w hSw; go_simp); (try (with_reducible rfl)))
                try simp only [Act.put, List.setIfInBounds_toArray, List.set_cons_zero, List.set_cons_succ]
                refine wpAnyH_take (i := 3) (oi := ?oi3W) (v := ?v3W) ?h03W ?h13W ?h23W ?h33W ?h43W (Or.inl ⟨?hw3W, ?hy3W⟩) (by assumption) ?rest3W
                case h03W => (simp only [List.getElem?_toArray, List.getElem?_cons_zero, List.getElem?_cons_succ]; rfl)
                case h13W => kernel_rfl
                case h23W => kernel_rfl
                case h33W => kernel_rfl
                case h43W => exact fun _ _ _ h => h
                case hw3W => rfl
                case hy3W => ((intro w hSw; go_simp); (try (with_reducible rfl)))
                try simp only [Act.put, List.setIfInBounds_toArray, List.set_cons_zero, List.set_cons_succ]
                refine wpAnyH_take (i := 4) (oi := ?oi4W) (v := ?v4W) ?h04W ?h14W ?h24W ?h34W ?h44W (Or.inl ⟨?hw4W, ?hy4W⟩) (by assumption) ?rest4W
                case h04W => (simp only [List.getElem?_toArray, List.getElem?_cons_zero, List.getElem?_cons_succ]; rfl)
                case h14W => kernel_rfl
                case h24W => kernel_rfl
                case h34W => kernel_rfl
                case h44W => exact fun _ _ _ h => h
                case hw4W => rfl
                case hy4W => ((intro w hSw; go_simp); (try (with_reducible rfl)))
                try simp only [Act.put, List.setIfInBounds_toArray, List.set_cons_zero, List.set_cons_succ]
                refine wpAnyH_take (i := 5) (oi := ?oi5W) (v := ?v5W) ?h05W ?h15W ?h25W ?h35W ?h45W (Or.inl ⟨?hw5W, ?hy5W⟩) (by assumption) ?rest5W
                case h05W => (simp only [List.getElem?_toArray, List.getElem?_cons_zero, List.getElem?_cons_succ]; rfl)
                case h15W => kernel_rfl
                case h25W => kernel_rfl
                case h35W => kernel_rfl
                case h45W => exact fun _ _ _ h => h
                case hw5W => rfl
                case hy5W => ((intro w hSw; go_simp); (try (with_reducible rfl)))
                try simp only [Act.put, List.setIfInBounds_toArray, List.set_cons_zero, List.set_cons_succ]
                refine wpAnyH_take (i := 6) (oi := ?oi6W) (v := ?v6W) ?h06W ?h16W ?h26W ?h36W ?h46W (Or.inl ⟨?hw6W, ?hy6W⟩) (by assumption) ?rest6W
                case h06W => (simp only [List.getElem?_toArray, List.getElem?_cons_zero, List.getElem?_cons_succ]; rfl)
                case h16W => kernel_rfl
                case h26W => kernel_rfl
                case h36W => kernel_rfl
                case h46W => exact fun _ _ _ h => h
                case hw6W => rfl
                case hy6W => ((intro w hSw; go_simp); (try (with_reducible rfl)))
                try simp only [Act.put, List.setIfInBounds_toArray, List.set_cons_zero, List.set_cons_succ]
                refine wpAnyH_take (i := 7) (oi := ?oi7W) (v := ?v7W) ?h07W ?h17W ?h27W ?h37W ?h47W (Or.inl ⟨?hw7W, ?hy7W⟩) (by assumption) ?rest7W
                case h07W => (simp only [List.getElem?_toArray, List.getElem?_cons_zero, List.getElem?_cons_succ]; rfl)
                case h17W => kernel_rfl
                case h27W => kernel_rfl
                case h37W => kernel_rfl
                case h47W => exact fun _ _ _ h => h
                case hw7W => rfl
                case hy7W => ((intro w hSw; have h7 := hSw.1; go_simp); (try (with_reducible rfl)))
                try simp only [Act.put, List.setIfInBounds_toArray, List.set_cons_zero, List.set_cons_succ]
                refine wpAnyH_take (i := 8) (oi := ?oi8W) (v := ?v8W) ?h08W ?h18W ?h28W ?h38W ?h48W (Or.inl ⟨?hw8W, ?hy8W⟩) (by assumption) ?rest8W
                case h08W => (simp only [List.getElem?_toArray, List.getElem?_cons_zero, List.getElem?_cons_succ]; rfl)
                case h18W => kernel_rfl
                case h28W => kernel_rfl
                case h38W => kernel_rfl
                case h48W => exact fun _ _ _ h => h
                case hw8W => rfl
                case hy8W => ((intro w hSw; go_simp); (try (with_reducible rfl)))
                try simp only [Act.put, List.setIfInBounds_toArray, List.set_cons_zero, List.set_cons_succ]
                refine wpAnyH_take (i := 9) (oi := ?oi9W) (v := ?v9W) ?h09W ?h19W ?h29W ?h39W ?h49W (Or.inl ⟨?hw9W, ?hy9W⟩) (by assumption) ?rest9W
                case h09W => (simp only [List.getElem?_toArray, List.getElem?_cons_zero, List.getElem?_cons_succ]; rfl)
                case h19W => kernel_rfl
                case h29W => kernel_rfl
                case h39W => kernel_rfl
                case h49W => exact fun _ _ _ h => h
                case hw9W => rfl
                case hy9W => ((intro w hSw; have h9 := HA.out w; go_simp); (try (with_reducible rfl)))
                try simp only [Act.put, List.setIfInBounds_toArray, List.set_cons_zero, List.set_cons_succ]
                refine wpAnyH_take (i := 10) (oi := ?oi10W) (v := ?v10W) ?h010W ?h110W ?h210W ?h310W ?h410W (Or.inl ⟨?hw10W, ?hy10W⟩) (by assumption) ?rest10W
                case h010W => (simp only [List.getElem?_toArray, List.getElem?_cons_zero, List.getElem?_cons_succ]; rfl)
                case h110W => kernel_rfl
                case h210W => kernel_rfl
                case h310W => kernel_rfl
                case h410W => exact fun _ _ _ h => h
                case hw10W => rfl
                case hy10W => ((intro w hSw; go_simp); (try (with_reducible rfl)))
                try simp only [Act.put, List.setIfInBounds_toArray, List.set_cons_zero, List.set_cons_succ]
                refine wpAnyH_ready (rs := [11]) (by kernel_rfl) (by simp) ?_
                refine AllReadyH.cons (o := ?oi11W) ?h011W (fun K hK => ?_) AllReadyH.nil
                case h011W => (simp only [List.getElem?_toArray, List.getElem?_cons_zero, List.getElem?_cons_succ]; rfl)
                rw [if_pos (by rfl)]
                go_wp2_with fail
                refine (HM.out _ Qb.out.drew).mono ?_
                rintro e wM ⟨rfl, hbM⟩
                have hB9 : Below w.heap.size w wM := Qb.out.drew.trans (hbM.mono Qb.out.size)
                have R9 : Row wM g2 4 (partL (bl L) (ps.take (i + 1)) k).toArray := Q2.out.drew.below hbM Q2.out.lt
                have Rg9 : Row wM g 4 (boolsL (bl L) (ps.take i)).toArray := Qg.out.drew.below hbM Qg.out.lt
                have c9 : wM.cell? ⟨g2, k, none⟩ = some v0 := by rw [R9.cell, ← Q2.out.cell]; exact Hc0.out
                have f9 : wM.frozen? ⟨g2, k, none⟩ = false := R9.frozen _
                have H9 := hide (And.intro hB9 (And.intro R9 Rg9))
                clear hbM hB9 R9 Rg9 hmeth c0 f0
                refine hK.out _ _ ⟨HCP.out _ H9.out.1, ⟨v0, c9⟩, f9⟩ (fun hHeld2 => ?_)
                clear hK K
                try simp only [Act.put, List.setIfInBounds_toArray, List.set_cons_zero, List.set_cons_succ]
                refine wpAnyH_take (i := 12) (oi := ?oi12W) (v := ?v12W) ?h012W ?h112W ?h212W ?h312W ?h412W (Or.inl ⟨?hw12W, ?hy12W⟩) (by assumption) ?rest12W
                case h012W => (simp only [List.getElem?_toArray, List.getElem?_cons_zero, List.getElem?_cons_succ]; rfl)
                case h112W => kernel_rfl
                case h212W => kernel_rfl
                case h312W => kernel_rfl
                case h412W => exact fun _ _ _ h => h
                case hw12W => rfl
                case hy12W => ((intro w hSw; go_simp); (try (with_reducible rfl)))
                try simp only [Act.put, List.setIfInBounds_toArray, List.set_cons_zero, List.set_cons_succ]
                refine wpAnyH_ready (rs := [13]) (by kernel_rfl) (by simp) ?_
                refine AllReadyH.cons (o := ?oi13W) ?h013W (fun K hK => ?_) AllReadyH.nil
                case h013W => (simp only [List.getElem?_toArray, List.getElem?_cons_zero, List.getElem?_cons_succ]; rfl)
                rw [if_pos (by rfl)]
                go_wp2_with fail
                have R10 := row_part H9.out.2.1 HkP.out res HVal.out
                have HB10 := hide (H9.out.1.setCell (p := ⟨g2, k, none⟩) (by have := HW3.out.2.2.2; omega) (.bool res))
                have HR10 := hide R10
                refine hK.out _ _ ⟨HCP.out _ HB10.out, ⟨_, by rw [R10.cell, List.getElem?_toArray]; exact partL_get _ _ _ _ HkP.out⟩, R10.frozen _⟩ (fun hHeld3 => ?_)
                clear hK K R10
                try simp only [Act.put, List.setIfInBounds_toArray, List.set_cons_zero, List.set_cons_succ]
                refine wpAnyH_done (by kernel_rfl) ?_ _
                clear c9 f9 hHeld3 hHeld2
                go_wp2
                go_roundw
                case rel => exact ⟨k + 1, by go_num, by omega, HR10.out, H9.out.2.2.off Hne.out _ _, HB10.out⟩
                case measure => simp [intOf]; omega
          · obtain rfl : k = L.length + 1 := by omega
            have hnk : ¬ ((L.length + 1 : Nat) : Int) < (L.length : Int) + 1 := by omega
            have Hrow2 := hide (show Row wr g2 4 (boolsL (bl L) (ps.take (i + 1))).toArray by have := Q2.out; rw [← HLn.out, partL_all] at this; exact this)
            clear hkl hk
            go_wp2
            go_roundw
            case rel => exact ⟨i + 1, g2, by go_num, by omega, rfl, Hrow2.out, by have := HW3.out.2.2.2; omega, Qb.out⟩
            case measure => simp [intOf]; omega
    · obtain rfl : i = ps.length := by omega
      have htk : ps.take ps.length = ps := List.take_length
      have hcf : wr.cell? ⟨g, L.length, none⟩ = some (.bool (mP ps (bl L))) := by
        have h := Hrow.out
        rw [htk] at h
        rw [h.cell, List.getElem?_toArray, ← HLn.out, boolsL_get _ _ _ (Nat.le_refl _), List.take_length]
      have hlt2 : (L.length : Int) < (L.length : Int) + 1 := by omega
      have hnl : ¬ (ps.length : Int) < (ps.length : Int) := by omega
      obtain ⟨res, hres⟩ : ∃ res, mP ps (bl L) = res := ⟨_, rfl⟩
      rw [hres] at hcf
      have Hres := hide hres
      clear hres
      clear htk hlt hi
      go_wp2
      go_ret
      exact ⟨ret_b Hres.out, Hb.out⟩
end Go.Proofs.Ytpfiofgchkfkhaa

/- Contract of a wild part's fixed. -/
set_option linter.unusedVariables false
set_option linter.unusedSimpArgs false
namespace Go
open Go.RowKit Go.Lib
/-- a row of bytes made a string -/
theorem run_string_ownP {P : Program} {W : World} {base : Nat} {e : TypeId} {v : Value} {n : Nat} {bs : List UInt8} {src dst : TypeId} (hs : P.underlying src = some (.slice e)) (he : P.underlying e = some (.int .u8)) (hd : P.underlying dst = some .string)
    (hown : W.ownsRow base e 1 v n (bs.map fun b => Value.int .u8 b.toNat)) : (convert src dst v).run P W = .ok (.string ⟨bs.toArray⟩) W := by
  have hl : bs.length = n := by have := hown.1; simpa using this
  rcases Nat.eq_zero_or_pos n with h0 | h0
  · subst h0
    obtain rfl : bs = [] := List.eq_nil_of_length_eq_zero hl
    rcases hown.2 with ⟨rfl, _⟩ | ⟨g, cap, cur, rfl, _⟩
    · rw [run_convert_bytes_string W src dst e none 0 0 hs he hd]
      simp [Conv.bytesToString, Sem.run_pure]
      rfl
    · exact run_convert_bytes_back W src dst e ⟨g, 0, none⟩ cap [] hs he hd (fun j hj => absurd hj (by simp))
  · obtain ⟨g, cap, rfl, _⟩ := World.ownsRow.form hown h0
    rw [← hl]
    refine run_convert_bytes_back W src dst e ⟨g, 0, none⟩ cap bs hs he hd (fun j hj => ?_)
    rw [show (⟨g, 0, none⟩ : Addr).add j = ⟨g, j, none⟩ by unfold Addr.add; split <;> simp_all, World.ownsRow.cellAt hown j (by omega), List.getElem?_map, List.getElem?_eq_getElem hj]; rfl
end Go
namespace Go.Proofs.Ytpfiofgchkfkhaa
open Go.RowKit Go.Shelf

def bytesP (l : List UInt8) : List Value := l.map fun b => Value.int .u8 b.toNat
theorem bytesP_snoc (l : List UInt8) (b : UInt8) : bytesP l ++ [Value.int .u8 (b.toNat : Int)] = bytesP (l ++ [b]) := by
  unfold bytesP; rw [List.map_append]; rfl
theorem infoU8P : (Try.prog.info? 5).map (fun i => (i.zero, i.size, i.bytes)) = some (some (.int .u8 0), 1, 1) := by kernel_rfl
def FixPost (R : Option (List UInt8)) (w : World) (e : Ending) (w' : World) : Prop :=
  (match R with | none => e = .returned (.tuple #[.string ⟨#[]⟩, .bool false]) | some n => e = .returned (.tuple #[.string (bsP n), .bool true])) ∧ Below w.heap.size w w'

end Go.Proofs.Ytpfiofgchkfkhaa

/- Contracts of pattern's Valid, Match, MatchName, Prefix. -/
set_option linter.unusedVariables false
set_option linter.unusedSimpArgs false
namespace Go.Proofs.Ytpfiofgchkfkhaa
open Go.RowKit Go.Shelf

def matchV (l : List UInt8) (P : List (List UInt8)) : Bool := match readV l with | some ps => mP ps P | none => false
def nameV (l : List UInt8) (s : List UInt8) : Bool := match readV l with | some [x] => x.ok s | _ => false
def prefV (l : List UInt8) : List (List UInt8) := match readV l with | some ps => prefixV ps | none => []

theorem Valid_pt (l : List UInt8) (w : World) (hl : l.length ≤ 1000000) (hg : Gm w) :
    Calls Try.prog 45 #[.string (bsP l)] w fun e w' => e = .returned (.bool (readV l).isSome) ∧ Below w.heap.size w w' := by
  have Rd := hide (read_any l w hl hg)
  generalize readV l = R at *
  go_enter Try.func45, Try.ntmps45
  go_wp2_with fail
  refine Rd.out.mono ?_
  rintro e w1 h1
  cases R with
  | none =>
    obtain ⟨rfl, hb⟩ := h1
    have Hb := hide hb
    clear hb
    go_wp2
    go_ret
    exact ⟨rfl, Hb.out⟩
  | some ps =>
    obtain ⟨A, cap, xs, rfl, h2, h3, h4, h5, h6, hb⟩ := h1
    have Hb := hide hb
    clear hb h2 h3 h4 h5 h6
    go_wp2
    go_ret
    exact ⟨rfl, Hb.out⟩
/-- a list of strings handed back in new memory -/
def PrefPost (N : List (List UInt8)) (w : World) (e : Ending) (w' : World) : Prop :=
  ∃ A cap, e = .returned (.slice A N.length cap) ∧ Sl Value.string w' A (N.map bsP) ∧ N.length ≤ cap ∧ Below w.heap.size w w'
theorem infoStrP : (Try.prog.info? 9).map (fun i => (i.zero, i.size, i.bytes)) = some (some (.string ⟨#[]⟩), 1, 16) := by kernel_rfl
def strP (N : List (List UInt8)) : List Value := N.map fun n => Value.string (bsP n)
theorem strP_snoc (N : List (List UInt8)) (n : List UInt8) : strP N ++ [Value.string (bsP n)] = strP (N ++ [n]) := by unfold strP; rw [List.map_append]; rfl
/-- what a part's fixed answers, and that its method is found -/
def FixOf (w : World) (x : Pt) (v : Value) : Prop := ∃ T u f, v = .iface T u ∧ (∀ W, Below w.heap.size w W → Calls Try.prog f #[u] W (FixPost x.fixed W)) ∧ ∀ W : World, (method 254 T u "wavestore/pattern.fixed").run Try.prog W = .ok (f, u) W ∧ (callFunc f #[u]).run Try.prog W = .ok (.enter f #[u]) W
theorem callFunc_body {P : Program} {f : FuncId} {args : Array Value} (h : (P.funcs[f]?).map (fun fn => (fn.name == "runtime.NumGoroutine", fn.body.isNone)) = some (false, false)) (w : World) :
    (callFunc f args).run P w = .ok (.enter f args) w := by
  cases hf : P.funcs[f]? with
  | none => rw [hf] at h; cases h
  | some fn =>
    rw [hf] at h
    simp only [Option.map_some, Option.some.injEq, Prod.mk.injEq] at h
    have h1 : fn.name ≠ "runtime.NumGoroutine" := by simpa using h.1
    cases hc : fn.body with
    | none => rw [hc] at h; cases h.2
    | some c => simp [callFunc, go_sem, hf, h1, hc]
end Go.Proofs.Ytpfiofgchkfkhaa

/- Contracts of pattern's MatchName and Filter. -/
set_option linter.unusedVariables false
set_option linter.unusedSimpArgs false
namespace Go.Proofs.Ytpfiofgchkfkhaa
open Go.RowKit Go.Shelf

/-- what a part's matches answers, and that its method is found -/
def MatOf (w : World) (x : Pt) (v : Value) (s : ByteArray) : Prop := ∃ T u f, v = .iface T u ∧ (∀ W, Below w.heap.size w W → Calls Try.prog f #[u, .string s] W fun e w' => e = .returned (.bool (x.ok s.data.toList)) ∧ Below W.heap.size W w') ∧ ∀ W : World, (method 254 T u "wavestore/pattern.matches").run Try.prog W = .ok (f, u) W ∧ (callFunc f #[u, .string s]).run Try.prog W = .ok (.enter f #[u, .string s]) W
theorem matOf (w : World) (x : Pt) (v : Value) (s : ByteArray) (hs : s.size ≤ 1000000) (h : PartIs w none x v) : MatOf w x v s := by
  cases x with
  | any =>
    have hv3 : v = .iface 107 (.agg #[]) := h
    subst hv3
    exact ⟨107, (.agg #[]), 123, rfl, fun W _ => (anyMatches_any s W).mono (by rintro e w9 ⟨rfl, hb⟩; exact ⟨rfl, hb⟩), fun W => ⟨method_of (f := 123) (by kernel_rfl) Try.underlying107 (by intro x h; cases h) 253 (.agg #[]) W, callFunc_body (by kernel_rfl) W⟩⟩
  | lit nm =>
    obtain ⟨hv3, _⟩ := h
    subst hv3
    exact ⟨108, (.string (bsP nm)), 125, rfl, fun W _ => (literalMatches_any (bsP nm) s W).mono (by rintro e w9 ⟨rfl, rfl⟩; exact ⟨rfl, Below.refl _ _⟩), fun W => ⟨method_of (f := 125) (by kernel_rfl) Try.underlying108 (by intro x h; cases h) 253 (.string (bsP nm)) W, callFunc_body (by kernel_rfl) W⟩⟩
  | wild O =>
    obtain ⟨gO, capO, hv3, hW0, hO1, hO2, hO3, hgO, _⟩ := h
    subst hv3
    exact ⟨116, (.slice (some ⟨gO, 0, none⟩) O.length capO), 127, rfl, fun W hW => (wildMatches_any W gO 0 capO O s (WIt.items (hW0.below hW hgO)) (by omega) hs hO2).mono (by rintro e w9 ⟨rfl, n, rfl⟩; exact ⟨rfl, Below_drewN (Below.refl _ _) n⟩), fun W => ⟨method_of (f := 127) (by kernel_rfl) Try.underlying116 (by intro x h; cases h) 253 (.slice (some ⟨gO, 0, none⟩) O.length capO) W, callFunc_body (by kernel_rfl) W⟩⟩
/-- a slice of slices of strings -/
def SlP (W : World) (A : Option Addr) (Ls : List (List ByteArray)) : Prop :=
  0 < Ls.length → ∃ b off, A = some ⟨b, off, none⟩ ∧ b < W.heap.size ∧ ∀ i, ∀ h : i < Ls.length, ∃ Ai capi, W.cell? ⟨b, off + i, none⟩ = some (.slice Ai Ls[i].length capi) ∧ Sl Value.string W Ai Ls[i]
theorem infoIntP : (Try.prog.info? 3).map (fun i => (i.zero, i.size, i.bytes)) = some (some (.int .i64 0), 1, 8) := by kernel_rfl
def CountPost (n B : Nat) (w : World) (e : Ending) (w' : World) : Prop := ∃ A cap, e = .returned (.slice A n cap) ∧ Below B w w'
def countV (l : List UInt8) (Ls : List (List ByteArray)) : Nat := (Ls.filter fun L => matchV l (bl L)).length
set_option maxRecDepth 20000 in
set_option maxHeartbeats 8000000 in
theorem Filter_pt (l : List UInt8) (Ap : Option Addr) (capp : Nat) (Ls : List (List ByteArray)) (w : World) (hl : l.length ≤ 1000000) (hg : Gm w) (hAp : SlP w Ap Ls) (hL : Ls.length ≤ 1000000) (hz : ∀ L ∈ Ls, L.length ≤ 1000000 ∧ ∀ s ∈ L, s.size ≤ 1000000) :
    Calls Try.prog 46 #[.string (bsP l), .slice Ap Ls.length capp] w (CountPost (countV l Ls) w.heap.size w) := by
  have Rd := hide (read_any l w hl hg)
  have HAp := hide hAp
  have HZ := hide hz
  clear hAp hz
  have hm : ∀ P, matchV l P = (match readV l with | some ps => mP ps P | none => false) := fun _ => rfl
  generalize hR : readV l = R at *
  obtain ⟨C, hC⟩ : ∃ C : List (List ByteArray) → Nat, C = fun Ls => (Ls.filter fun L => matchV l (bl L)).length := ⟨_, rfl⟩
  have hcv : countV l Ls = C Ls := by rw [hC]; rfl
  have HCv := hide hcv
  have HC := hide hC
  have HM := hide hm
  clear hC hcv hm hR
  go_enter Try.func46, Try.ntmps46
  go_wp2_with fail
  refine Rd.out.mono ?_
  rintro e w1 h1
  cases R with
  | none =>
    obtain ⟨rfl, hb⟩ := h1
    have Hb := hide hb
    clear hb
    go_wp2
    go_ret
    rw [show countV l Ls = 0 by
      unfold countV
      rw [List.length_eq_zero_iff, List.filter_eq_nil_iff]
      intro L _
      rw [HM.out]; decide]
    exact ⟨none, 0, rfl, Hb.out⟩
  | some ps =>
    obtain ⟨A, cap, xs, rfl, hsl, hps, hcap, hp16, hA, hb⟩ := h1
    have Hb := hide hb
    have HSl := hide hsl
    have HP := hide hps
    have HA := hide hA
    clear hb hsl hps hcap hA
    go_upto_region 6 with fail
    go_loopw [7, 19] (fun v7 v19 wr => ∃ (i : Nat) (ys : List Value), v19 = .int .i64 (i : Int) ∧ i ≤ Ls.length ∧ ys.length = C (Ls.take i) ∧ wr.ownsRow w1.heap.size 3 1 v7 ys.length ys ∧ Below w1.heap.size w1 wr) (fun _ v _ => Ls.length - (intOf v).toNat)
    case atStart => exact ⟨0, [], rfl, Nat.zero_le _, by rw [HC.out]; rfl, World.ownsRow_nil _ _ _ _, Below.refl _ _⟩
    case round =>
      obtain ⟨i, ys, rfl, hi, hys, hown, hbr⟩ := hrel
      have Hown := hide hown
      have Hbr := hide hbr
      have HYs := hide hys
      clear hown hbr hys
      by_cases hlt : i < Ls.length
      · obtain ⟨b, off, rfl, hbl, hcell⟩ := HAp.out (Nat.lt_of_le_of_lt (Nat.zero_le _) hlt)
        obtain ⟨Ai, capi, hc, hAi⟩ := hcell i hlt
        have hbw := Hb.out.trans (Hbr.out.mono Hb.out.size)
        have hc' : wr.cell? ⟨b, off + i, none⟩ = some (.slice Ai Ls[i].length capi) := by rw [← hc]; exact World.cell?_of_block (hbw.block b hbl)
        have hAi' := hAi.below hbw
        have hzi := HZ.out Ls[i] (List.getElem_mem hlt)
        have htk : Ls.take (i + 1) = Ls.take i ++ [Ls[i]] := by rw [List.take_add_one, List.getElem?_eq_getElem hlt]; rfl
        have hstep : C (Ls.take (i + 1)) = C (Ls.take i) + (if mP ps (bl Ls[i]) then 1 else 0) := by
          rw [htk, HC.out]
          simp only [List.filter_append, List.length_append]
          congr 1
          have e := HM.out (bl Ls[i])
          rw [List.filter_cons, List.filter_nil, e]
          split <;> rfl
        generalize Ls[i] = L at *
        have M := hide (match_any A cap capi Ai ps xs L wr (HSl.out.below Hbr.out) (HP.out.below Hbr.out) hAi' (by omega) hzi.1 hzi.2)
        have hi' : (i : Int) < (Ls.length : Int) := by omega
        have hwi : IntKind.i64.wrap ((i : Int) + 1) = (i : Int) + 1 := IntWalk.i64_in _ (by omega)
        have hyl : ys.length ≤ i := by
          rw [HYs.out, HC.out]
          exact Nat.le_trans (List.length_filter_le _ _) (by rw [List.length_take]; omega)
        have HSt := hide hstep
        have HYl := hide hyl
        clear hcell hc hAi hAi' hzi htk hstep hbw hyl
        go_wp2_with fail
        refine M.out.mono ?_
        rintro e w2 ⟨rfl, hb2⟩
        have Hown2 := hide (ownsRow_below Hown.out hb2)
        have Hb2 := hide (Hbr.out.trans (hb2.mono Hbr.out.size))
        clear hb2
        cases hmm : mP ps (bl L) with
        | false =>
          have HS2 := hide (show C (Ls.take (i + 1)) = C (Ls.take i) by rw [HSt.out, hmm]; rfl)
          clear hmm
          go_wp2
          go_roundw
          case rel => exact ⟨i + 1, ys, by go_num, hlt, by rw [HS2.out]; exact HYs.out, Hown2.out, Hb2.out⟩
          case measure => simp [intOf]; omega
        | true =>
          have HS2 := hide (show C (Ls.take (i + 1)) = C (Ls.take i) + 1 by rw [HSt.out, hmm]; rfl)
          clear hmm
          go_wp2_with (at_builtin; have hown9 := Hown2.out.alloc (.cells #[.int .i64 (i : Int)] 3); refine wpList_append_at _ rfl _ _ 30 rfl w1.heap.size 3 infoIntP Try.underlying30 rfl (by decide) _ ys.length ys rfl hown9 ⟨w2.heap.size, 0, none⟩ 1 1 [.int .i64 (i : Int)] rfl rfl (cells_new _ _ rfl) (by intro u hu; simp only [List.mem_cons, List.not_mem_nil, or_false] at hu; rcases hu with rfl; rfl) (by unfold maxLen; have := HYl.out; omega) (by have := HYl.out; omega) (by rw [World.size_alloc]; have := Hb2.out.size; omega) ?_; intro v' w5 hown5 hgrow5 _ _)
          have Hown5 := hide (show w5.ownsRow w1.heap.size 3 1 v' (ys ++ [Value.int .i64 (i : Int)]).length (ys ++ [Value.int .i64 (i : Int)]) by rw [List.length_append]; exact hown5)
          have HB5 := hide ((Hb2.out.alloc Hb2.out.size (.cells #[.int .i64 (i : Int)] 3)).grown hgrow5 (by rw [World.size_alloc]; have := Hb2.out.size; omega) (fun j hj => (World.ownsRow.lt hown9 j hj).1))
          clear hown5 hgrow5 hown9
          go_wp2
          go_roundw
          case rel => exact ⟨i + 1, ys ++ [.int .i64 (i : Int)], by go_num, hlt, by rw [List.length_append, HS2.out, HYs.out]; rfl, Hown5.out, HB5.out⟩
          case measure => simp [intOf]; omega
      · obtain rfl : i = Ls.length := by omega
        have hni : ¬ (Ls.length : Int) < (Ls.length : Int) := by omega
        obtain ⟨A7, cap7, hv7, _, _⟩ := Sl_own (f := id) (xs := ys) (by rw [List.map_id]; exact Hown.out) rfl
        have hyc : ys.length = C Ls := by have := HYs.out; rwa [List.take_length] at this
        have HYc := hide hyc
        subst hv7
        clear hlt hi hyc
        go_wp2
        go_ret
        rw [HCv.out, ← HYc.out]
        exact ⟨A7, cap7, rfl, Hb.out.trans (Hbr.out.mono Hb.out.size)⟩
end Go.Proofs.Ytpfiofgchkfkhaa

/- awake of the laws 20. -/
set_option linter.unusedVariables false
set_option linter.unusedSimpArgs false
namespace Go.Proofs.Ytpfiofgchkfkhaa
open Go.RowKit Go.Shelf

theorem gm_of {W : World} (hS : W.ShapedOpen Try.prog) : Gm W :=
  cell_of_shapedOpen_int (t := 3) (zero := #[.int .i64 0]) hS (by decide +kernel) (by kernel_rfl) rfl (by kernel_rfl) (by kernel_rfl) Try.underlying3
theorem Sl_new (W : World) (L : List ByteArray) : Sl Value.string (W.alloc (.cells (L.map Value.string).toArray 9)) (some ⟨W.heap.size, 0, none⟩) L := fun _ =>
  ⟨W.heap.size, 0, rfl, fun i hi => by
    rw [Nat.zero_add, (Row.new W 9 (L.map Value.string).toArray).cell i, List.getElem?_toArray, List.getElem?_map, List.getElem?_eq_getElem hi]; rfl⟩
theorem alloc_trans {W W' : World} {o : Obj} (h : Below (W.alloc o).heap.size (W.alloc o) W') : Below W.heap.size W W' :=
  ((Below.refl W.heap.size W).alloc (Nat.le_refl _) o).trans (h.mono (by rw [World.size_alloc]; omega))
theorem ex_pref : (prefV [116, 111, 112, 46, 100, 97, 116, 97, 91, 48, 45, 51, 93]).length = 1 := by decide +kernel
theorem ex_name : nameV [100, 97, 116, 97, 91, 48, 45, 51, 93] [100, 97, 116, 97, 50] = true := by decide +kernel
theorem ex_valid : (readV [42, 42]).isSome = true := by decide +kernel
theorem aw_v (W : World) (hW : Gm W) : Calls Try.prog 45 #[.string ⟨#[42, 42]⟩] W fun e w' => e = .returned (.bool true) ∧ Below W.heap.size W w' :=
  (Valid_pt [42, 42] W (by decide) hW).mono (by
    rintro e w' ⟨rfl, hb⟩
    exact ⟨ret_b ex_valid.symm, hb⟩)
theorem ex_count : countV [42, 42] [[⟨#[97]⟩], []] = 2 := by decide +kernel
theorem aw_f (W : World) (hW : Gm W) : Calls Try.prog 46 #[.string ⟨#[42, 42]⟩, .slice (some ⟨W.heap.size + 2, 0, none⟩) 2 2] (((W.alloc (.cells #[.string ⟨#[97]⟩] 9)).alloc (.cells #[] 9)).alloc (.cells #[.slice (some ⟨W.heap.size, 0, none⟩) 1 1, .slice (some ⟨W.heap.size + 1, 0, none⟩) 0 0] 37)) fun e w' => (∃ A cap, e = .returned (.slice A 2 cap)) ∧ Below W.heap.size W w' := by
  obtain ⟨W1, hW1⟩ : ∃ W1, W.alloc (.cells #[.string ⟨#[97]⟩] 9) = W1 := ⟨_, rfl⟩
  have r0 : Row W1 W.heap.size 9 #[.string ⟨#[97]⟩] := by rw [← hW1]; exact Row.new _ _ _
  have z1 : W1.heap.size = W.heap.size + 1 := by rw [← hW1, World.size_alloc]
  have b1 : Below W.heap.size W W1 := by rw [← hW1]; exact (Below.refl _ _).alloc (Nat.le_refl _) _
  rw [hW1]
  obtain ⟨W2, hW2⟩ : ∃ W2, W1.alloc (.cells #[] 9) = W2 := ⟨_, rfl⟩
  have r1 : Row W2 W.heap.size 9 #[.string ⟨#[97]⟩] := by rw [← hW2]; exact r0.alloc _
  have z2 : W2.heap.size = W.heap.size + 2 := by rw [← hW2, World.size_alloc, z1]
  have b2 : Below W.heap.size W W2 := by rw [← hW2]; exact b1.alloc (by rw [z1]; omega) _
  rw [hW2]
  obtain ⟨W3, hW3⟩ : ∃ W3, W2.alloc (.cells #[.slice (some ⟨W.heap.size, 0, none⟩) 1 1, .slice (some ⟨W.heap.size + 1, 0, none⟩) 0 0] 37) = W3 := ⟨_, rfl⟩
  have r2 : Row W3 W.heap.size 9 #[.string ⟨#[97]⟩] := by rw [← hW3]; exact r1.alloc _
  have r3 : Row W3 (W.heap.size + 2) 37 #[.slice (some ⟨W.heap.size, 0, none⟩) 1 1, .slice (some ⟨W.heap.size + 1, 0, none⟩) 0 0] := by
    rw [← hW3, ← z2]; exact Row.new _ _ _
  have b3 : Below W.heap.size W W3 := by rw [← hW3]; exact b2.alloc (by rw [z2]; omega) _
  rw [hW3]
  refine (Filter_pt [42, 42] (some ⟨W.heap.size + 2, 0, none⟩) 2 [[⟨#[97]⟩], []] W3 (by decide) (hW.below b3) (fun _ => ⟨W.heap.size + 2, 0, rfl, r3.lt, fun i hi => ?_⟩) (by decide) (by
    intro L hL
    simp only [List.mem_cons, List.not_mem_nil, or_false] at hL
    rcases hL with rfl | rfl
    · exact ⟨by decide, by decide⟩
    · exact ⟨by decide, by decide⟩)).mono ?_
  · rw [Nat.zero_add, r3.cell i]
    have : i = 0 ∨ i = 1 := by simp at hi; omega
    rcases this with rfl | rfl
    · exact ⟨some ⟨W.heap.size, 0, none⟩, 1, rfl, fun _ => ⟨W.heap.size, 0, rfl, fun j hj => by
        rw [Nat.zero_add, r2.cell j]
        have : j = 0 := by simpa using hj
        subst this; rfl⟩⟩
    · exact ⟨some ⟨W.heap.size + 1, 0, none⟩, 0, rfl, Sl.nil _ _ _⟩
  · rintro e w' ⟨A, cap, rfl, hb⟩
    exact ⟨⟨A, cap, by rw [ex_count]⟩, b3.trans (hb.mono b3.size)⟩
end Go.Proofs.Ytpfiofgchkfkhaa
