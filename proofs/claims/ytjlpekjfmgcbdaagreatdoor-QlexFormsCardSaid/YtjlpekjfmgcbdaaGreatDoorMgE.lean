/- MgE: the texts QlS QlT QlU QlV QlW QlX in one. -/
import Derived.Test.YtjlpekjfmgcbdaaGreatDoorMgD
import Derived.Test.YtjlpekjfmgcbdaaGreatDoorMgC
import Derived.Deep.RegionHeld3
import Derived.Deep.AppendLies
/- Contract of qlex's Unquote. -/
set_option linter.unusedVariables false
set_option linter.unusedSimpArgs false
namespace Go.Proofs.YtjlpekjfmgcbdaaGreatDoor
open Go.RowKit Go.Shelf
/-- one byte of what stands between quotation marks -/
def stepE : List UInt8 → Option (UInt8 × Nat)
  | [] => none
  | d :: r => if d = 34 ∨ d = 92 then some (d, 2) else if d = 120 then (match r with
        | x :: y :: _ => if 0 ≤ hexQ x ∧ 0 ≤ hexQ y then some (UInt8.ofNat (16 * hexQ x + hexQ y).toNat, 4) else none
        | _ => none) else none
def badU (c : UInt8) : Bool := decide (c.toNat < 32 ∨ 126 < c.toNat ∨ c = 34)
def stepU : List UInt8 → Option (UInt8 × Nat)
  | [] => none
  | c :: t => if badU c = true then none else if c = 92 then stepE t else some (c, 1)
theorem unqG_bad (k : Nat) {c : UInt8} (t : List UInt8) (h : badU c = true) : unqG (k + 1) (c :: t) = none := by
  show (if c.toNat < 32 ∨ 126 < c.toNat ∨ c = 34 then none else _) = none
  rw [if_pos (of_decide_eq_true h)]
theorem unqG_pl (k : Nat) {c : UInt8} (t : List UInt8) (h : badU c = false) (h2 : c ≠ 92) : unqG (k + 1) (c :: t) = (unqG k t).map (c :: ·) := by
  show (if c.toNat < 32 ∨ 126 < c.toNat ∨ c = 34 then none else if c ≠ 92 then _ else _) = _
  rw [if_neg (of_decide_eq_false h), if_pos h2]
theorem unqG_esc (k : Nat) (t : List UInt8) : unqG (k + 1) (92 :: t) = (stepE t).bind fun p => (unqG k (t.drop (p.2 - 1))).map (p.1 :: ·) := by
  show (if (92 : UInt8).toNat < 32 ∨ 126 < (92 : UInt8).toNat ∨ (92 : UInt8) = 34 then none else if (92 : UInt8) ≠ 92 then _ else _) = _
  rw [if_neg (by decide), if_neg (by decide)]
  cases t with
  | nil => rfl
  | cons d r =>
    simp only [stepE]
    by_cases h1 : d = 34 ∨ d = 92
    · rw [if_pos h1, if_pos h1]; rfl
    · rw [if_neg h1, if_neg h1]
      by_cases h2 : d = 120
      · rw [if_pos h2, if_pos h2]
        match r with
        | [] => rfl
        | [_] => rfl
        | x :: y :: q =>
          simp only
          by_cases h3 : 0 ≤ hexQ x ∧ 0 ≤ hexQ y
          · rw [if_pos h3, if_pos h3]; rfl
          · rw [if_neg h3, if_neg h3]; rfl
      · rw [if_neg h2, if_neg h2]; rfl
theorem stepE_pos {t : List UInt8} {p : UInt8 × Nat} (h : stepE t = some p) : 2 ≤ p.2 ∧ p.2 ≤ t.length + 1 := by
  cases t with
  | nil => cases h
  | cons d r =>
    simp only [stepE] at h
    by_cases h1 : d = 34 ∨ d = 92
    · rw [if_pos h1] at h; cases h; exact ⟨Nat.le_refl _, by show 2 ≤ r.length + 1 + 1; omega⟩
    · rw [if_neg h1] at h
      by_cases h2 : d = 120
      · rw [if_pos h2] at h
        match r, h with
        | [], h => cases h
        | [_], h => cases h
        | x :: y :: q, h =>
          simp only at h
          by_cases h3 : 0 ≤ hexQ x ∧ 0 ≤ hexQ y
          · rw [if_pos h3] at h; cases h; exact ⟨by show 2 ≤ 4; omega, by show 4 ≤ q.length + 1 + 1 + 1 + 1; omega⟩
          · rw [if_neg h3] at h; cases h
      · rw [if_neg h2] at h; cases h
theorem unqG_step (k : Nat) (c : UInt8) (t : List UInt8) : unqG (k + 1) (c :: t) = (stepU (c :: t)).bind fun p => (unqG k ((c :: t).drop p.2)).map (p.1 :: ·) := by
  simp only [stepU]
  cases h1 : badU c with
  | true => rw [unqG_bad k t h1]; rfl
  | false =>
    rw [if_neg (by decide)]
    by_cases h2 : c = 92
    · subst h2
      rw [if_pos rfl, unqG_esc]
      cases hs : stepE t with
      | none => rfl
      | some p =>
        have h3 := (stepE_pos hs).1
        simp only [Option.bind_some]
        rw [show (92 :: t).drop p.2 = t.drop (p.2 - 1) by rw [show p.2 = (p.2 - 1) + 1 by omega]; rfl]
    · rw [if_neg h2, unqG_pl k t h1 h2]; rfl
theorem stepU_pos {l : List UInt8} {p : UInt8 × Nat} (h : stepU l = some p) : 1 ≤ p.2 ∧ p.2 ≤ l.length := by
  cases l with
  | nil => cases h
  | cons c t =>
    simp only [stepU] at h
    cases h1 : badU c with
    | true => rw [h1, if_pos rfl] at h; cases h
    | false =>
      rw [h1, if_neg (by decide)] at h
      by_cases h2 : c = 92
      · rw [if_pos h2] at h
        have := stepE_pos h
        rw [List.length_cons]; omega
      · rw [if_neg h2] at h; cases h; exact ⟨Nat.le_refl _, by show 1 ≤ t.length + 1; omega⟩
theorem unqG_fuel : ∀ (n m : Nat) (l : List UInt8), l.length < n → l.length < m → unqG n l = unqG m l
  | 0, m, l, h, _ => absurd h (by omega)
  | n + 1, 0, l, _, h => absurd h (by omega)
  | n + 1, m + 1, [], _, _ => rfl
  | n + 1, m + 1, c :: t, hn, hm => by
    rw [unqG_step, unqG_step]
    cases hs : stepU (c :: t) with
    | none => rfl
    | some p =>
      obtain ⟨h1, h2⟩ := stepU_pos hs
      simp only [Option.bind_some]
      rw [List.length_cons] at hn hm h2
      rw [unqG_fuel n m ((c :: t).drop p.2) (by rw [List.length_drop, List.length_cons]; omega) (by rw [List.length_drop, List.length_cons]; omega)]
def unqW (l : List UInt8) : Option (List UInt8) := unqG (l.length + 1) l
theorem unqW_nil : unqW [] = some [] := rfl
theorem unqW_step {l : List UInt8} {c : UInt8} {n : Nat} (h : stepU l = some (c, n)) : unqW l = (unqW (l.drop n)).map (c :: ·) := by
  cases l with
  | nil => cases h
  | cons d t =>
    obtain ⟨h1, h2⟩ := stepU_pos h
    unfold unqW
    rw [unqG_step, h]
    simp only [Option.bind_some]
    rw [List.length_cons] at h2 ⊢
    rw [unqG_fuel (t.length + 1) (((d :: t).drop n).length + 1) _ (by rw [List.length_drop, List.length_cons]; omega) (by omega)]
theorem unqW_stop {l : List UInt8} (h : stepU l = none) (hl : l ≠ []) : unqW l = none := by
  cases l with
  | nil => exact absurd rfl hl
  | cons d t => unfold unqW; rw [unqG_step, h]; rfl
def ReadU (m : List UInt8) (i : Nat) (O : List UInt8) : Prop := i ≤ m.length ∧ O.length ≤ i ∧ unqW m = (unqW (m.drop i)).map (O ++ ·)
theorem ReadU.zero (m : List UInt8) : ReadU m 0 [] := ⟨Nat.zero_le _, Nat.le_refl _, by simp⟩
theorem ReadU.step {m : List UInt8} {i : Nat} {O : List UInt8} (h : ReadU m i O) {c : UInt8} {n : Nat} (hs : stepU (m.drop i) = some (c, n)) : ReadU m (i + n) (O ++ [c]) := by
  obtain ⟨h1, h2, h3⟩ := h
  have h4 := stepU_pos hs
  simp only [List.length_drop] at h4
  refine ⟨by omega, by simp; omega, ?_⟩
  rw [h3, unqW_step hs, List.drop_drop]
  cases unqW (List.drop (i + n) m) <;> simp
theorem ReadU.stop {m : List UInt8} {i : Nat} {O : List UInt8} (h : ReadU m i O) (hi : i < m.length) (hs : stepU (m.drop i) = none) : unqW m = none := by
  rw [h.2.2, unqW_stop hs (by intro e; have := congrArg List.length e; rw [List.length_drop] at this; simp at this; omega)]; rfl
theorem ReadU.done {m O : List UInt8} (h : ReadU m m.length O) : unqW m = some O := by
  rw [h.2.2, List.drop_eq_nil_of_le (Nat.le_refl _), unqW_nil]; simp
def unqR (m : List UInt8) : List UInt8 × Int := match unqW m with | none => ([], 3) | some o => if 64 < o.length then ([], 9) else (o, 0)
theorem unqQ_bad {l : List UInt8} (h : l.length < 2 ∨ l.head? ≠ some 34 ∨ l.getLast? ≠ some 34) : unqQ l = ([], 3) := by unfold unqQ; rw [if_pos h]
theorem unqQ_mid {l : List UInt8} (h : ¬ (l.length < 2 ∨ l.head? ≠ some 34 ∨ l.getLast? ≠ some 34)) : unqQ l = unqR ((l.drop 1).take (l.length - 2)) := by
  unfold unqQ unqR
  rw [if_neg h]
  have h2 : ¬ l.length < 2 := fun h3 => h (.inl h3)
  rw [unqG_fuel l.length (((l.drop 1).take (l.length - 2)).length + 1) _ (by rw [List.length_take, List.length_drop]; omega) (by omega)]
  rfl
end Go.Proofs.YtjlpekjfmgcbdaaGreatDoor

/- Contract of qlex's Unquote: the walk. -/
set_option linter.unusedVariables false
set_option linter.unusedSimpArgs false
namespace Go.Proofs.YtjlpekjfmgcbdaaGreatDoor
open Go.RowKit Go.Shelf
theorem drop_one {m : List UInt8} {i : Nat} (h : i < m.length) : m.drop i = m[i] :: m.drop (i + 1) := List.drop_eq_getElem_cons h
theorem headQ {l : List UInt8} (h : 0 < l.length) : l.head? = some l[0] := by
  cases l with
  | nil => cases h
  | cons a t => rfl
theorem stepU_bad {c : UInt8} {t : List UInt8} (h : c.toNat < 32 ∨ 126 < c.toNat ∨ c = 34) : stepU (c :: t) = none := by
  simp only [stepU]; rw [if_pos]; exact decide_eq_true h
theorem stepU_pl {c : UInt8} {t : List UInt8} (h1 : 32 ≤ c.toNat) (h2 : c.toNat ≤ 126) (h3 : c ≠ 34) (h4 : c ≠ 92) : stepU (c :: t) = some (c, 1) := by
  simp only [stepU]; rw [if_neg, if_neg h4]
  intro h
  rcases of_decide_eq_true h with h | h | h
  · omega
  · omega
  · exact h3 h
theorem stepU_esc {t : List UInt8} : stepU (92 :: t) = stepE t := by
  simp only [stepU]; rw [if_neg (by decide), if_pos trivial]
theorem hex_sum {x y : Int} (h1 : 0 ≤ x) (h2 : x ≤ 15) (h3 : 0 ≤ y) (h4 : y ≤ 15) : ((UInt8.ofNat (16 * x + y).toNat).toNat : Int) = 16 * x + y := by rw [UInt8.toNat_ofNat']; omega
theorem own_sl {w : World} {B : Nat} {u : Value} {l : List UInt8} (h : w.ownsRow B 5 1 u l.length (Lib.byteCells l)) : ∃ A cap, u = .slice A l.length cap := by
  obtain ⟨_, h2⟩ := h
  rcases h2 with ⟨rfl, h0⟩ | ⟨g, cap, cs, rfl, _⟩
  · exact ⟨none, 0, by rw [h0]⟩
  · exact ⟨_, cap, rfl⟩
set_option maxRecDepth 100000 in
set_option maxHeartbeats 8000000 in
theorem unquoteQl_any (l : List UInt8) (w : World) (hl : l.length ≤ 1000000) :
    Calls Tryz.prog 15 #[.string (bsQ l)] w fun e w' => e = .returned (.tuple #[.string (bsQ (unqQ l).1), .int .i64 (unqQ l).2]) ∧ Below w.heap.size w w' := by
  have hz := bsQ_size l
  have hg : ∀ (i : Nat) (h : i < (bsQ l).size) (h2 : i < l.length), (bsQ l)[i]'h = l[i] := fun i h h2 => bsQ_get l i h
  by_cases h0 : l.length < 2
  · have HV := hide (unqQ_bad (l := l) (.inl h0))
    have q1 : ((bsQ l).size : Int) < 2 := by omega
    generalize bsQ l = s at *
    clear hz hg h0
    go_enter Tryz.func15, Tryz.ntmps15
    go_wp2
    go_ret2
    exact ⟨(by rw [HV.out]; rfl), Below.refl _ _⟩
  have q1 : ¬ ((bsQ l).size : Int) < 2 := by omega
  have hs0 : 0 < (bsQ l).size := by omega
  have hl0 : 0 < l.length := by omega
  obtain ⟨a, ha⟩ : ∃ a, l[0]'hl0 = a := ⟨_, rfl⟩
  have hsa : (bsQ l)[0]'hs0 = a := by rw [hg 0 hs0 hl0, ha]
  have hla : l.head? = some a := by rw [headQ hl0, ha]
  by_cases h1 : a = 34
  rotate_left
  · have HV := hide (unqQ_bad (l := l) (.inr (.inl (by rw [hla]; intro e; exact h1 (Option.some.inj e)))))
    have e1 : ((a.toNat : Int) == 34) = false := toNat_neQ (d := 34) h1
    have e2 : ((a.toNat : Int) != 34) = true := by rw [bne, e1]; rfl
    generalize bsQ l = s at *
    clear hz hg h0 h1 ha hla
    go_enter Tryz.func15, Tryz.ntmps15
    go_wp2
    go_ret2
    exact ⟨(by rw [HV.out]; rfl), Below.refl _ _⟩
  subst h1
  have hs1 : (bsQ l).size - 1 < (bsQ l).size := by omega
  have hl1 : l.length - 1 < l.length := by omega
  obtain ⟨z, hzz⟩ : ∃ z, l[l.length - 1]'hl1 = z := ⟨_, rfl⟩
  have hsz : (bsQ l)[(bsQ l).size - 1]'hs1 = z := by rw [hg _ hs1 (by omega)]; simp only [hz]; exact hzz
  have hlz : l.getLast? = some z := by rw [List.getLast?_eq_getElem?, List.getElem?_eq_getElem hl1, hzz]
  have k1 : (0 : Int) ≤ ((bsQ l).size : Int) - 1 := by omega
  have k2 : ((bsQ l).size : Int) - 1 < ((bsQ l).size : Int) := by omega
  have k3 : (((bsQ l).size : Int) - 1).toNat = (bsQ l).size - 1 := by omega
  have k4 : (1 : Int) ≤ ((bsQ l).size : Int) - 1 := by omega
  have k5 : ((bsQ l).size : Int) - 1 ≤ ((bsQ l).size : Int) := by omega
  have k6 : ((bsQ l).size : Int) ≤ 1000000 := by omega
  by_cases h2 : z = 34
  rotate_left
  · have HV := hide (unqQ_bad (l := l) (.inr (.inr (by rw [hlz]; intro e; exact h2 (Option.some.inj e)))))
    have e1 : ((z.toNat : Int) == 34) = false := toNat_neQ (d := 34) h2
    have e2 : ((z.toNat : Int) != 34) = true := by rw [bne, e1]; rfl
    generalize bsQ l = s at *
    clear hz hg h0 h2 hzz hlz ha hla
    go_enter Tryz.func15, Tryz.ntmps15
    go_wp2
    go_ret2
    exact ⟨(by rw [HV.out]; rfl), Below.refl _ _⟩
  subst h2
  have hmid := unqQ_mid (l := l) (by
    rintro (h | h | h)
    · exact h0 h
    · rw [hla] at h; exact h rfl
    · rw [hlz] at h; exact h rfl)
  obtain ⟨m, hm⟩ : ∃ m, (l.drop 1).take (l.length - 2) = m := ⟨_, rfl⟩
  rw [hm] at hmid
  have x1 : (bsQ l).extract 1 ((bsQ l).size - 1) = bsQ m := by rw [bsQ_mid, hz, ← hm, show l.length - 1 - 1 = l.length - 2 by omega]
  have hml : m.length ≤ 1000000 := by rw [← hm, List.length_take]; omega
  have HV := hide hmid
  clear hzz ha hla hlz hm hmid
  generalize bsQ l = s at *
  have hmz := bsQ_size m
  have hg2 : ∀ (i : Nat) (h : i < (bsQ m).size) (h2 : i < m.length), (bsQ m)[i]'h = m[i] := fun i h h2 => bsQ_get m i h
  generalize bsQ m = t at *
  have Hmz := hide hmz
  have Hg2 := hide hg2
  have HX := hide hexQ_any
  have HRg := hide hexQ_range
  clear hg2 hmz hz hg
  go_enter Tryz.func15, Tryz.ntmps15
  go_wp2_with fail
  go_loopw [5, 6] (fun u v wr => ∃ (i : Nat) (O : List UInt8), v = .int .i64 (i : Int) ∧ ReadU m i O ∧ wr.ownsRow w.heap.size 5 1 u O.length (Lib.byteCells O) ∧ Below w.heap.size w wr) (fun _ v _ => m.length - (intOf v).toNat)
  case atStart => exact ⟨0, [], rfl, ReadU.zero m, World.ownsRow_nil _ _ _ _, Below.refl _ _⟩
  case round =>
    obtain ⟨i, O, rfl, hrd, hown, hbr⟩ := hrel
    have Hrd := hide hrd
    have Hown := hide hown
    have Hbr := hide hbr
    have Hz := hide hbr.size
    have hle := hrd.1
    have hol := hrd.2.1
    clear hrd hown hbr
    by_cases hi : i < m.length
    · have hit : i < t.size := by have := Hmz.out; omega
      have hi' : (i : Int) < (t.size : Int) := by omega
      have hi0 : (0 : Int) ≤ (i : Int) := by omega
      have hw1 : IntKind.i64.wrap ((i : Int) + 1) = (i : Int) + 1 := IntWalk.i64_in _ (by omega)
      obtain ⟨c, hc⟩ : ∃ c, m[i]'hi = c := ⟨_, rfl⟩
      have hsc : t[i]'hit = c := by rw [Hg2.out i hit hi, hc]
      have d0 := drop_one hi
      rw [hc] at d0
      by_cases c1 : c.toNat < 32
      · have p1 : (c.toNat : Int) < 32 := by omega
        have Hst := hide (show unqQ l = ([], 3) by rw [HV.out]; unfold unqR; rw [Hrd.out.stop hi (by rw [d0]; exact stepU_bad (.inl c1))])
        clear c1 d0 hc
        go_wp2
        go_ret2
        exact ⟨(by rw [Hst.out]; rfl), Hbr.out⟩
      have p1 : ¬ (c.toNat : Int) < 32 := by omega
      by_cases c2 : 126 < c.toNat
      · have p2 : (126 : Int) < (c.toNat : Int) := by omega
        have Hst := hide (show unqQ l = ([], 3) by rw [HV.out]; unfold unqR; rw [Hrd.out.stop hi (by rw [d0]; exact stepU_bad (.inr (.inl c2)))])
        clear c1 c2 d0 hc
        go_wp2
        go_ret2
        exact ⟨(by rw [Hst.out]; rfl), Hbr.out⟩
      have p2 : ¬ (126 : Int) < (c.toNat : Int) := by omega
      by_cases c3 : c = 34
      · subst c3
        have Hst := hide (show unqQ l = ([], 3) by rw [HV.out]; unfold unqR; rw [Hrd.out.stop hi (by rw [d0]; exact stepU_bad (.inr (.inr rfl)))])
        clear c1 c2 d0 hc
        go_wp2
        go_ret2
        exact ⟨(by rw [Hst.out]; rfl), Hbr.out⟩
      have p3 : ((c.toNat : Int) == 34) = false := toNat_neQ (d := 34) c3
      by_cases c4 : c = 92
      rotate_left
      · have p4 : ((c.toNat : Int) == 92) = false := toNat_neQ (d := 92) c4
        have p5 : ((c.toNat : Int) != 92) = true := by rw [bne, p4]; rfl
        have Hrd2 := hide (Hrd.out.step (c := c) (n := 1) (by rw [d0]; exact stepU_pl (by omega) (by omega) c3 c4))
        clear c1 c2 c3 c4 d0 hc
        go_wp2_with (at_builtin; have hown9 := Hown.out.alloc (.cells #[.int .u8 (c.toNat : Int)] 5); refine wpList_append_at _ rfl _ _ 51 rfl w.heap.size 5 infoByteQ Tryz.underlying51 rfl (by decide) u5 O.length (Lib.byteCells O) rfl hown9 ⟨wr.heap.size, 0, none⟩ 1 1 [.int .u8 (c.toNat : Int)] rfl rfl (cells_new _ _ rfl) (by intro u hu; simp only [List.mem_cons, List.not_mem_nil, or_false] at hu; rcases hu with rfl; rfl) (by unfold maxLen; omega) (by omega) (by rw [World.size_alloc]; exact Nat.le_succ_of_le Hz.out) ?_; intro v' w4 hown4 hgrow4 _ _)
        have HO4 := hide hown4
        have HG4 := hide hgrow4
        have HO9 := hide hown9
        clear hown4 hgrow4 hown9
        go_roundw
        case rel => exact ⟨i + 1, O ++ [c], by go_num, Hrd2.out, by rw [List.length_append, ← byteCells_snoc]; exact HO4.out, (Hbr.out.alloc Hz.out _).grown HG4.out (by rw [World.size_alloc]; exact Nat.le_succ_of_le Hz.out) (fun j hj => (HO9.out.lt j hj).1)⟩
        case measure => simp [intOf]; omega
      subst c4
      rw [d0.trans rfl] at d0
      have d0 : m.drop i = 92 :: m.drop (i + 1) := drop_one hi |>.trans (by rw [hc])
      clear c1 c2 c3 p1 p2 p3
      by_cases z1 : i + 1 < m.length
      rotate_left
      · have k1' : ¬ (i : Int) + 1 < (t.size : Int) := by have := Hmz.out; omega
        have k3' : ¬ (i : Int) + 3 < (t.size : Int) := by omega
        have Hst := hide (show unqQ l = ([], 3) by rw [HV.out]; unfold unqR; rw [Hrd.out.stop hi (by rw [d0, stepU_esc, List.drop_eq_nil_of_le (by omega)]; rfl)])
        clear d0 hc
        go_wp2
        go_ret2
        exact ⟨(by rw [Hst.out]; rfl), Hbr.out⟩
      have z1t : i + 1 < t.size := by have := Hmz.out; omega
      have y1 : (i : Int) + 1 < (t.size : Int) := by omega
      have y0 : (0 : Int) ≤ (i : Int) + 1 := by omega
      have s1 : ((i : Int) + 1).toNat = i + 1 := by omega
      obtain ⟨d, hd⟩ : ∃ d, m[i + 1]'z1 = d := ⟨_, rfl⟩
      have hsd : t[i + 1]'z1t = d := by rw [Hg2.out (i + 1) z1t z1, hd]
      have d1 := drop_one z1
      rw [hd] at d1
      by_cases c5 : d = 34
      · subst c5
        have Hrd2 := hide (Hrd.out.step (c := 34) (n := 2) (by rw [d0, stepU_esc, d1]; rfl))
        clear d0 hc d1 hd
        go_wp2_with (at_builtin; have hown9 := Hown.out.alloc (.cells #[.int .u8 34] 5); refine wpList_append_at _ rfl _ _ 51 rfl w.heap.size 5 infoByteQ Tryz.underlying51 rfl (by decide) u5 O.length (Lib.byteCells O) rfl hown9 ⟨wr.heap.size, 0, none⟩ 1 1 [.int .u8 34] rfl rfl (cells_new _ _ rfl) (by intro u hu; simp only [List.mem_cons, List.not_mem_nil, or_false] at hu; rcases hu with rfl; rfl) (by unfold maxLen; omega) (by omega) (by rw [World.size_alloc]; exact Nat.le_succ_of_le Hz.out) ?_; intro v' w4 hown4 hgrow4 _ _)
        have HO4 := hide hown4
        have HG4 := hide hgrow4
        have HO9 := hide hown9
        clear hown4 hgrow4 hown9
        go_roundw
        case rel => exact ⟨i + 2, O ++ [34], by go_num, Hrd2.out, by rw [List.length_append, ← byteCells_snoc]; exact HO4.out, (Hbr.out.alloc Hz.out _).grown HG4.out (by rw [World.size_alloc]; exact Nat.le_succ_of_le Hz.out) (fun j hj => (HO9.out.lt j hj).1)⟩
        case measure => simp [intOf]; omega
      have p5 : ((d.toNat : Int) == 34) = false := toNat_neQ (d := 34) c5
      by_cases c6 : d = 92
      · subst c6
        have Hrd2 := hide (Hrd.out.step (c := 92) (n := 2) (by rw [d0, stepU_esc, d1]; rfl))
        clear d0 hc d1 hd
        go_wp2_with (at_builtin; have hown9 := Hown.out.alloc (.cells #[.int .u8 92] 5); refine wpList_append_at _ rfl _ _ 51 rfl w.heap.size 5 infoByteQ Tryz.underlying51 rfl (by decide) u5 O.length (Lib.byteCells O) rfl hown9 ⟨wr.heap.size, 0, none⟩ 1 1 [.int .u8 92] rfl rfl (cells_new _ _ rfl) (by intro u hu; simp only [List.mem_cons, List.not_mem_nil, or_false] at hu; rcases hu with rfl; rfl) (by unfold maxLen; omega) (by omega) (by rw [World.size_alloc]; exact Nat.le_succ_of_le Hz.out) ?_; intro v' w4 hown4 hgrow4 _ _)
        have HO4 := hide hown4
        have HG4 := hide hgrow4
        have HO9 := hide hown9
        clear hown4 hgrow4 hown9
        go_roundw
        case rel => exact ⟨i + 2, O ++ [92], by go_num, Hrd2.out, by rw [List.length_append, ← byteCells_snoc]; exact HO4.out, (Hbr.out.alloc Hz.out _).grown HG4.out (by rw [World.size_alloc]; exact Nat.le_succ_of_le Hz.out) (fun j hj => (HO9.out.lt j hj).1)⟩
        case measure => simp [intOf]; omega
      have p6 : ((d.toNat : Int) == 92) = false := toNat_neQ (d := 92) c6
      have c56 : ¬ (d = 34 ∨ d = 92) := by rintro (h | h); exact c5 h; exact c6 h
      by_cases z3 : i + 3 < m.length
      rotate_left
      · have k3' : ¬ (i : Int) + 3 < (t.size : Int) := by have := Hmz.out; omega
        have Hst := hide (show unqQ l = ([], 3) by
          rw [HV.out]; unfold unqR
          rw [Hrd.out.stop hi (by
            rw [d0, stepU_esc, d1]
            simp only [stepE]
            rw [if_neg c56]
            split
            · split
              · next x y q e =>
                have := congrArg List.length e
                rw [List.length_drop] at this
                simp at this; omega
              · rfl
            · rfl)])
        clear d0 hc d1 hd c5 c6 c56
        go_wp2
        go_ret2
        exact ⟨(by rw [Hst.out]; rfl), Hbr.out⟩
      have y3 : (i : Int) + 3 < (t.size : Int) := by have := Hmz.out; omega
      have z2 : i + 2 < m.length := by omega
      have z2t : i + 2 < t.size := by omega
      have z3t : i + 3 < t.size := by omega
      have y2 : (i : Int) + 2 < (t.size : Int) := by omega
      have y02 : (0 : Int) ≤ (i : Int) + 2 := by omega
      have y03 : (0 : Int) ≤ (i : Int) + 3 := by omega
      have s2 : ((i : Int) + 2).toNat = i + 2 := by omega
      have s3 : ((i : Int) + 3).toNat = i + 3 := by omega
      obtain ⟨x, hx⟩ : ∃ x, m[i + 2]'z2 = x := ⟨_, rfl⟩
      obtain ⟨y, hy⟩ : ∃ y, m[i + 3]'z3 = y := ⟨_, rfl⟩
      have hsx : t[i + 2]'z2t = x := by rw [Hg2.out (i + 2) z2t z2, hx]
      have hsy : t[i + 3]'z3t = y := by rw [Hg2.out (i + 3) z3t z3, hy]
      have d2 := drop_one z2
      have d3 := drop_one z3
      rw [hx] at d2
      rw [hy] at d3
      have d4 : m.drop i = 92 :: d :: x :: y :: m.drop (i + 4) := by rw [d0, d1, d2, d3]
      clear hx hy hd hc d0 d1 d2 d3
      by_cases c7 : d = 120
      rotate_left
      · have p7 : ((d.toNat : Int) == 120) = false := toNat_neQ (d := 120) c7
        have Hst := hide (show unqQ l = ([], 3) by rw [HV.out]; unfold unqR; rw [Hrd.out.stop hi (by rw [d4, stepU_esc]; simp only [stepE]; rw [if_neg c56, if_neg c7])])
        clear d4 c5 c6 c56 c7
        go_wp2
        go_ret2
        exact ⟨(by rw [Hst.out]; rfl), Hbr.out⟩
      subst c7
      have I2 := hide (HX.out x)
      have I3 := hide (HX.out y)
      have g2 := HRg.out x
      have g3 := HRg.out y
      by_cases h2 : 0 ≤ hexQ x
      rotate_left
      · have Hst := hide (show unqQ l = ([], 3) by rw [HV.out]; unfold unqR; rw [Hrd.out.stop hi (by rw [d4, stepU_esc]; simp only [stepE]; rw [if_neg c56, if_pos trivial, if_neg (fun h => h2 h.1)])])
        clear d4 c5 c6 c56
        generalize hexQ x = hxx at *
        go_wp2_with fail
        refine (I2.out _).mono ?_
        rintro e w1 ⟨rfl, rfl⟩
        go_wp2
        go_ret2
        exact ⟨(by rw [Hst.out]; rfl), Hbr.out⟩
      by_cases h3 : 0 ≤ hexQ y
      rotate_left
      · have Hst := hide (show unqQ l = ([], 3) by rw [HV.out]; unfold unqR; rw [Hrd.out.stop hi (by rw [d4, stepU_esc]; simp only [stepE]; rw [if_neg c56, if_pos trivial, if_neg (fun h => h3 h.2)])])
        clear d4 c5 c6 c56
        generalize hexQ x = hxx at *
        generalize hexQ y = hyy at *
        go_wp2_with fail
        refine (I2.out _).mono ?_
        rintro e w1 ⟨rfl, rfl⟩
        go_wp2_with fail
        refine (I3.out _).mono ?_
        rintro e w1 ⟨rfl, rfl⟩
        go_wp2
        go_ret2
        exact ⟨(by rw [Hst.out]; rfl), Hbr.out⟩
      have HN := hide (hex_sum h2 g2.2 h3 g3.2)
      have Hrd2 := hide (Hrd.out.step (c := UInt8.ofNat (16 * hexQ x + hexQ y).toNat) (n := 4) (by rw [d4, stepU_esc]; simp only [stepE]; rw [if_neg c56, if_pos trivial, if_pos ⟨h2, h3⟩]))
      clear d4 c5 c6 c56
      obtain ⟨cc, hcc⟩ : ∃ cc, UInt8.ofNat (16 * hexQ x + hexQ y).toNat = cc := ⟨_, rfl⟩
      rw [hcc] at HN Hrd2
      clear hcc
      generalize hexQ x = x1 at *
      generalize hexQ y = y1' at *
      obtain ⟨iu, hi1, hi2, hi3, hi4⟩ := infoQ_parts infoByteQ
      have HI1 := hide hi1
      have HI2 := hide hi2
      have HI3 := hide hi3
      have HI4 := hide hi4
      clear hi1 hi2 hi3 hi4
      have t1 : O.length + 1 ≤ maxLen := by unfold maxLen; omega
      have t2 : (O.length + 1) * 1 ≤ 140737488355328 := by omega
      have t3 : w.heap.size ≤ wr.heap.size + 1 := Nat.le_succ_of_le Hz.out
      have t4 : ∀ u ∈ [Value.int .u8 (16 * x1 + y1')], u.oneCell' = true := by intro u hu; simp only [List.mem_cons, List.not_mem_nil, or_false] at hu; rcases hu with rfl; rfl
      have t6 : (wr.alloc (.cells #[.int .u8 (16 * x1 + y1')] 5)).drew.heap.size = wr.heap.size + 1 := World.size_alloc _ _
      have t5 : w.heap.size ≤ (wr.alloc (.cells #[.int .u8 (16 * x1 + y1')] 5)).drew.heap.size := by rw [t6]; exact t3
      have s12 : IntKind.i64.wrap ((i : Int) + 2) = (i : Int) + 2 := IntWalk.i64_in _ (by omega)
      have s13 : IntKind.i64.wrap ((i : Int) + 3) = (i : Int) + 3 := IntWalk.i64_in _ (by omega)
      have s14 : IntKind.i64.wrap (16 * x1) = 16 * x1 := IntWalk.i64_in _ (by omega)
      have s15 : IntKind.i64.wrap (16 * x1 + y1') = 16 * x1 + y1' := IntWalk.i64_in _ (by omega)
      have s16 : IntKind.u8.wrap (16 * x1 + y1') = 16 * x1 + y1' := by rw [IntKind.wrap_u8]; omega
      have T1 := hide t1
      have T2 := hide t2
      have T4 := hide t4
      have T5 := hide t5
      have T6 := hide t6
      clear t1 t2 t3 t4 t5 t6
      go_wp2_with fail
      refine (I2.out _).mono ?_
      rintro e w1 ⟨rfl, rfl⟩
      go_wp2_with fail
      refine (I3.out _).mono ?_
      rintro e w3 ⟨rfl, rfl⟩
      go_wp2_with fail
      go_region_held3 (fun _ => True) (exact trivial) (first | (go_at_call 46; ((with_reducible refine (I2.out _).mono ?_); rintro e w' ⟨rfl, rfl⟩)) | (go_at_call 46; ((with_reducible refine (I3.out _).mono ?_); rintro e w' ⟨rfl, rfl⟩)) | (refine step_append_lies _ rfl _ _ 51 rfl w.heap.size 5 iu _ 1 1 Tryz.underlying51 HI1.out HI2.out HI3.out HI4.out rfl Nat.one_pos u5 O.length (Lib.byteCells O) rfl ((Hown.out.alloc _).drew) ⟨w3.heap.size, 0, none⟩ 1 1 [.int .u8 (16 * x1 + y1')] rfl rfl (World.news_of_block (cs := #[.int .u8 (16 * x1 + y1')]) (t := 5) (fr := (0, 0)) (heap_alloc_new w3 _)) T4.out Nat.one_pos T1.out T2.out T5.out (w3.heap.size + 1) T6.out ?_; intro g4 cap4 w4 hown4 hgrow4 hat4 hlt4))
      all_goals
        go_wp2
        have HO4 := hide hown4
        have HG4 := hide hgrow4
        clear hown4 hgrow4
        go_roundw
        case rel => exact ⟨i + 4, O ++ [cc], by go_num, Hrd2.out, by rw [List.length_append, ← byteCells_snoc, HN.out]; exact HO4.out, ((Hbr.out.alloc Hz.out _).drew).grown HG4.out (by simp; have := Hz.out; omega) (fun j hj => (Hown.out.lt j hj).1)⟩
        case measure => simp [intOf]; omega
    · obtain rfl : i = m.length := Nat.le_antisymm hle (Nat.le_of_not_lt hi)
      have hi' : ¬ (m.length : Int) < (t.size : Int) := by have := Hmz.out; omega
      have HR := hide (show unqQ l = if 64 < O.length then ([], 9) else (O, 0) by rw [HV.out]; unfold unqR; rw [Hrd.out.done])
      obtain ⟨A, cap, rfl⟩ := own_sl Hown.out
      have hcv : ∀ h : O.length ≤ 64, (convert 51 9 (.slice A O.length cap)).run Tryz.prog wr = .ok (.string (bsQ O)) wr := fun _ => run_string_own (src := 51) (dst := 9) Tryz.underlying51 Tryz.underlying5 Tryz.underlying9 Hown.out
      clear hi
      by_cases hbig : 64 < O.length
      · have b1 : (64 : Int) < (O.length : Int) := by omega
        have Hst := hide (show unqQ l = ([], 9) by rw [HR.out, if_pos hbig])
        clear hcv hbig
        go_wp2
        go_ret2
        exact ⟨(by rw [Hst.out]; rfl), Hbr.out⟩
      · have b1 : ¬ (64 : Int) < (O.length : Int) := by omega
        have Hst := hide (show unqQ l = (O, 0) by rw [HR.out, if_neg hbig])
        have hcv := hcv (by omega)
        clear hbig
        go_wp2
        go_ret2
        exact ⟨(by rw [Hst.out]; rfl), Hbr.out⟩
end Go.Proofs.YtjlpekjfmgcbdaaGreatDoor

/- Contract of qlex's quoted. -/
set_option linter.unusedVariables false
set_option linter.unusedSimpArgs false
namespace Go.Proofs.YtjlpekjfmgcbdaaGreatDoor
open Go.RowKit Go.Shelf
theorem closeF_fuel : ∀ (n m : Nat) (l : List UInt8), l.length ≤ n → l.length ≤ m → closeF n l = closeF m l
  | 0, m, l, hn, _ => by
    have : l = [] := List.length_eq_zero_iff.1 (by omega)
    subst this; cases m <;> rfl
  | n + 1, 0, l, _, hm => by
    have : l = [] := List.length_eq_zero_iff.1 (by omega)
    subst this; rfl
  | n + 1, m + 1, [], _, _ => rfl
  | n + 1, m + 1, c :: t, hn, hm => by
    rw [List.length_cons] at hn hm
    simp only [closeF]
    rw [closeF_fuel n m t (by omega) (by omega), closeF_fuel n m (t.drop 1) (by rw [List.length_drop]; omega) (by rw [List.length_drop]; omega)]
def closeW (l : List UInt8) : Nat := closeF l.length l
theorem closeW_nil : closeW [] = 0 := rfl
theorem closeW_end (t : List UInt8) : closeW (34 :: t) = 0 := by
  unfold closeW; rw [List.length_cons]; simp only [closeF]; rw [if_pos trivial]
theorem closeW_esc (t : List UInt8) : closeW (92 :: t) = closeW (t.drop 1) + 2 := by
  unfold closeW; rw [List.length_cons]; simp only [closeF]; rw [if_neg (by decide), if_pos trivial, closeF_fuel t.length (t.drop 1).length _ (by rw [List.length_drop]; omega) (Nat.le_refl _)]
theorem closeW_pl {c : UInt8} (t : List UInt8) (h1 : c ≠ 34) (h2 : c ≠ 92) : closeW (c :: t) = closeW t + 1 := by
  unfold closeW; rw [List.length_cons]; simp only [closeF]; rw [if_neg h1, if_neg h2]
theorem closeW_le : ∀ (n : Nat) (l : List UInt8), l.length ≤ n → closeW l ≤ l.length + 1
  | 0, l, h => by
    have : l = [] := List.length_eq_zero_iff.1 (by omega)
    subst this; exact Nat.zero_le _
  | n + 1, [], _ => Nat.zero_le _
  | n + 1, c :: t, h => by
    rw [List.length_cons] at h ⊢
    by_cases h1 : c = 34
    · subst h1; rw [closeW_end]; omega
    · by_cases h2 : c = 92
      · subst h2
        rw [closeW_esc]
        cases t with
        | nil => show closeW [] + 2 ≤ 2; rw [closeW_nil]; omega
        | cons d r =>
          show closeW r + 2 ≤ _
          rw [List.length_cons] at h ⊢
          have := closeW_le n r (by omega)
          omega
      · rw [closeW_pl t h1 h2]
        have := closeW_le n t (by omega)
        omega
def quotedW (l : List UInt8) (E : Nat) : Wq := if l.length ≤ E then wrongQ 3 else ⟨5, (unqQ (l.take (E + 1))).1, E + 1, (unqQ (l.take (E + 1))).2⟩
theorem quotedQ_eq (l : List UInt8) : quotedQ l = quotedW l (1 + closeW (l.drop 1)) := by
  unfold quotedQ quotedW
  rw [closeF_fuel l.length (l.drop 1).length (l.drop 1) (by rw [List.length_drop]; omega) (Nat.le_refl _)]
  show (if l.length ≤ 1 + closeW (l.drop 1) then _ else _) = _
  rw [show closeF (l.drop 1).length (l.drop 1) = closeW (l.drop 1) from rfl, show closeW (l.drop 1) + 2 = 1 + closeW (l.drop 1) + 1 by omega]
set_option maxRecDepth 20000 in
set_option maxHeartbeats 8000000 in
theorem quotedQl_any (l : List UInt8) (w : World) (hl : l.length ≤ 50000) :
    Calls Tryz.prog 83 #[.string (bsQ l)] w fun e w' => e = .returned (wordV (quotedQ l)) ∧ Below w.heap.size w w' := by
  have hz := bsQ_size l
  have hg : ∀ (i : Nat) (h : i < (bsQ l).size) (h2 : i < l.length), (bsQ l)[i]'h = l[i] := fun i h h2 => bsQ_get l i h
  obtain ⟨E, hE⟩ : ∃ E, 1 + closeW (l.drop 1) = E := ⟨_, rfl⟩
  have hpq : quotedQ l = quotedW l E := by rw [quotedQ_eq, hE]
  have HE := hide hE
  have HPQ := hide hpq
  have hEl : E ≤ l.length + 2 := by rw [← hE]; have := closeW_le _ (l.drop 1) (Nat.le_refl _); rw [List.length_drop] at this; omega
  have x1 : (bsQ l).extract 0 (E + 1) = bsQ (l.take (E + 1)) := bsQ_take l (E + 1)
  have HX1 := hide x1
  have UN := hide (fun W : World => unquoteQl_any (l.take (E + 1)) W (by rw [List.length_take]; omega))
  clear hE hpq x1
  generalize bsQ l = s at *
  have Hz := hide hz
  have Hg := hide hg
  clear hz hg
  go_enter Tryz.func83, Tryz.ntmps83
  go_upto_region 1 with fail
  obtain ⟨W1, hW1⟩ : ∃ W1, w.alloc (.cells #[.int .i64 0, .string ⟨#[]⟩, .int .i64 0, .int .i64 0, .int .i64 0] 44) = W1 := ⟨_, rfl⟩
  rw [hW1]
  have HB := hide (show Below w.heap.size w W1 by rw [← hW1]; exact (Below.refl _ _).alloc (Nat.le_refl _) _)
  have HR := hide (show ZW W1 w.heap.size by rw [← hW1]; exact Row.new _ _ _)
  clear hW1
  obtain ⟨g, hgg⟩ : ∃ g, w.heap.size = g := ⟨_, rfl⟩
  rw [hgg] at HR
  rw [hgg]
  have Hgg := hide hgg
  clear hgg
  go_wp2_with fail
  go_loop [3] (fun v => ∃ i : Nat, v = .int .i64 (i : Int) ∧ i ≤ l.length + 1 ∧ i + closeW (l.drop i) = E) (fun v => l.length + 2 - (intOf v).toNat)
  case atStart => exact ⟨1, rfl, by omega, HE.out⟩
  case round =>
    obtain ⟨i, rfl, hi, hiE⟩ := hrel
    have HiE := hide hiE
    clear hiE
    by_cases hlt : i < l.length
    · have his : i < s.size := by have := Hz.out; omega
      have hi' : (i : Int) < (s.size : Int) := by omega
      have hi0 : (0 : Int) ≤ (i : Int) := by omega
      obtain ⟨c, hc⟩ : ∃ c, l[i]'hlt = c := ⟨_, rfl⟩
      have hsc : s[i]'his = c := by rw [Hg.out i his hlt, hc]
      have hdr := drop_one hlt
      rw [hc] at hdr
      have HDr := hide hdr
      clear hc hdr
      have hw1 : IntKind.i64.wrap ((i : Int) + 1) = (i : Int) + 1 := IntWalk.i64_in _ (by omega)
      by_cases c1 : c = 34
      · subst c1
        have hEi : i = E := by have := HiE.out; rw [HDr.out, closeW_end] at this; omega
        subst hEi
        have hV := HPQ.out
        unfold quotedW at hV
        rw [if_neg (by omega)] at hV
        obtain ⟨⟨t, er⟩, hu⟩ : ∃ p, unqQ (l.take (i + 1)) = p := ⟨_, rfl⟩
        rw [hu] at hV UN
        have HV := hide hV
        have x1 := HX1.out
        have hge : ¬ (s.size : Int) ≤ (i : Int) := by omega
        have hsl : ((i : Int) + 1).toNat = i + 1 := by omega
        clear hV hu
        generalize bsQ (l.take (i + 1)) = sp at *
        go_wp2_with fail
        refine (UN.out _).mono ?_
        rintro e w9 ⟨rfl, hb9⟩
        have r9 : ZW w9 g := HR.out.below hb9 HR.out.lt
        have B9 := hide (HB.out.trans (hb9.mono HB.out.size))
        have R9 := hide r9
        have c0 := r9.cell 0
        have c1 := r9.cell 1
        have c2 := r9.cell 2
        have c3 := r9.cell 3
        have c4 := r9.cell 4
        have f0 := r9.frozen 0
        have f1 := r9.frozen 1
        have f2 := r9.frozen 2
        have f3 := r9.frozen 3
        have f4 := r9.frozen 4
        clear r9 hb9
        go_wp2
        refine bodyPost_ret (v := .agg #[.int .i64 5, .string (bsQ t), .int .i64 0, .int .i64 ((i : Int) + 1), .int .i64 er]) (results_cellQ rfl _ _ g 44 _ _ _ rfl (R9.out.put _ _ _ _ _) Tryz.underlying44 rfl (by kernel_rfl)) rfl ?_
        rw [HV.out]
        exact ⟨rfl, below5 B9.out (Nat.le_of_eq Hgg.out) _ _ _ _ _⟩
      have e1 : ((c.toNat : Int) == 34) = false := toNat_neQ (d := 34) c1
      have e2 : ((c.toNat : Int) != 34) = true := by rw [bne, e1]; rfl
      by_cases c2 : c = 92
      · subst c2
        have HN := hide (show (i + 2) + closeW (l.drop (i + 1 + 1)) = E by rw [← HiE.out, HDr.out, closeW_esc, List.drop_drop]; omega)
        clear c1
        go_wp2
        go_round
        case rel => exact ⟨i + 2, by go_num, by omega, HN.out⟩
        case measure => simp [intOf]; omega
      · have e3 : ((c.toNat : Int) == 92) = false := toNat_neQ (d := 92) c2
        have HN := hide (show (i + 1) + closeW (l.drop (i + 1)) = E by rw [← HiE.out, HDr.out, closeW_pl _ c1 c2]; omega)
        clear c1 c2
        go_wp2
        go_round
        case rel => exact ⟨i + 1, by go_num, by omega, HN.out⟩
        case measure => simp [intOf]; omega
    · have hi' : ¬ (i : Int) < (s.size : Int) := by have := Hz.out; omega
      have hge : (s.size : Int) ≤ (i : Int) := by omega
      have hEi : i = E := by have := HiE.out; rw [List.drop_eq_nil_of_le (by omega), closeW_nil] at this; omega
      have HV := hide (show quotedQ l = wrongQ 3 by rw [HPQ.out]; unfold quotedW; rw [if_pos (by omega)])
      clear hEi
      go_wp2_with fail
      refine (wrongQ_any' 3 _).mono ?_
      rintro e w9 ⟨rfl, hb9⟩
      have r9 : ZW w9 g := HR.out.below hb9 HR.out.lt
      have B9 := hide (HB.out.trans (hb9.mono HB.out.size))
      have R9 := hide r9
      have c0 := r9.cell 0
      have c1 := r9.cell 1
      have c2 := r9.cell 2
      have c3 := r9.cell 3
      have c4 := r9.cell 4
      have f0 := r9.frozen 0
      have f1 := r9.frozen 1
      have f2 := r9.frozen 2
      have f3 := r9.frozen 3
      have f4 := r9.frozen 4
      clear r9 hb9
      go_wp2
      refine bodyPost_ret (v := .agg #[.int .i64 0, .string ⟨#[]⟩, .int .i64 0, .int .i64 0, .int .i64 3]) (results_cellQ rfl _ _ g 44 _ _ _ rfl (R9.out.put _ _ _ _ _) Tryz.underlying44 rfl (by kernel_rfl)) rfl ?_
      rw [HV.out]
      exact ⟨rfl, below5 B9.out (Nat.le_of_eq Hgg.out) _ _ _ _ _⟩
end Go.Proofs.YtjlpekjfmgcbdaaGreatDoor

/- Plain: what qlex's number and read answer. -/
set_option linter.unusedVariables false
set_option linter.unusedSimpArgs false
namespace Go.Proofs.YtjlpekjfmgcbdaaGreatDoor
open Go.RowKit Go.Shelf
/-- the length of the first of some texts that a text begins with -/
def firstU : List (List UInt8) → List UInt8 → Nat
  | [], _ => 0
  | u :: us, t => if Lib.hasPrefix t u = true then u.length else firstU us t
def unitQ (t : List UInt8) : Nat := firstU unitsQ t
/-- the end behind the fraction -/
def dotQ (l : List UInt8) (n : Nat) : Nat :=
  match l.drop n with
  | 46 :: c :: _ => if dgQ c then n + 1 + spn dgQ (l.drop (n + 1)) else n
  | _ => n
def realQ (t : List UInt8) : List UInt8 × Int := ((parseV 100000 t).1.data.toList, (parseV 100000 t).2)
def numW (l : List UInt8) (n C e2 k : Nat) : Wq :=
  if 0 < C then (if aloneQ l C then ⟨3, (bitsQ (l.take C)).1, C, (bitsQ (l.take C)).2⟩ else wrongQ 3)
  else if n < e2 then (if aloneQ l e2 then ⟨4, (realQ (l.take e2)).1, e2, (realQ (l.take e2)).2⟩ else wrongQ 3)
  else if aloneQ l (n + k) = false then wrongQ 3
  else if 15 < (stripQ (l.take n)).length then wrongQ 9
  else foundQ (if k = 0 then 1 else 2) (stripQ (l.take n) ++ (l.drop n).take k) (n + k)
def numQ (l : List UInt8) : Wq := numW l (spn dgQ l) (constQ l (spn dgQ l)) (expQ l (dotQ l (spn dgQ l))) (unitQ (l.drop (spn dgQ l)))
def dotB (l : List UInt8) (n : Nat) : Bool := match l.drop n with | 46 :: c :: _ => dgQ c | _ => false
theorem dotQ_B (l : List UInt8) (n : Nat) : dotQ l n = if dotB l n then n + 1 + spn dgQ (l.drop (n + 1)) else n := by
  unfold dotQ dotB
  split
  · next c t e => rfl
  · rfl
theorem dotB_end {l : List UInt8} {n : Nat} (h : l.length ≤ n + 1) : dotB l n = false := by
  unfold dotB
  split
  · next c t e =>
    have := congrArg List.length e
    rw [List.length_drop, List.length_cons, List.length_cons] at this
    omega
  · rfl
theorem dotB_no {l : List UInt8} {n : Nat} (h : n < l.length) (hc : l[n] ≠ 46) : dotB l n = false := by
  unfold dotB
  rw [List.drop_eq_getElem_cons h]
  split
  · next c t e => rw [List.cons.injEq] at e; exact absurd e.1 hc
  · rfl
theorem dotB_dot {l : List UInt8} {n : Nat} (h : n + 1 < l.length) (hc : l[n] = 46) : dotB l n = dgQ l[n+1] := by
  unfold dotB
  rw [dropQ_two h, hc]
  rfl
theorem dotQ_end {l : List UInt8} {n : Nat} (h : l.length ≤ n + 1) : dotQ l n = n := by
  unfold dotQ
  split
  · next c t e =>
    have := congrArg List.length e
    rw [List.length_drop, List.length_cons, List.length_cons] at this
    omega
  · rfl
theorem dotQ_no {l : List UInt8} {n : Nat} (h : n < l.length) (hc : l[n] ≠ 46) : dotQ l n = n := by
  unfold dotQ
  rw [List.drop_eq_getElem_cons h]
  split
  · next c t e => rw [List.cons.injEq] at e; exact absurd e.1 hc
  · rfl
theorem dotQ_dot {l : List UInt8} {n : Nat} (h : n + 1 < l.length) (hc : l[n] = 46) : dotQ l n = if dgQ l[n+1] then n + 1 + spn dgQ (l.drop (n + 1)) else n := by
  unfold dotQ
  rw [dropQ_two h, hc]
  rfl
theorem constQ_le (l : List UInt8) (n : Nat) : constQ l n ≤ l.length := by
  unfold constQ
  split
  · next b t e =>
    split
    · exact Nat.zero_le _
    · split
      · exact Nat.zero_le _
      · have h1 := congrArg List.length e
        rw [List.length_drop, List.length_cons, List.length_cons] at h1
        have := spn_le (ofQ (lowQ b)) t
        omega
  · exact Nat.zero_le _
theorem dotQ_le {l : List UInt8} {n : Nat} (hn : n ≤ l.length) : n ≤ dotQ l n ∧ dotQ l n ≤ l.length := by
  by_cases h1 : l.length ≤ n + 1
  · rw [dotQ_end h1]; exact ⟨Nat.le_refl _, hn⟩
  · by_cases h2 : l[n]'(by omega) = 46
    · rw [dotQ_dot (by omega) h2]
      split
      · have := spn_le dgQ (l.drop (n + 1))
        rw [List.length_drop] at this
        omega
      · exact ⟨Nat.le_refl _, hn⟩
    · rw [dotQ_no (by omega) h2]; exact ⟨Nat.le_refl _, hn⟩
theorem expQ_le {l : List UInt8} {n : Nat} (hn : n ≤ l.length) : n ≤ expQ l n ∧ expQ l n ≤ l.length := by
  by_cases h1 : l.length ≤ n
  · rw [expQ_nil h1]; exact ⟨Nat.le_refl _, hn⟩
  · by_cases h2 : lowQ (l[n]'(by omega)) = 101
    · rw [expQ_yes (by omega) h2 _ rfl]
      generalize hm : (if (l.drop (n + 1)).head? = some 43 ∨ (l.drop (n + 1)).head? = some 45 then n + 2 else n + 1) = m
      split
      · have h3 := spn_le dgQ (l.drop m)
        rw [List.length_drop] at h3
        have : n + 1 ≤ m := by rw [← hm]; split <;> omega
        omega
      · exact ⟨Nat.le_refl _, hn⟩
    · rw [expQ_no (by omega) h2]; exact ⟨Nat.le_refl _, hn⟩
theorem firstU_le : ∀ (us : List (List UInt8)) (t : List UInt8) (k : Nat), (∀ u ∈ us, u.length ≤ k) → firstU us t ≤ k ∧ firstU us t ≤ t.length
  | [], t, k, _ => ⟨Nat.zero_le _, Nat.zero_le _⟩
  | u :: us, t, k, h => by
    unfold firstU
    split
    · rename_i hp
      refine ⟨h u List.mem_cons_self, ?_⟩
      unfold Lib.hasPrefix at hp
      first
        | exact (List.isPrefixOf_iff_prefix.1 hp).length_le
        | (simp only [Bool.and_eq_true, decide_eq_true_eq, beq_iff_eq] at hp; omega)
        | skip
    · exact firstU_le us t k (fun v hv => h v (List.mem_cons_of_mem _ hv))
theorem unitQ_le (t : List UInt8) : unitQ t ≤ 2 ∧ unitQ t ≤ t.length := firstU_le unitsQ t 2 (by decide)
end Go.Proofs.YtjlpekjfmgcbdaaGreatDoor

/- Contract of qlex's number: the walk. -/
set_option linter.unusedVariables false
set_option linter.unusedSimpArgs false
namespace Go.Proofs.YtjlpekjfmgcbdaaGreatDoor
open Go.RowKit Go.Shelf
theorem bsV_eq (l : List UInt8) : bsV l = bsQ l := rfl
set_option maxRecDepth 20000 in
set_option maxHeartbeats 8000000 in
theorem numberQ_any (l : List UInt8) (w : World) (hl : l.length ≤ 50000) (hG : Gl w) :
    Calls Tryz.prog 82 #[.string (bsQ l)] w fun e w' => e = .returned (wordV (numQ l)) ∧ Below w.heap.size w w' := by
  have hz := bsQ_size l
  have hg : ∀ (i : Nat) (h : i < (bsQ l).size) (h2 : i < l.length), (bsQ l)[i]'h = l[i] := fun i h h2 => bsQ_get l i h
  obtain ⟨n, hn⟩ : ∃ n, spn dgQ l = n := ⟨_, rfl⟩
  have hnl : n ≤ l.length := by rw [← hn]; exact spn_le _ _
  have RD := hide (fun W : World => show Calls Tryz.prog 31 #[.string (bsQ l), .int .i64 0, .func (.func 32) #[] #[]] W fun e w' => e = .returned (.int .i64 (n : Int)) ∧ Below W.heap.size W w' by
    have := runDigit l 0 W (by omega) (by omega)
    rw [List.drop_zero, hn, Nat.zero_add] at this
    exact this)
  have RD1 := hide (fun W : World => show Calls Tryz.prog 31 #[.string (bsQ l), .int .i64 ((n : Int) + 1), .func (.func 32) #[] #[]] W fun e w' => e = .returned (.int .i64 ((n + 1 + spn dgQ (l.drop (n + 1)) : Nat) : Int)) ∧ Below W.heap.size W w' by
    have := runDigit l (n + 1) W (by omega) (by omega)
    rwa [show ((n + 1 : Nat) : Int) = (n : Int) + 1 by omega] at this)
  have CQ := hide (fun W : World => constQ_any l n W (by omega) (by omega))
  obtain ⟨C, hC⟩ : ∃ C, constQ l n = C := ⟨_, rfl⟩
  have hCl : C ≤ l.length := by rw [← hC]; exact constQ_le _ _
  obtain ⟨e1, he1⟩ : ∃ e1, dotQ l n = e1 := ⟨_, rfl⟩
  have he1l : n ≤ e1 ∧ e1 ≤ l.length := by rw [← he1]; exact dotQ_le hnl
  obtain ⟨e2, he2⟩ : ∃ e2, expQ l e1 = e2 := ⟨_, rfl⟩
  have he2l : e1 ≤ e2 ∧ e2 ≤ l.length := by rw [← he2]; exact expQ_le he1l.2
  have EX := hide (fun W : World => exponentQ_any l e1 W (by omega) (by omega))
  obtain ⟨k, hk⟩ : ∃ k, unitQ (l.drop n) = k := ⟨_, rfl⟩
  have hkl : k ≤ 2 ∧ n + k ≤ l.length := by rw [← hk]; have := unitQ_le (l.drop n); rw [List.length_drop] at this; omega
  have HV0 := hide (show numQ l = numW l n C e2 k by unfold numQ; rw [hn, hC, he1, he2, hk])
  have AL := hide (fun (m : Nat) (W : World) (h : m ≤ 50000) => aloneQ_any l m W (by omega) (by omega))
  have xs : ∀ m, (bsQ l).extract 0 m = bsQ (l.take m) := bsQ_take l
  have xd : (bsQ l).extract n (bsQ l).size = bsQ (l.drop n) := bsQ_drop l n
  have xm : (bsQ l).extract n (n + k) = bsQ ((l.drop n).take k) := by rw [bsQ_mid, Nat.add_sub_cancel_left]
  rw [hC] at CQ
  rw [he2] at EX
  have HXs := hide xs
  have HXd := hide xd
  have HXm := hide xm
  have He1 := hide he1
  have Hk := hide hk
  have HLD := hide (show (bsQ l).size = l.length from hz)
  clear hn hC he1 he2 hk xs xd xm
  generalize bsQ l = s at *
  have Hg := hide hg
  clear hg hz
  go_enter Tryz.func82, Tryz.ntmps82
  go_upto_region 1 with fail
  obtain ⟨W1, hW1⟩ : ∃ W1, w.alloc (.cells #[.int .i64 0, .string ⟨#[]⟩, .int .i64 0, .int .i64 0, .int .i64 0] 44) = W1 := ⟨_, rfl⟩
  rw [hW1]
  have HB0 := hide (show Below w.heap.size w W1 by rw [← hW1]; exact (Below.refl _ _).alloc (Nat.le_refl _) _)
  have HR0 := hide (show ZW W1 w.heap.size by rw [← hW1]; exact Row.new _ _ _)
  clear hW1
  obtain ⟨g, hgg⟩ : ∃ g, w.heap.size = g := ⟨_, rfl⟩
  rw [hgg] at HR0
  rw [hgg]
  have Hgg := hide hgg
  clear hgg
  go_wp2_with fail
  refine (RD.out _).mono ?_
  rintro e w1 ⟨rfl, hb⟩
  have HB1 := hide (HB0.out.trans (hb.mono HB0.out.size))
  have HR1 := hide (show ZW w1 g from HR0.out.below hb HR0.out.lt)
  clear hb
  go_wp2_with fail
  refine (CQ.out _).mono ?_
  rintro e w2 ⟨rfl, hb⟩
  have HB2 := hide (HB1.out.trans (hb.mono HB1.out.size))
  have HR2 := hide (show ZW w2 g from HR1.out.below hb HR1.out.lt)
  clear hb
  by_cases hC0 : 0 < C
  · have hC' : (0 : Int) < (C : Int) := by omega
    have hCs : (C : Int) ≤ (s.size : Int) := by have := HLD.out; omega
    cases hal : aloneQ l C with
    | false =>
      have A := hide (fun W : World => AL.out C W (by omega))
      rw [hal] at A
      have HV := hide (show numQ l = wrongQ 3 by rw [HV0.out]; unfold numW; rw [if_pos hC0, hal]; rfl)
      clear hal hC0
      go_wp2_with fail
      refine (A.out _).mono ?_
      rintro e wz ⟨rfl, rfl⟩
      go_wp2_with fail
      refine (wrongQ_any' 3 _).mono ?_
      rintro e w3 ⟨rfl, hb⟩
      have HB3 := hide (HB2.out.trans (hb.mono HB2.out.size))
      have HR3 := hide (show ZW w3 g from HR2.out.below hb HR2.out.lt)
      clear hb
      have r9 := HR3.out
      have rc0 := r9.cell 0
      have rf0 := r9.frozen 0
      have rc1 := r9.cell 1
      have rf1 := r9.frozen 1
      have rc2 := r9.cell 2
      have rf2 := r9.frozen 2
      have rc3 := r9.cell 3
      have rf3 := r9.frozen 3
      have rc4 := r9.cell 4
      have rf4 := r9.frozen 4
      clear r9
      go_wp2
      refine bodyPost_ret (v := .agg #[.int .i64 0, .string ⟨#[]⟩, .int .i64 0, .int .i64 0, .int .i64 3]) (results_cellQ rfl _ _ g 44 _ _ _ rfl (HR3.out.put _ _ _ _ _) Tryz.underlying44 rfl (by kernel_rfl)) rfl ?_
      rw [HV.out]
      exact ⟨rfl, below5 HB3.out (Nat.le_of_eq Hgg.out) _ _ _ _ _⟩
    | true =>
      have A := hide (fun W : World => AL.out C W (by omega))
      rw [hal] at A
      obtain ⟨⟨t, er⟩, hu⟩ : ∃ p, bitsQ (l.take C) = p := ⟨_, rfl⟩
      have HV := hide (show numQ l = ⟨3, t, C, er⟩ by rw [HV0.out]; unfold numW; rw [if_pos hC0, hal, if_pos rfl, hu])
      have BT := hide (fun W : World => bits48_any (l.take C) W (by rw [List.length_take]; omega))
      rw [hu] at BT
      have x1 := HXs.out C
      generalize bsQ (l.take C) = sp at *
      clear hal hC0 hu
      go_wp2_with fail
      refine (A.out _).mono ?_
      rintro e wz ⟨rfl, rfl⟩
      go_wp2_with fail
      refine (BT.out _).mono ?_
      rintro e w3 ⟨rfl, hb⟩
      have HB3 := hide (HB2.out.trans (hb.mono HB2.out.size))
      have HR3 := hide (show ZW w3 g from HR2.out.below hb HR2.out.lt)
      clear hb
      have r9 := HR3.out
      have rc0 := r9.cell 0
      have rf0 := r9.frozen 0
      have rc1 := r9.cell 1
      have rf1 := r9.frozen 1
      have rc2 := r9.cell 2
      have rf2 := r9.frozen 2
      have rc3 := r9.cell 3
      have rf3 := r9.frozen 3
      have rc4 := r9.cell 4
      have rf4 := r9.frozen 4
      clear r9
      go_wp2
      refine bodyPost_ret (v := .agg #[.int .i64 3, .string (bsQ t), .int .i64 0, .int .i64 (C : Int), .int .i64 er]) (results_cellQ rfl _ _ g 44 _ _ _ rfl (HR3.out.put _ _ _ _ _) Tryz.underlying44 rfl (by kernel_rfl)) rfl ?_
      rw [HV.out]
      exact ⟨rfl, below5 HB3.out (Nat.le_of_eq Hgg.out) _ _ _ _ _⟩
  have hC' : ¬ (0 : Int) < (C : Int) := by omega
  have HV1 := hide (show numQ l = if n < e2 then (if aloneQ l e2 then ⟨4, (realQ (l.take e2)).1, e2, (realQ (l.take e2)).2⟩ else wrongQ 3) else if aloneQ l (n + k) = false then wrongQ 3 else if 15 < (stripQ (l.take n)).length then wrongQ 9 else foundQ (if k = 0 then 1 else 2) (stripQ (l.take n) ++ (l.drop n).take k) (n + k) by rw [HV0.out]; unfold numW; rw [if_neg hC0])
  clear hC0 RD CQ HV0
  have HG2 := hide (show Gl w2 from hG.below HB2.out)
  go_upto_region 9 with fail
  obtain ⟨dt, hdt⟩ : ∃ dt, dotB l n = dt := ⟨_, rfl⟩
  have Hdt := hide hdt
  have hqB := dotQ_B l n
  rw [hdt] at hqB
  have HqB := hide hqB
  clear hdt hqB
  go_cut [56] (fun v wx => v = .bool dt ∧ wx = w2)
  case first =>
    have hw1 : IntKind.i64.wrap ((n : Int) + 1) = (n : Int) + 1 := IntWalk.i64_in _ (by omega)
    by_cases d1 : l.length ≤ n + 1
    · have q1 : ¬ (n : Int) + 1 < (s.size : Int) := by have := HLD.out; omega
      have HE := hide (show Value.bool false = .bool dt by rw [← Hdt.out, dotB_end d1])
      clear d1
      go_wp2_with fail
      go_meet
      exact ⟨HE.out, rfl⟩
    have q1 : (n : Int) + 1 < (s.size : Int) := by have := HLD.out; omega
    have q0 : (0 : Int) ≤ (n : Int) := by omega
    have q2 : (0 : Int) ≤ (n : Int) + 1 := by omega
    have q3 : ((n : Int) + 1).toNat = n + 1 := by omega
    have q4 : (n : Int) < (s.size : Int) := by omega
    have hs0 : n < s.size := by omega
    have hs1 : n + 1 < s.size := by omega
    obtain ⟨c, hc⟩ : ∃ c, l[n]'(by omega) = c := ⟨_, rfl⟩
    obtain ⟨d, hd⟩ : ∃ d, l[n + 1]'(by omega) = d := ⟨_, rfl⟩
    have hsc : s[n]'hs0 = c := by rw [Hg.out n hs0 (by omega), hc]
    have hsd : s[n + 1]'hs1 = d := by rw [Hg.out (n + 1) hs1 (by omega), hd]
    by_cases h46 : c = 46
    rotate_left
    · have p1 : ((c.toNat : Int) == 46) = false := toNat_neQ (d := 46) h46
      have HE := hide (show Value.bool false = .bool dt by rw [← Hdt.out, dotB_no (by omega) (by rw [hc]; exact h46)])
      clear d1 hc hd h46
      go_wp2_with fail
      go_meet
      exact ⟨HE.out, rfl⟩
    subst h46
    have HE := hide (show Value.bool (dgQ d) = .bool dt by rw [← Hdt.out, dotB_dot (by omega) hc, hd])
    have DG := hide (digitQ_any d)
    clear d1 hc hd
    generalize dgQ d = dg at *
    go_wp2_with fail
    refine (DG.out _).mono ?_
    rintro e wz ⟨rfl, rfl⟩
    go_wp2_with fail
    go_meet
    exact ⟨HE.out, rfl⟩
  case rest =>
  obtain ⟨rfl, rfl⟩ := hcut
  go_upto_if 56 with fail
  go_cut [7] (fun v wx => v = .int .i64 (e1 : Int) ∧ Below w.heap.size w wx ∧ ZW wx g ∧ Gl wx)
  case first =>
    have hw1 : IntKind.i64.wrap ((n : Int) + 1) = (n : Int) + 1 := IntWalk.i64_in _ (by omega)
    cases dt with
    | false =>
      have HE := hide (show Value.int .i64 (n : Int) = .int .i64 (e1 : Int) by rw [← He1.out, HqB.out]; rfl)
      go_wp2_with fail
      go_meet
      exact ⟨HE.out, HB2.out, HR2.out, HG2.out⟩
    | true =>
      have hee : n + 1 + spn dgQ (l.drop (n + 1)) = e1 := by rw [← He1.out, HqB.out]; rfl
      rw [hee] at RD1
      clear hee
      go_wp2_with fail
      refine (RD1.out _).mono ?_
      rintro e w3 ⟨rfl, hb⟩
      have HB3 := hide (HB2.out.trans (hb.mono HB2.out.size))
      have HR3 := hide (show ZW w3 g from HR2.out.below hb HR2.out.lt)
      have HG3 := hide (HG2.out.below hb)
      clear hb
      go_wp2_with fail
      go_meet
      exact ⟨rfl, HB3.out, HR3.out, HG3.out⟩
  case rest =>
  obtain ⟨rfl, hb, hr, hG2⟩ := hcut
  have HB3 := hide hb
  have HR3 := hide hr
  have HG3 := hide hG2
  clear hb hr hG2 RD1 He1 HB2 HR2 HG2 HB1 HR1 HB0 HR0 Hg
  go_wp2_with fail
  refine (EX.out _).mono ?_
  rintro e w4 ⟨rfl, hb⟩
  have HB4 := hide (HB3.out.trans (hb.mono HB3.out.size))
  have HR4 := hide (show ZW w4 g from HR3.out.below hb HR3.out.lt)
  clear hb
  have HG4 := hide (show Gl w4 from hG.below HB4.out)
  clear EX
  by_cases hne : n < e2
  · have hne' : (n : Int) < (e2 : Int) := by omega
    have hes : (e2 : Int) ≤ (s.size : Int) := by have := HLD.out; omega
    have A := hide (fun W : World => AL.out e2 W (by omega))
    cases hal : aloneQ l e2 with
    | false =>
      rw [hal] at A
      have HV := hide (show numQ l = wrongQ 3 by rw [HV1.out, if_pos hne, hal]; rfl)
      clear hal hne
      go_wp2_with fail
      refine (A.out _).mono ?_
      rintro e wz ⟨rfl, rfl⟩
      go_wp2_with fail
      refine (wrongQ_any' 3 _).mono ?_
      rintro e w5 ⟨rfl, hb⟩
      have HB5 := hide (HB4.out.trans (hb.mono HB4.out.size))
      have HR5 := hide (show ZW w5 g from HR4.out.below hb HR4.out.lt)
      clear hb
      have r9 := HR5.out
      have rc0 := r9.cell 0
      have rf0 := r9.frozen 0
      have rc1 := r9.cell 1
      have rf1 := r9.frozen 1
      have rc2 := r9.cell 2
      have rf2 := r9.frozen 2
      have rc3 := r9.cell 3
      have rf3 := r9.frozen 3
      have rc4 := r9.cell 4
      have rf4 := r9.frozen 4
      clear r9
      go_wp2
      refine bodyPost_ret (v := .agg #[.int .i64 0, .string ⟨#[]⟩, .int .i64 0, .int .i64 0, .int .i64 3]) (results_cellQ rfl _ _ g 44 _ _ _ rfl (HR5.out.put _ _ _ _ _) Tryz.underlying44 rfl (by kernel_rfl)) rfl ?_
      rw [HV.out]
      exact ⟨rfl, below5 HB5.out (Nat.le_of_eq Hgg.out) _ _ _ _ _⟩
    | true =>
      rw [hal] at A
      have hrq : realQ (l.take e2) = ((parseV 100000 (l.take e2)).1.data.toList, (parseV 100000 (l.take e2)).2) := rfl
      have DP := hide (fun (W : World) (h : Gl W) => decParse_any (l.take e2) W (by rw [List.length_take]; omega) h)
      obtain ⟨⟨t, er⟩, hu⟩ : ∃ p, parseV 100000 (l.take e2) = p := ⟨_, rfl⟩
      rw [hu] at hrq DP
      have HV := hide (show numQ l = ⟨4, t.data.toList, e2, er⟩ by rw [HV1.out, if_pos hne, hal, if_pos rfl, hrq])
      have x1 := HXs.out e2
      rw [bsV_eq] at DP
      generalize bsQ (l.take e2) = sp at *
      clear hal hne hu hrq
      go_wp2_with fail
      refine (A.out _).mono ?_
      rintro e wz ⟨rfl, rfl⟩
      go_wp2_with fail
      refine (DP.out _ HG4.out).mono ?_
      rintro e w5 ⟨rfl, hb⟩
      have HB5 := hide (HB4.out.trans (hb.mono HB4.out.size))
      have HR5 := hide (show ZW w5 g from HR4.out.below hb HR4.out.lt)
      clear hb
      have r9 := HR5.out
      have rc0 := r9.cell 0
      have rf0 := r9.frozen 0
      have rc1 := r9.cell 1
      have rf1 := r9.frozen 1
      have rc2 := r9.cell 2
      have rf2 := r9.frozen 2
      have rc3 := r9.cell 3
      have rf3 := r9.frozen 3
      have rc4 := r9.cell 4
      have rf4 := r9.frozen 4
      clear r9
      go_wp2
      refine bodyPost_ret (v := .agg #[.int .i64 4, .string t, .int .i64 0, .int .i64 (e2 : Int), .int .i64 er]) (results_cellQ rfl _ _ g 44 _ _ _ rfl (HR5.out.put _ _ _ _ _) Tryz.underlying44 rfl (by kernel_rfl)) rfl ?_
      rw [HV.out]
      exact ⟨rfl, below5 HB5.out (Nat.le_of_eq Hgg.out) _ _ _ _ _⟩
  have hne' : ¬ (n : Int) < (e2 : Int) := by omega
  have hee : e2 = n := by omega
  have HV2 := hide (show numQ l = if aloneQ l (n + k) = false then wrongQ 3 else if 15 < (stripQ (l.take n)).length then wrongQ 9 else foundQ (if k = 0 then 1 else 2) (stripQ (l.take n) ++ (l.drop n).take k) (n + k) by rw [HV1.out, if_neg hne])
  subst hee
  clear HV1 hne hne'
  have hns : (e2 : Int) ≤ (s.size : Int) := by have := HLD.out; omega
  have ST := hide (fun W : World => strippedQ_any (l.take e2) W)
  obtain ⟨T, hT⟩ : ∃ T, stripQ (l.take e2) = T := ⟨_, rfl⟩
  have hTl : T.length ≤ 50001 := by
    rw [← hT]; unfold stripQ
    split
    · show 1 ≤ _; omega
    · have := (List.dropWhile_sublist (p := (· == (48 : UInt8))) (l := l.take e2)).length_le
      rw [List.length_take] at this; omega
  rw [hT] at ST HV2
  have x1 := HXs.out e2
  generalize bsQ (l.take e2) = sp at *
  clear hT
  go_wp2_with fail
  refine (ST.out _).mono ?_
  rintro e w5 ⟨rfl, hb⟩
  have HB5 := hide (HB4.out.trans (hb.mono HB4.out.size))
  have HR5 := hide (show ZW w5 g from HR4.out.below hb HR4.out.lt)
  clear hb
  have HG5 := hide (show Gl w5 from hG.below HB5.out)
  have x2 := HXd.out
  have q0 : (0 : Int) ≤ (e2 : Int) := by omega
  have HP := hide (fun (u : List UInt8) (W : World) => show Calls Tryz.prog 84 #[.string (bsQ (l.drop e2)), .string (bsQ u)] W fun e w' => e = .returned (.bool (Lib.hasPrefix (l.drop e2) u)) ∧ w' = W from Tryz.strings_HasPrefix (bsQ (l.drop e2)) (bsQ u) W)
  obtain ⟨D, hD⟩ : ∃ D, l.drop e2 = D := ⟨_, rfl⟩
  have Hk2 := hide (show firstU unitsQ D = k by rw [← hD]; exact Hk.out)
  rw [hD] at HP HV2
  have HXm2 := hide (show s.extract e2 (e2 + k) = bsQ (D.take k) by rw [← hD]; exact HXm.out)
  rw [hD] at x2
  have hDk : (D.take k).length ≤ 2 := by rw [List.length_take]; omega
  clear hD Hk HXm HXd
  generalize bsQ D = sd at *
  go_upto_region 19 with fail
  obtain ⟨W6, hW6⟩ : ∃ W6, w5.alloc (.cells (unitsQ.map fun u => Value.string (bsQ u)).toArray 9) = W6 := ⟨_, rfl⟩
  change Code.wp _ _ _ _ (w5.alloc (.cells (unitsQ.map fun u => Value.string (bsQ u)).toArray 9))
  have HB6 := hide (show Below w.heap.size w W6 by rw [← hW6]; exact HB5.out.alloc HB5.out.size _)
  have HR6 := hide (show ZW W6 g by rw [← hW6]; exact HR5.out.alloc _)
  have HU := hide (show Row W6 w5.heap.size 9 (unitsQ.map fun u => Value.string (bsQ u)).toArray by rw [← hW6]; exact Row.new _ _ _)
  rw [hW6]
  obtain ⟨gu, hgu⟩ : ∃ gu, w5.heap.size = gu := ⟨_, rfl⟩
  rw [hgu] at HU
  rw [hgu]
  clear hW6 hgu
  go_loop [7, 10, 90] (fun v7 v10 v90 => ∃ i : Nat, v90 = .int .i64 (i : Int) ∧ i ≤ 6 ∧ ((v10 = .int .i64 1 ∧ v7 = .int .i64 (e2 : Int) ∧ firstU (unitsQ.drop i) D = k) ∨ (v10 = .int .i64 2 ∧ v7 = .int .i64 ((e2 + k : Nat) : Int) ∧ 0 < k))) (fun _ _ v => 6 - (intOf v).toNat)
  case atStart => exact ⟨0, rfl, by omega, .inl ⟨rfl, rfl, Hk2.out⟩⟩
  case round =>
    obtain ⟨i, rfl, hi, hst⟩ := hrel
    by_cases hlt : i < 6
    · have hi' : (i : Int) < 6 := by omega
      have hi0 : (0 : Int) ≤ (i : Int) := by omega
      have hul : i < unitsQ.length := hlt
      obtain ⟨u, hu⟩ : ∃ u, unitsQ[i]'hul = u := ⟨_, rfl⟩
      have hcell : W6.cell? ⟨gu, i, none⟩ = some (.string (bsQ u)) := by
        have := HU.out.cell i
        rw [List.getElem?_toArray, List.getElem?_map, List.getElem?_eq_getElem hul, hu] at this
        exact this
      have hdu : unitsQ.drop i = u :: unitsQ.drop (i + 1) := by rw [← hu]; exact List.drop_eq_getElem_cons hul
      have hul2 : u.length ≤ 2 ∧ 0 < u.length := by
        have h := List.getElem_mem hul
        rw [hu] at h
        exact (show ∀ v ∈ unitsQ, v.length ≤ 2 ∧ 0 < v.length by decide) u h
      have hus := bsQ_size u
      have P := hide (HP.out u)
      generalize bsQ u = us at *
      rcases hst with ⟨rfl, rfl, hf⟩ | ⟨rfl, rfl, hf⟩
      · rw [hdu] at hf
        cases hp : Lib.hasPrefix D u with
        | true =>
          rw [hp] at P
          have hk : u.length = k := by rw [← hf]; simp only [firstU]; rw [if_pos hp]
          have hnn : (e2 : Int) + (us.size : Int) = ((e2 + k : Nat) : Int) := by omega
          have HN := hide (show Value.int .i64 ((e2 : Int) + (us.size : Int)) = .int .i64 ((e2 + k : Nat) : Int) by rw [hnn])
          have Hk0 := hide (show 0 < k by omega)
          have hus2 : (us.size : Int) ≤ 2 := by omega
          clear hf hp hdu hu hk hnn hus hul2
          go_wp2_with fail
          refine (P.out _).mono ?_
          rintro e wz ⟨rfl, rfl⟩
          go_wp2
          go_round
          case rel => exact ⟨i + 1, by go_num, by omega, .inr ⟨rfl, HN.out, Hk0.out⟩⟩
          case measure => simp [intOf]; omega
        | false =>
          rw [hp] at P
          have Hf := hide (show firstU (unitsQ.drop (i + 1)) D = k by rw [← hf]; conv => rhs; unfold firstU; rw [if_neg (by rw [hp]; decide)])
          clear hf hp hdu hu hus hul2
          go_wp2_with fail
          refine (P.out _).mono ?_
          rintro e wz ⟨rfl, rfl⟩
          go_wp2
          go_round
          case rel => exact ⟨i + 1, by go_num, by omega, .inl ⟨rfl, rfl, Hf.out⟩⟩
          case measure => simp [intOf]; omega
      · have Hf := hide hf
        clear hf hdu hu hus hul2
        go_wp2
        go_round
        case rel => exact ⟨i + 1, by go_num, by omega, .inr ⟨rfl, rfl, Hf.out⟩⟩
        case measure => simp [intOf]; omega
    · have hi' : ¬ (i : Int) < 6 := by omega
      obtain rfl : i = 6 := by omega
      obtain ⟨kd, hkd⟩ : ∃ kd : Int, (if k = 0 then 1 else 2) = kd := ⟨_, rfl⟩
      obtain ⟨q, hq⟩ : ∃ q, e2 + k = q := ⟨_, rfl⟩
      rw [hkd, hq] at HV2
      have hst2 : u10 = .int .i64 kd ∧ u7 = .int .i64 (q : Int) := by
        rcases hst with ⟨rfl, rfl, hf⟩ | ⟨rfl, rfl, hf⟩
        · have hk0 : k = 0 := by rw [← hf]; rfl
          rw [if_pos hk0] at hkd
          exact ⟨by rw [hkd], by rw [← hq, hk0]; rfl⟩
        · rw [if_neg (by omega)] at hkd
          exact ⟨by rw [hkd], by rw [hq]⟩
      obtain ⟨rfl, rfl⟩ := hst2
      have hql : q ≤ l.length := by omega
      have hqs : (q : Int) ≤ (s.size : Int) := by have := HLD.out; omega
      have hqn : (e2 : Int) ≤ (q : Int) := by omega
      have A := hide (fun W : World => AL.out q W (by omega))
      have x3 := HXm2.out
      rw [hq] at x3
      have y1 : ∀ W : World, (Op.stringOp .add (bsQ T) (bsQ (D.take k))).run Tryz.prog W = .ok (.string (bsQ (T ++ D.take k))) W := fun W => catQ T (D.take k) (by omega) W
      have FD := hide (fun W : World => foundQ_any kd (q : Int) (T ++ D.take k) W)
      have hTz := bsQ_size T
      obtain ⟨R, hR⟩ : ∃ R, T ++ D.take k = R := ⟨_, rfl⟩
      rw [hR] at y1 FD HV2
      clear hst hq hkd HP hi hR
      cases hal : aloneQ l q with
      | false =>
        rw [hal] at A
        have HV := hide (show numQ l = wrongQ 3 by rw [HV2.out, hal]; rfl)
        clear hal
        go_wp2_with fail
        refine (A.out _).mono ?_
        rintro e wz ⟨rfl, rfl⟩
        go_wp2_with fail
        refine (wrongQ_any' 3 _).mono ?_
        rintro e w7 ⟨rfl, hb⟩
        have HB7 := hide (HB6.out.trans (hb.mono HB6.out.size))
        have HR7 := hide (show ZW w7 g from HR6.out.below hb HR6.out.lt)
        clear hb
        have r9 := HR7.out
        have rc0 := r9.cell 0
        have rf0 := r9.frozen 0
        have rc1 := r9.cell 1
        have rf1 := r9.frozen 1
        have rc2 := r9.cell 2
        have rf2 := r9.frozen 2
        have rc3 := r9.cell 3
        have rf3 := r9.frozen 3
        have rc4 := r9.cell 4
        have rf4 := r9.frozen 4
        clear r9
        go_wp2
        refine bodyPost_ret (v := .agg #[.int .i64 0, .string ⟨#[]⟩, .int .i64 0, .int .i64 0, .int .i64 3]) (results_cellQ rfl _ _ g 44 _ _ _ rfl (HR7.out.put _ _ _ _ _) Tryz.underlying44 rfl (by kernel_rfl)) rfl ?_
        rw [HV.out]
        exact ⟨rfl, below5 HB7.out (Nat.le_of_eq Hgg.out) _ _ _ _ _⟩
      | true =>
        rw [hal] at A
        by_cases hbig : 15 < T.length
        · have HV := hide (show numQ l = wrongQ 9 by rw [HV2.out, hal, if_neg (by decide), if_pos hbig])
          have hb1 : (15 : Int) < ((bsQ T).size : Int) := by omega
          generalize bsQ T = ts at *
          clear hal hTz hbig
          go_wp2_with fail
          refine (A.out _).mono ?_
          rintro e wz ⟨rfl, rfl⟩
          go_wp2_with fail
          refine (wrongQ_any' 9 _).mono ?_
          rintro e w7 ⟨rfl, hb⟩
          have HB7 := hide (HB6.out.trans (hb.mono HB6.out.size))
          have HR7 := hide (show ZW w7 g from HR6.out.below hb HR6.out.lt)
          clear hb
          have r9 := HR7.out
          have rc0 := r9.cell 0
          have rf0 := r9.frozen 0
          have rc1 := r9.cell 1
          have rf1 := r9.frozen 1
          have rc2 := r9.cell 2
          have rf2 := r9.frozen 2
          have rc3 := r9.cell 3
          have rf3 := r9.frozen 3
          have rc4 := r9.cell 4
          have rf4 := r9.frozen 4
          clear r9
          go_wp2
          refine bodyPost_ret (v := .agg #[.int .i64 0, .string ⟨#[]⟩, .int .i64 0, .int .i64 0, .int .i64 9]) (results_cellQ rfl _ _ g 44 _ _ _ rfl (HR7.out.put _ _ _ _ _) Tryz.underlying44 rfl (by kernel_rfl)) rfl ?_
          rw [HV.out]
          exact ⟨rfl, below5 HB7.out (Nat.le_of_eq Hgg.out) _ _ _ _ _⟩
        · have HV := hide (show numQ l = foundQ kd R q by rw [HV2.out, hal, if_neg (by decide), if_neg hbig])
          have hb1 : ¬ (15 : Int) < ((bsQ T).size : Int) := by omega
          generalize bsQ T = ts at *
          generalize bsQ (D.take k) = ds at *
          clear hal hTz hbig
          go_wp2_with fail
          refine (A.out _).mono ?_
          rintro e wz ⟨rfl, rfl⟩
          go_wp2_with fail
          refine (FD.out _).mono ?_
          rintro e w7 ⟨rfl, hb⟩
          have HB7 := hide (HB6.out.trans (hb.mono HB6.out.size))
          have HR7 := hide (show ZW w7 g from HR6.out.below hb HR6.out.lt)
          clear hb
          have r9 := HR7.out
          have rc0 := r9.cell 0
          have rf0 := r9.frozen 0
          have rc1 := r9.cell 1
          have rf1 := r9.frozen 1
          have rc2 := r9.cell 2
          have rf2 := r9.frozen 2
          have rc3 := r9.cell 3
          have rf3 := r9.frozen 3
          have rc4 := r9.cell 4
          have rf4 := r9.frozen 4
          clear r9
          go_wp2
          refine bodyPost_ret (v := .agg #[.int .i64 kd, .string (bsQ R), .int .i64 0, .int .i64 (q : Int), .int .i64 0]) (results_cellQ rfl _ _ g 44 _ _ _ rfl (HR7.out.put _ _ _ _ _) Tryz.underlying44 rfl (by kernel_rfl)) rfl ?_
          rw [HV.out]
          exact ⟨rfl, below5 HB7.out (Nat.le_of_eq Hgg.out) _ _ _ _ _⟩
end Go.Proofs.YtjlpekjfmgcbdaaGreatDoor

/- Contract of qlex's read. -/
set_option linter.unusedVariables false
set_option linter.unusedSimpArgs false
namespace Go.Proofs.YtjlpekjfmgcbdaaGreatDoor
open Go.RowKit Go.Shelf
/-- the first of some texts that a text begins with -/
def firstS : List (List UInt8) → List UInt8 → Option (List UInt8)
  | [], _ => none
  | u :: us, t => if Lib.hasPrefix t u = true then some u else firstS us t
def symW (r : Option (List UInt8)) : Wq := match r with | some u => foundQ 6 u u.length | none => wrongQ 3
def readQ (l : List UInt8) : Wq := match l with
  | [] => wrongQ 3
  | c :: _ => if fiQ c = true ∨ c = 92 then pathQ l else if dgQ c then numQ l else if c = 34 then quotedQ l else symW (firstS symsQ l)
theorem symW_wrong : symW none = wrongQ 3 := rfl
set_option maxRecDepth 20000 in
set_option maxHeartbeats 8000000 in
theorem readQ_any (l : List UInt8) (w : World) (hl : l.length ≤ 50000) (h0 : 0 < l.length) (hG : Gl w) :
    Calls Tryz.prog 56 #[.string (bsQ l)] w fun e w' => e = .returned (wordV (readQ l)) ∧ Below w.heap.size w w' := by
  have hz := bsQ_size l
  obtain ⟨c, r, hcr⟩ : ∃ c r, l = c :: r := by
    cases l with
    | nil => cases h0
    | cons a t => exact ⟨a, t, rfl⟩
  have hs0 : 0 < (bsQ l).size := by omega
  have hsc : (bsQ l)[0]'hs0 = c := by rw [bsQ_get]; simp [hcr]
  have HV0 := hide (show readQ l = if fiQ c = true ∨ c = 92 then pathQ l else if dgQ c then numQ l else if c = 34 then quotedQ l else symW (firstS symsQ l) by rw [hcr]; rfl)
  have FI := hide (firstQ_any c)
  have DG := hide (digitQ_any c)
  have PA := hide (fun W : World => pathQ_any l W hl)
  have NU := hide (fun (W : World) (h : Gl W) => numberQ_any l W hl h)
  have QU := hide (fun W : World => quotedQl_any l W hl)
  have HP := hide (fun (u : List UInt8) (W : World) => show Calls Tryz.prog 84 #[.string (bsQ l), .string (bsQ u)] W fun e w' => e = .returned (.bool (Lib.hasPrefix l u)) ∧ w' = W from Tryz.strings_HasPrefix (bsQ l) (bsQ u) W)
  clear hcr
  generalize bsQ l = s at *
  have Hz := hide hz
  have HG := hide hG
  clear hz hG
  go_enter Tryz.func56, Tryz.ntmps56
  go_upto_region 1 with fail
  obtain ⟨W1, hW1⟩ : ∃ W1, w.alloc (.cells #[.int .i64 0, .string ⟨#[]⟩, .int .i64 0, .int .i64 0, .int .i64 0] 44) = W1 := ⟨_, rfl⟩
  rw [hW1]
  have HB0 := hide (show Below w.heap.size w W1 by rw [← hW1]; exact (Below.refl _ _).alloc (Nat.le_refl _) _)
  have HR0 := hide (show ZW W1 w.heap.size by rw [← hW1]; exact Row.new _ _ _)
  clear hW1
  obtain ⟨g, hgg⟩ : ∃ g, w.heap.size = g := ⟨_, rfl⟩
  rw [hgg] at HR0
  rw [hgg]
  have Hgg := hide hgg
  clear hgg
  have HG0 := hide (show Gl W1 from HG.out.below HB0.out)
  clear HG
  cases hf : fiQ c with
  | true =>
    rw [hf] at FI
    have hv : readQ l = pathQ l := by rw [HV0.out, if_pos (.inl hf)]
    obtain ⟨X, hX⟩ : ∃ X, pathQ l = X := ⟨_, rfl⟩
    rw [hX] at hv PA
    have HV := hide hv
    clear hv hX hf
    obtain ⟨kd, tx, sz, er⟩ := X
    have PA := hide (fun W : World => show Calls Tryz.prog 81 #[.string s] W fun e w' => e = .returned (.agg #[.int .i64 kd, .string (bsQ tx), .int .i64 0, .int .i64 (sz : Int), .int .i64 er]) ∧ Below W.heap.size W w' from PA.out W)
    go_wp2_with fail
    refine (FI.out _).mono ?_
    rintro e wz ⟨rfl, rfl⟩
    go_wp2_with fail
    refine (PA.out _).mono ?_
    rintro e w1 ⟨rfl, hb⟩
    have HB1 := hide (HB0.out.trans (hb.mono HB0.out.size))
    have HR1 := hide (show ZW w1 g from HR0.out.below hb HR0.out.lt)
    clear hb
    have r9 := HR1.out
    have rc0 := r9.cell 0
    have rf0 := r9.frozen 0
    have rc1 := r9.cell 1
    have rf1 := r9.frozen 1
    have rc2 := r9.cell 2
    have rf2 := r9.frozen 2
    have rc3 := r9.cell 3
    have rf3 := r9.frozen 3
    have rc4 := r9.cell 4
    have rf4 := r9.frozen 4
    clear r9
    go_wp2
    refine bodyPost_ret (v := .agg #[.int .i64 kd, .string (bsQ tx), .int .i64 0, .int .i64 (sz : Int), .int .i64 er]) (results_cellQ rfl _ _ g 44 _ _ _ rfl (HR1.out.put _ _ _ _ _) Tryz.underlying44 rfl (by kernel_rfl)) rfl ?_
    rw [HV.out]
    exact ⟨rfl, below5 HB1.out (Nat.le_of_eq Hgg.out) _ _ _ _ _⟩
  | false =>
  rw [hf] at FI
  by_cases h92 : c = 92
  · have hv : readQ l = pathQ l := by rw [HV0.out, if_pos (.inr h92)]
    obtain ⟨X, hX⟩ : ∃ X, pathQ l = X := ⟨_, rfl⟩
    rw [hX] at hv PA
    have HV := hide hv
    clear hv hX hf
    subst h92
    obtain ⟨kd, tx, sz, er⟩ := X
    have PA := hide (fun W : World => show Calls Tryz.prog 81 #[.string s] W fun e w' => e = .returned (.agg #[.int .i64 kd, .string (bsQ tx), .int .i64 0, .int .i64 (sz : Int), .int .i64 er]) ∧ Below W.heap.size W w' from PA.out W)
    have FI := hide (fun W : World => show Calls Tryz.prog 80 #[.int .u8 92] W fun e w' => e = .returned (.bool false) ∧ w' = W from FI.out W)
    go_wp2_with fail
    refine (FI.out _).mono ?_
    rintro e wz ⟨rfl, rfl⟩
    go_wp2_with fail
    refine (PA.out _).mono ?_
    rintro e w1 ⟨rfl, hb⟩
    have HB1 := hide (HB0.out.trans (hb.mono HB0.out.size))
    have HR1 := hide (show ZW w1 g from HR0.out.below hb HR0.out.lt)
    clear hb
    have r9 := HR1.out
    have rc0 := r9.cell 0
    have rf0 := r9.frozen 0
    have rc1 := r9.cell 1
    have rf1 := r9.frozen 1
    have rc2 := r9.cell 2
    have rf2 := r9.frozen 2
    have rc3 := r9.cell 3
    have rf3 := r9.frozen 3
    have rc4 := r9.cell 4
    have rf4 := r9.frozen 4
    clear r9
    go_wp2
    refine bodyPost_ret (v := .agg #[.int .i64 kd, .string (bsQ tx), .int .i64 0, .int .i64 (sz : Int), .int .i64 er]) (results_cellQ rfl _ _ g 44 _ _ _ rfl (HR1.out.put _ _ _ _ _) Tryz.underlying44 rfl (by kernel_rfl)) rfl ?_
    rw [HV.out]
    exact ⟨rfl, below5 HB1.out (Nat.le_of_eq Hgg.out) _ _ _ _ _⟩
  have e92 : ((c.toNat : Int) == 92) = false := toNat_neQ (d := 92) h92
  have HV1 := hide (show readQ l = if dgQ c then numQ l else if c = 34 then quotedQ l else symW (firstS symsQ l) by rw [HV0.out, if_neg (by rintro (h | h); rw [hf] at h; cases h; exact h92 h)])
  clear HV0 hf h92 PA
  cases hd : dgQ c with
  | true =>
    rw [hd] at DG
    have hv : readQ l = numQ l := by rw [HV1.out, hd, if_pos rfl]
    obtain ⟨X, hX⟩ : ∃ X, numQ l = X := ⟨_, rfl⟩
    rw [hX] at hv NU
    have HV := hide hv
    clear hv hX hd
    obtain ⟨kd, tx, sz, er⟩ := X
    have NU := hide (fun (W : World) (h : Gl W) => show Calls Tryz.prog 82 #[.string s] W fun e w' => e = .returned (.agg #[.int .i64 kd, .string (bsQ tx), .int .i64 0, .int .i64 (sz : Int), .int .i64 er]) ∧ Below W.heap.size W w' from NU.out W h)
    go_wp2_with fail
    refine (FI.out _).mono ?_
    rintro e wz ⟨rfl, rfl⟩
    go_wp2_with fail
    refine (DG.out _).mono ?_
    rintro e wz ⟨rfl, rfl⟩
    go_wp2_with fail
    refine (NU.out _ HG0.out).mono ?_
    rintro e w1 ⟨rfl, hb⟩
    have HB1 := hide (HB0.out.trans (hb.mono HB0.out.size))
    have HR1 := hide (show ZW w1 g from HR0.out.below hb HR0.out.lt)
    clear hb
    have r9 := HR1.out
    have rc0 := r9.cell 0
    have rf0 := r9.frozen 0
    have rc1 := r9.cell 1
    have rf1 := r9.frozen 1
    have rc2 := r9.cell 2
    have rf2 := r9.frozen 2
    have rc3 := r9.cell 3
    have rf3 := r9.frozen 3
    have rc4 := r9.cell 4
    have rf4 := r9.frozen 4
    clear r9
    go_wp2
    refine bodyPost_ret (v := .agg #[.int .i64 kd, .string (bsQ tx), .int .i64 0, .int .i64 (sz : Int), .int .i64 er]) (results_cellQ rfl _ _ g 44 _ _ _ rfl (HR1.out.put _ _ _ _ _) Tryz.underlying44 rfl (by kernel_rfl)) rfl ?_
    rw [HV.out]
    exact ⟨rfl, below5 HB1.out (Nat.le_of_eq Hgg.out) _ _ _ _ _⟩
  | false =>
  rw [hd] at DG
  by_cases h34 : c = 34
  · have hv : readQ l = quotedQ l := by rw [HV1.out, hd, if_neg (by decide), if_pos h34]
    obtain ⟨X, hX⟩ : ∃ X, quotedQ l = X := ⟨_, rfl⟩
    rw [hX] at hv QU
    have HV := hide hv
    clear hv hX hd
    subst h34
    obtain ⟨kd, tx, sz, er⟩ := X
    have QU := hide (fun W : World => show Calls Tryz.prog 83 #[.string s] W fun e w' => e = .returned (.agg #[.int .i64 kd, .string (bsQ tx), .int .i64 0, .int .i64 (sz : Int), .int .i64 er]) ∧ Below W.heap.size W w' from QU.out W)
    have FI := hide (fun W : World => show Calls Tryz.prog 80 #[.int .u8 34] W fun e w' => e = .returned (.bool false) ∧ w' = W from FI.out W)
    have DG := hide (fun W : World => show Calls Tryz.prog 32 #[.int .u8 34] W fun e w' => e = .returned (.bool false) ∧ w' = W from DG.out W)
    go_wp2_with fail
    refine (FI.out _).mono ?_
    rintro e wz ⟨rfl, rfl⟩
    go_wp2_with fail
    refine (DG.out _).mono ?_
    rintro e wz ⟨rfl, rfl⟩
    go_wp2_with fail
    refine (QU.out _).mono ?_
    rintro e w1 ⟨rfl, hb⟩
    have HB1 := hide (HB0.out.trans (hb.mono HB0.out.size))
    have HR1 := hide (show ZW w1 g from HR0.out.below hb HR0.out.lt)
    clear hb
    have r9 := HR1.out
    have rc0 := r9.cell 0
    have rf0 := r9.frozen 0
    have rc1 := r9.cell 1
    have rf1 := r9.frozen 1
    have rc2 := r9.cell 2
    have rf2 := r9.frozen 2
    have rc3 := r9.cell 3
    have rf3 := r9.frozen 3
    have rc4 := r9.cell 4
    have rf4 := r9.frozen 4
    clear r9
    go_wp2
    refine bodyPost_ret (v := .agg #[.int .i64 kd, .string (bsQ tx), .int .i64 0, .int .i64 (sz : Int), .int .i64 er]) (results_cellQ rfl _ _ g 44 _ _ _ rfl (HR1.out.put _ _ _ _ _) Tryz.underlying44 rfl (by kernel_rfl)) rfl ?_
    rw [HV.out]
    exact ⟨rfl, below5 HB1.out (Nat.le_of_eq Hgg.out) _ _ _ _ _⟩
  have e34 : ((c.toNat : Int) == 34) = false := toNat_neQ (d := 34) h34
  obtain ⟨R, hR⟩ : ∃ R, firstS symsQ l = R := ⟨_, rfl⟩
  have HV2 := hide (show readQ l = symW R by rw [HV1.out, hd, if_neg (by decide), if_neg h34, hR])
  have HR := hide hR
  clear HV1 hd h34 QU NU hR
  go_wp2_with fail
  refine (FI.out _).mono ?_
  rintro e wz ⟨rfl, rfl⟩
  go_wp2_with fail
  refine (DG.out _).mono ?_
  rintro e wz ⟨rfl, rfl⟩
  go_upto_region 10 with fail
  have HG5 := HG0
  obtain ⟨W6, hW6⟩ : ∃ W6, wz.alloc (.cells (symsQ.map fun u => Value.string (bsQ u)).toArray 9) = W6 := ⟨_, rfl⟩
  change Code.wp _ _ _ _ (wz.alloc (.cells (symsQ.map fun u => Value.string (bsQ u)).toArray 9))
  have HB6 := hide (show Below w.heap.size w W6 by rw [← hW6]; exact HB0.out.alloc HB0.out.size _)
  have HR6 := hide (show ZW W6 g by rw [← hW6]; exact HR0.out.alloc _)
  have HU := hide (show Row W6 wz.heap.size 9 (symsQ.map fun u => Value.string (bsQ u)).toArray by rw [← hW6]; exact Row.new _ _ _)
  rw [hW6]
  obtain ⟨gu, hgu⟩ : ∃ gu, wz.heap.size = gu := ⟨_, rfl⟩
  rw [hgu] at HU
  rw [hgu]
  clear hW6 hgu
  go_loop [31] (fun v => ∃ i : Nat, v = .int .i64 (i : Int) ∧ i ≤ 26 ∧ firstS (symsQ.drop i) l = R) (fun v => 26 - (intOf v).toNat)
  case atStart => exact ⟨0, rfl, by omega, HR.out⟩
  case round =>
    obtain ⟨i, rfl, hi, hf⟩ := hrel
    by_cases hlt : i < 26
    · have hi' : (i : Int) < 26 := by omega
      have hi0 : (0 : Int) ≤ (i : Int) := by omega
      have hul : i < symsQ.length := hlt
      obtain ⟨u, hu⟩ : ∃ u, symsQ[i]'hul = u := ⟨_, rfl⟩
      have hcell : W6.cell? ⟨gu, i, none⟩ = some (.string (bsQ u)) := by
        have := HU.out.cell i
        rw [List.getElem?_toArray, List.getElem?_map, List.getElem?_eq_getElem hul, hu] at this
        exact this
      have hdu : symsQ.drop i = u :: symsQ.drop (i + 1) := by rw [← hu]; exact List.drop_eq_getElem_cons hul
      have hus := bsQ_size u
      have P := hide (HP.out u)
      have FD := hide (fun W : World => foundQ_any 6 (u.length : Int) u W)
      rw [← hus] at FD
      rw [hdu] at hf
      cases hp : Lib.hasPrefix l u with
      | true =>
        rw [hp] at P
        have hR2 : some u = R := by rw [← hf]; simp only [firstS]; rw [if_pos hp]
        have HV := hide (show readQ l = ⟨6, u, (bsQ u).size, 0⟩ by rw [HV2.out, ← hR2, hus]; rfl)
        obtain ⟨us, hus2⟩ : ∃ us, bsQ u = us := ⟨_, rfl⟩
        rw [hus2] at P FD HV hcell
        have Huu := hide hus2
        clear hf hp hdu hu hus hR2 hus2
        go_wp2_with fail
        refine (P.out _).mono ?_
        rintro e wz ⟨rfl, rfl⟩
        go_wp2_with fail
        refine (FD.out _).mono ?_
        rintro e w7 ⟨rfl, hb⟩
        have HB7 := hide (HB6.out.trans (hb.mono HB6.out.size))
        have HR7 := hide (show ZW w7 g from HR6.out.below hb HR6.out.lt)
        clear hb
        have r9 := HR7.out
        have rc0 := r9.cell 0
        have rf0 := r9.frozen 0
        have rc1 := r9.cell 1
        have rf1 := r9.frozen 1
        have rc2 := r9.cell 2
        have rf2 := r9.frozen 2
        have rc3 := r9.cell 3
        have rf3 := r9.frozen 3
        have rc4 := r9.cell 4
        have rf4 := r9.frozen 4
        clear r9
        go_wp2
        refine bodyPost_ret (v := .agg #[.int .i64 6, .string us, .int .i64 0, .int .i64 (us.size : Int), .int .i64 0]) (results_cellQ rfl _ _ g 44 _ _ _ rfl (HR7.out.put _ _ _ _ _) Tryz.underlying44 rfl (by kernel_rfl)) rfl ?_
        rw [HV.out]
        exact ⟨by rw [← Huu.out]; rfl, below5 HB7.out (Nat.le_of_eq Hgg.out) _ _ _ _ _⟩
      | false =>
        rw [hp] at P
        have Hf := hide (show firstS (symsQ.drop (i + 1)) l = R by rw [← hf]; conv => rhs; unfold firstS; rw [if_neg (by rw [hp]; decide)])
        generalize bsQ u = us at *
        clear hf hp hdu hu hus
        go_wp2_with fail
        refine (P.out _).mono ?_
        rintro e wz ⟨rfl, rfl⟩
        go_wp2
        go_round
        case rel => exact ⟨i + 1, by go_num, by omega, Hf.out⟩
        case measure => simp [intOf]; omega
    · have hi' : ¬ (i : Int) < 26 := by omega
      obtain rfl : i = 26 := by omega
      have HV := hide (show readQ l = wrongQ 3 by rw [HV2.out, ← hf]; rfl)
      clear hf
      go_wp2_with fail
      refine (wrongQ_any' 3 _).mono ?_
      rintro e w7 ⟨rfl, hb⟩
      have HB7 := hide (HB6.out.trans (hb.mono HB6.out.size))
      have HR7 := hide (show ZW w7 g from HR6.out.below hb HR6.out.lt)
      clear hb
      have r9 := HR7.out
      have rc0 := r9.cell 0
      have rf0 := r9.frozen 0
      have rc1 := r9.cell 1
      have rf1 := r9.frozen 1
      have rc2 := r9.cell 2
      have rf2 := r9.frozen 2
      have rc3 := r9.cell 3
      have rf3 := r9.frozen 3
      have rc4 := r9.cell 4
      have rf4 := r9.frozen 4
      clear r9
      go_wp2
      refine bodyPost_ret (v := .agg #[.int .i64 0, .string ⟨#[]⟩, .int .i64 0, .int .i64 0, .int .i64 3]) (results_cellQ rfl _ _ g 44 _ _ _ rfl (HR7.out.put _ _ _ _ _) Tryz.underlying44 rfl (by kernel_rfl)) rfl ?_
      rw [HV.out]
      exact ⟨rfl, below5 HB7.out (Nat.le_of_eq Hgg.out) _ _ _ _ _⟩
end Go.Proofs.YtjlpekjfmgcbdaaGreatDoor
