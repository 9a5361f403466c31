/- MgR: the texts QtF QtG QtH QtI in one. -/
import Derived.Test.YtjlpekjfmgcbdaaGreatDoorMgQ
import Derived.BigQuiet
import Derived.Lib.Join
import Derived.Test.YtjlpekjfmgcbdaaGreatDoorMgA
/- Contracts of the reference's form, and of Valid of both. -/
set_option linter.unusedVariables false
set_option linter.unusedSimpArgs false
namespace Go.Proofs.YtjlpekjfmgcbdaaGreatDoor
open Go.RowKit Go.Shelf Go.Sort
/-- a number's digits, none for 0 -/
def dzQ (n : Nat) : List UInt8 := if n = 0 then [] else Lib.decDigits n
theorem dzQ_step {n : Nat} (h : 0 < n) : dzQ n = dzQ (n / 10) ++ [UInt8.ofNat (48 + n % 10)] := by
  unfold dzQ
  rw [if_neg (by omega)]
  by_cases h1 : n < 10
  · rw [if_pos (by omega), decQ_small h1]; rfl
  · rw [if_neg (by omega), decQ_big h1]
theorem dzQ_len {n : Nat} (h : n ≤ 1000000) : (dzQ n).length ≤ 7 := by
  unfold dzQ
  by_cases h1 : n = 0
  · rw [if_pos h1]; exact Nat.zero_le _
  · rw [if_neg h1]; exact decQ_len h
/-- what the reference makes of a lexeme -/
def refFormQ (k : Int) (t : List UInt8) : List UInt8 := if k = 3 then dzQ t.length ++ [39, 98] ++ t else formQ k t
theorem refFormQ_eq {k : Int} {t : List UInt8} (h : ¬ (k = 3 ∧ t = [])) : refFormQ k t = formQ k t := by
  unfold refFormQ
  by_cases h3 : k = 3
  · rw [if_pos h3, h3, formQ_bits]
    unfold dzQ
    rw [if_neg (fun e => h ⟨h3, List.length_eq_zero_iff.1 e⟩)]
    simp
  · rw [if_neg h3]
theorem refFormQ_len (k : Int) (t : List UInt8) (hl : t.length ≤ 1000000) : (refFormQ k t).length ≤ 4 * t.length + 12 := by
  by_cases h : k = 3 ∧ t = []
  · obtain ⟨rfl, rfl⟩ := h; decide
  · rw [refFormQ_eq h]; exact formQ_len k t hl
set_option maxHeartbeats 4000000 in
set_option maxRecDepth 20000 in
theorem refFormQ_any (k p : Int) (t : List UInt8) (w : World) (hl : t.length ≤ 100000) :
    Calls Tryz.prog 53 #[lxV k t p] w fun e w' => e = .returned (.string (bsQ (refFormQ k t))) ∧ Below w.heap.size w w' := by
  unfold lxV
  have hz := bsQ_size t
  by_cases h3 : k = 3
  · subst h3
    obtain ⟨N, hN⟩ : ∃ N, t.length = N := ⟨_, rfl⟩
    have hD7 := dzQ_len (n := N) (by omega)
    have hV : refFormQ 3 t = dzQ N ++ [39, 98] ++ t := by unfold refFormQ; rw [if_pos rfl, hN]
    have a1 : ∀ W, (Op.stringOp .add (bsQ (dzQ N)) ⟨#[39, 98]⟩).run Tryz.prog W = .ok (.string (bsQ (dzQ N ++ [39, 98]))) W := fun W => catQ _ [39, 98] (by show _ + 2 ≤ _; omega) W
    have a2 : ∀ W, (Op.stringOp .add (bsQ (dzQ N ++ [39, 98])) (bsQ t)).run Tryz.prog W = .ok (.string (bsQ (dzQ N ++ [39, 98] ++ t))) W := fun W => catQ _ t (by rw [List.length_append]; show _ + 2 + _ ≤ _; omega) W
    obtain ⟨D, hD⟩ : ∃ D, dzQ N = D := ⟨_, rfl⟩
    have HD := hide hD
    rw [hD] at a1 a2 hV hD7
    have HV := hide hV
    have HD7 := hide hD7
    have HN := hide hN
    generalize D ++ [39, 98] ++ t = T at *
    generalize D ++ [39, 98] = T1 at *
    have A1 := hide a1
    have A2 := hide a2
    generalize bsQ t = s at *
    have hz1 : (s.size : Int) ≤ 100000 := by omega
    have hsN : (s.size : Int) = (N : Int) := by omega
    clear hV hz hl hD hN hD7 a1 a2
    go_enter Tryz.func53, Tryz.ntmps53
    go_wp2_with fail
    go_loopw [3, 4] (fun v3 v4 wr => ∃ (n : Nat) (s4 : List UInt8), v3 = .int .i64 (n : Int) ∧ v4 = .string (bsQ s4) ∧ n ≤ 100000 ∧ dzQ n ++ s4 = D ∧ wr.cell? ⟨w.heap.size, 1, none⟩ = some (.string s) ∧ Below w.heap.size w wr) (fun v _ _ => (intOf v).toNat)
    case atStart =>
      refine ⟨N, [], rfl, rfl, by omega, by rw [List.append_nil]; exact HD.out, ?_, (Below.refl _ _).alloc (Nat.le_refl _) _⟩
      exact (Row.new w 33 #[.int .i64 3, .string s, .int .i64 p]).cell 1
    case round =>
      obtain ⟨n, s4, rfl, rfl, hn, hD, hc, hb⟩ := hrel
      have Hb := hide hb
      have Hc := hide hc
      by_cases h0 : 0 < n
      · have h0' : (0 : Int) < (n : Int) := by omega
        obtain ⟨c, hcc⟩ : ∃ c : UInt8, UInt8.ofNat (48 + n % 10) = c := ⟨_, rfl⟩
        have hct : (c.toNat : Int) = 48 + (n : Int) % 10 := by
          rw [← hcc, UInt8.toNat_ofNat', Nat.mod_eq_of_lt (by omega)]
          omega
        have hw : IntKind.u8.wrap (48 + (n : Int) % 10) = (c.toNat : Int) := by rw [hct, IntKind.wrap_u8]; omega
        have hcv := fun W : World => conv1b W c
        have hl4 : s4.length ≤ 7 := by
          have := congrArg List.length hD
          rw [List.length_append] at this
          have := HD7.out
          omega
        have c1 : ∀ W, (Op.stringOp .add ⟨#[c]⟩ (bsQ s4)).run Tryz.prog W = .ok (.string (bsQ ([c] ++ s4))) W := fun W => catQ (P := Tryz.prog) [c] s4 (by show 1 + _ ≤ _; omega) W
        have HD2 := hide (show dzQ (n / 10) ++ ([c] ++ s4) = D by rw [← hD, dzQ_step h0, hcc, List.append_assoc])
        have HC2 := hide (show ∀ x : World, Below w.heap.size w x → x.cell? ⟨w.heap.size, 1, none⟩ = x.cell? ⟨w.heap.size, 1, none⟩ from fun x _ => rfl)
        have hq : ((n / 10 : Nat) : Int) = (n : Int) / 10 := by omega
        have Hq := hide hq
        have hblk : w.heap.size < wr.heap.size := World.block_lt_of_cell? wr _ hc
        have HK := hide (show (wr.alloc (.cells #[.int .u8 (c.toNat : Int)] 5)).cell? ⟨w.heap.size, 1, none⟩ = some (.string s) by
          rw [((Below.refl wr.heap.size wr).alloc (Nat.le_refl _) _).cell (p := ⟨w.heap.size, 1, none⟩) hblk]; exact hc)
        generalize [c] ++ s4 = s5 at *
        clear hcc hct hD hl4 hb hc hq hblk HC2
        go_wp2
        go_roundw
        case rel => exact ⟨n / 10, s5, by rw [Hq.out], rfl, by omega, HD2.out, HK.out, Hb.out.alloc Hb.out.size _⟩
        case measure => simp [intOf]; omega
      · have h0' : ¬ (0 : Int) < (n : Int) := by omega
        obtain rfl : n = 0 := by omega
        obtain rfl : s4 = D := hD
        have b1 := A1.out
        have b2 := A2.out
        clear hb HD HD7
        go_wp2
        go_ret
        exact ⟨by rw [HV.out]; first | done | rfl, Hb.out⟩
  have e3 : (k == 3) = false := beq_eq_false_iff_ne.2 h3
  have hrf : refFormQ k t = formQ k t := refFormQ_eq (fun h => h3 h.1)
  rw [hrf]
  clear hrf
  by_cases h4 : k = 4
  · subst h4
    have hb := textQ_beq t
    by_cases h48 : t = [48]
    · rw [decide_eq_true h48] at hb
      have HV := hide (show formQ 4 t = [48, 46, 48] by rw [h48]; rfl)
      clear h48 h3 e3
      generalize bsQ t = s at *
      go_enter Tryz.func53, Tryz.ntmps53
      go_wp2
      go_ret
      exact ⟨by rw [HV.out]; first | done | rfl, (Below.refl _ _).alloc (Nat.le_refl _) _⟩
    · rw [decide_eq_false h48] at hb
      have HV := hide (show formQ 4 t = t from formQ_real h48)
      clear h48 h3 e3
      generalize hs : bsQ t = s at *
      have HS := hide hs
      clear hs
      go_enter Tryz.func53, Tryz.ntmps53
      go_wp2
      go_ret
      exact ⟨by rw [HV.out, HS.out]; first | done | rfl, (Below.refl _ _).alloc (Nat.le_refl _) _⟩
  have e4 : (k == 4) = false := beq_eq_false_iff_ne.2 h4
  by_cases h5 : k = 5
  · subst h5
    have QT := hide (fun W : World => refQuoteQ_any t W hl)
    have HV := hide (formQ_str t)
    generalize bsQ t = s at *
    clear h3 h4
    go_enter Tryz.func53, Tryz.ntmps53
    go_wp2_with fail
    refine (QT.out _).mono ?_
    rintro e w1 ⟨rfl, hb⟩
    have HB := hide (((Below.refl w.heap.size w).alloc (Nat.le_refl _) (.cells #[.int .i64 5, .string s, .int .i64 p] 33)).trans (hb.mono (by rw [World.size_alloc]; exact Nat.le_succ _)))
    clear hb
    go_wp2
    go_ret
    exact ⟨by rw [HV.out]; first | done | rfl, HB.out⟩
  have e5 : (k == 5) = false := beq_eq_false_iff_ne.2 h5
  have HV := hide (show formQ k t = t by unfold formQ; rw [if_neg h3, if_neg (fun h => h4 h.1), if_neg h5])
  generalize hs : bsQ t = s at *
  have HS := hide hs
  clear h3 h4 h5 hs
  go_enter Tryz.func53, Tryz.ntmps53
  go_wp2
  go_ret
  exact ⟨by rw [HV.out, HS.out]; first | done | rfl, (Below.refl _ _).alloc (Nat.le_refl _) _⟩
theorem validQ_er {k : Int} {t : List UInt8} {out : List Lx} {a : Nat} {er : Int} (h : lexQ (formQ k t) = (out, a, er)) (he : er ≠ 0) : validQ k t = false := by
  unfold validQ; rw [h, decide_eq_false he]; rfl
theorem validQ_len {k : Int} {t : List UInt8} {out : List Lx} {a : Nat} {er : Int} (h : lexQ (formQ k t) = (out, a, er)) (he : out.length ≠ 1) : validQ k t = false := by
  unfold validQ; rw [h]
  match out, he with
  | [], _ => simp
  | [x], he => exact absurd rfl he
  | _ :: _ :: _, _ => simp
theorem validQ_one {k : Int} {t : List UInt8} {x : Lx} {a : Nat} (h : lexQ (formQ k t) = ([x], a, 0)) : validQ k t = (x.kind == k && x.text == t) := by
  unfold validQ; rw [h]; simp
set_option maxHeartbeats 4000000 in
set_option maxRecDepth 20000 in
theorem ValidQ_any (k p : Int) (t : List UInt8) (w : World) (hl : t.length ≤ 10000) (hG : Gl w) :
    Calls Tryz.prog 19 #[lxV k t p] w fun e w' => e = .returned (.bool (validQ k t)) ∧ Below w.heap.size w w' := by
  have hfl := formQ_len k t (by omega)
  have FO := hide (fun W : World => formQ_any k p t W (by omega))
  obtain ⟨⟨out, a, er⟩, hlex⟩ : ∃ q, lexQ (formQ k t) = q := ⟨_, rfl⟩
  have LX := hide (fun (W : World) (hg : Gl W) => Lex_at (formQ k t) (by omega) out a er hlex W hg)
  unfold lxV at FO ⊢
  have HL := hide hlex
  have HG := hide hG
  have hxt : ∀ x : Lx, ((bsQ x.text).toList == (bsQ t).toList) = (x.text == t) := fun x => bsQ_beq _ _
  have HXT := hide hxt
  generalize bsQ (formQ k t) = F at *
  generalize hs : bsQ t = s at *
  clear hfl hlex hG hl hxt hs
  go_enter Tryz.func19, Tryz.ntmps19
  go_wp2_with fail
  obtain ⟨W1, hW1⟩ : ∃ W1, w.alloc (.cells #[.int .i64 k, .string s, .int .i64 p] 33) = W1 := ⟨_, rfl⟩
  rw [hW1]
  have HR1 := hide (show Row W1 w.heap.size 33 #[.int .i64 k, .string s, .int .i64 p] by rw [← hW1]; exact Row.new _ _ _)
  have HB1 := hide (show Below w.heap.size w W1 by rw [← hW1]; exact (Below.refl _ _).alloc (Nat.le_refl _) _)
  clear hW1
  refine (FO.out _).mono ?_
  rintro e w2 ⟨rfl, hb⟩
  have HR2 := hide (show Row w2 w.heap.size 33 #[.int .i64 k, .string s, .int .i64 p] from HR1.out.below hb HR1.out.lt)
  have HB2 := hide (HB1.out.trans (hb.mono HB1.out.size))
  clear hb HR1 HB1
  go_wp2_with fail
  refine (LX.out _ (HG.out.below HB2.out)).mono ?_
  rintro e w3 ⟨A, cap, rfl, hsl, hb⟩
  have HR3 := hide (show Row w3 w.heap.size 33 #[.int .i64 k, .string s, .int .i64 p] from HR2.out.below hb HR2.out.lt)
  have HB3 := hide (HB2.out.trans (hb.mono HB2.out.size))
  have HSL := hide hsl
  clear hb hsl HR2 HB2
  by_cases he : er = 0
  rotate_left
  · have e1 : (er == 0) = false := beq_eq_false_iff_ne.2 he
    have HV := hide (validQ_er HL.out he)
    clear he
    go_wp2_with fail
    go_quiet (fail)
    go_wp2
    go_ret
    exact ⟨by rw [HV.out]; first | done | rfl, Below_drewN HB3.out _⟩
  subst he
  by_cases h1 : out.length = 1
  rotate_left
  · have e1 : ((out.length : Int) == 1) = false := beq_eq_false_iff_ne.2 (by omega)
    have HV := hide (validQ_len HL.out h1)
    generalize out.length = n at *
    clear h1
    go_wp2_with fail
    go_quiet (fail)
    go_wp2
    go_ret
    exact ⟨by rw [HV.out]; first | done | rfl, Below_drewN HB3.out _⟩
  obtain ⟨x, rfl⟩ := List.length_eq_one_iff.1 h1
  obtain ⟨b, off, rfl, hat⟩ := HSL.out (show 0 < 1 by decide)
  obtain ⟨c0, c1, _⟩ := hat 0 (show 0 < 1 by decide)
  have hHV := validQ_one HL.out
  have q0 : w3.cell? ⟨b, off, none⟩ = some (.int .i64 x.kind) := by simpa using c0
  have q1 : w3.cell? ⟨b, off + 1, none⟩ = some (.string (bsQ x.text)) := by simpa using c1
  have r0 := HR3.out.cell 0
  have r1 := HR3.out.cell 1
  have hxt := HXT.out x
  have HV := hide hHV
  have el : ([x] : List Lx).length = 1 := rfl
  rw [el]
  clear hat c0 c1 h1 hHV
  generalize bsQ x.text = sx at *
  cases hk : (x.kind == k) with
  | false =>
    have HV := hide (show validQ k t = false by rw [HV.out, hk]; rfl)
    go_wp2_with fail
    go_quiet (fail)
    go_wp2
    go_ret
    exact ⟨by rw [HV.out]; first | done | rfl, Below_drewN HB3.out _⟩
  | true =>
    cases ht : (x.text == t) with
    | false =>
      have HV := hide (show validQ k t = false by rw [HV.out, hk, ht]; rfl)
      rw [ht] at hxt
      clear ht
      go_wp2_with fail
      go_quiet (fail)
      go_wp2
      go_ret
      exact ⟨by rw [HV.out]; first | done | rfl, Below_drewN HB3.out _⟩
    | true =>
      have HV := hide (show validQ k t = true by rw [HV.out, hk, ht]; rfl)
      rw [ht] at hxt
      clear ht
      go_wp2_with fail
      go_quiet (fail)
      go_wp2
      go_ret
      exact ⟨by rw [HV.out]; first | done | rfl, Below_drewN HB3.out _⟩
set_option maxHeartbeats 4000000 in
set_option maxRecDepth 20000 in
theorem refValidQ_any (k p : Int) (t : List UInt8) (w : World) (hl : t.length ≤ 200) :
    Calls Tryz.prog 23 #[lxV k t p] w fun e w' => e = .returned (.bool (validQ k t)) ∧ Below w.heap.size w w' := by
  have hm : validQ k t = true → 0 ≤ k ∧ k ≤ 6 := fun h => by
    obtain ⟨x, _, _, _, _, h1, h2, _⟩ := valid_more h
    exact ⟨h1, h2⟩
  by_cases hr : k < 0 ∨ 6 < k
  · have HV := hide (show validQ k t = false from Bool.eq_false_iff.2 fun h => by have := hm h; omega)
    unfold lxV
    generalize bsQ t = s at *
    clear hm
    by_cases h0 : k < 0
    · go_enter Tryz.func23, Tryz.ntmps23
      go_wp2
      go_ret
      exact ⟨by rw [HV.out]; first | done | rfl, (Below.refl _ _).alloc (Nat.le_refl _) _⟩
    · have h6 : 6 < k := by omega
      go_enter Tryz.func23, Tryz.ntmps23
      go_wp2
      go_ret
      exact ⟨by rw [HV.out]; first | done | rfl, (Below.refl _ _).alloc (Nat.le_refl _) _⟩
  have h0 : ¬ k < 0 := by omega
  have h6 : ¬ 6 < k := by omega
  have hfl := refFormQ_len k t (by omega)
  have FO := hide (fun W : World => refFormQ_any k p t W (by omega))
  obtain ⟨⟨out, a, er⟩, hlex⟩ : ∃ q, lexQ (refFormQ k t) = q := ⟨_, rfl⟩
  have LX := hide (fun (W : World) => refLex_at (refFormQ k t) (by omega) out a er hlex W)
  have hee : er ≠ 0 → validQ k t = false := fun he => by
    by_cases hx : k = 3 ∧ t = []
    · obtain ⟨rfl, rfl⟩ := hx; kernel_rfl
    · rw [refFormQ_eq hx] at hlex; exact validQ_er hlex he
  have hll : er = 0 → out.length ≠ 1 → validQ k t = false := fun he h1 => by
    by_cases hx : k = 3 ∧ t = []
    · obtain ⟨rfl, rfl⟩ := hx; kernel_rfl
    · rw [refFormQ_eq hx] at hlex; exact validQ_len hlex h1
  have hoo : ∀ x, er = 0 → out = [x] → validQ k t = (x.kind == k && x.text == t) ∧ (validQ k t = true → x.at0 = 0) := fun x he h1 => by
    by_cases hx : k = 3 ∧ t = []
    · obtain ⟨rfl, rfl⟩ := hx
      have e : lexQ (refFormQ 3 []) = ([], 0, 3) := by kernel_rfl
      rw [e] at hlex
      have := (Prod.mk.inj (Prod.mk.inj hlex).2).2
      subst he
      exact absurd this (by decide)
    · rw [refFormQ_eq hx, he, h1] at hlex
      refine ⟨validQ_one hlex, fun hv => ?_⟩
      obtain ⟨y, hy, _, _, hy0, _⟩ := valid_more hv
      rw [hlex] at hy
      have := (List.cons.inj (Prod.mk.inj hy).1).1
      rw [this]; exact hy0
  unfold lxV at FO ⊢
  have HE := hide hee
  have HLL := hide hll
  have HOO := hide hoo
  have hxt : ∀ x : Lx, ((bsQ x.text).toList == (bsQ t).toList) = (x.text == t) := fun x => bsQ_beq _ _
  have HXT := hide hxt
  generalize bsQ (refFormQ k t) = F at *
  generalize hs : bsQ t = s at *
  clear hfl hlex hl hxt hs hm hr hee hll hoo
  go_enter Tryz.func23, Tryz.ntmps23
  go_wp2_with fail
  obtain ⟨W1, hW1⟩ : ∃ W1, w.alloc (.cells #[.int .i64 k, .string s, .int .i64 p] 33) = W1 := ⟨_, rfl⟩
  rw [hW1]
  have HR1 := hide (show Row W1 w.heap.size 33 #[.int .i64 k, .string s, .int .i64 p] by rw [← hW1]; exact Row.new _ _ _)
  have HB1 := hide (show Below w.heap.size w W1 by rw [← hW1]; exact (Below.refl _ _).alloc (Nat.le_refl _) _)
  clear hW1
  refine (FO.out _).mono ?_
  rintro e w2 ⟨rfl, hb⟩
  have HR2 := hide (show Row w2 w.heap.size 33 #[.int .i64 k, .string s, .int .i64 p] from HR1.out.below hb HR1.out.lt)
  have HB2 := hide (HB1.out.trans (hb.mono HB1.out.size))
  clear hb HR1 HB1
  go_wp2_with fail
  refine (LX.out _).mono ?_
  rintro e w3 ⟨A, cap, rfl, hsl, hb⟩
  have HR3 := hide (show Row w3 w.heap.size 33 #[.int .i64 k, .string s, .int .i64 p] from HR2.out.below hb HR2.out.lt)
  have HB3 := hide (HB2.out.trans (hb.mono HB2.out.size))
  have HSL := hide hsl
  clear hb hsl HR2 HB2
  by_cases he : er = 0
  rotate_left
  · have e1 : (er == 0) = false := beq_eq_false_iff_ne.2 he
    have HV := hide (HE.out he)
    clear he
    go_wp2_with fail
    go_quiet (fail)
    go_wp2
    go_ret
    exact ⟨by rw [HV.out]; first | done | rfl, Below_drewN HB3.out _⟩
  subst he
  by_cases h1 : out.length = 1
  rotate_left
  · have e1 : ((out.length : Int) == 1) = false := beq_eq_false_iff_ne.2 (by omega)
    have HV := hide (HLL.out rfl h1)
    generalize out.length = n at *
    clear h1
    go_wp2_with fail
    go_quiet (fail)
    go_wp2
    go_ret
    exact ⟨by rw [HV.out]; first | done | rfl, Below_drewN HB3.out _⟩
  obtain ⟨x, rfl⟩ := List.length_eq_one_iff.1 h1
  obtain ⟨b, off, rfl, hat⟩ := HSL.out (show 0 < 1 by decide)
  obtain ⟨c0, c1, c2⟩ := hat 0 (show 0 < 1 by decide)
  obtain ⟨hv1, hv2⟩ := HOO.out x rfl rfl
  have q0 : w3.cell? ⟨b, off, none⟩ = some (.int .i64 x.kind) := by simpa using c0
  have q1 : w3.cell? ⟨b, off + 1, none⟩ = some (.string (bsQ x.text)) := by simpa using c1
  have q2 : w3.cell? ⟨b, off + 2, none⟩ = some (.int .i64 (x.at0 : Int)) := by simpa using c2
  have r0 := HR3.out.cell 0
  have r1 := HR3.out.cell 1
  have hxt := HXT.out x
  have HV := hide hv1
  have HV2 := hide hv2
  have el : ([x] : List Lx).length = 1 := rfl
  rw [el]
  clear hat c0 c1 c2 h1 hv1 hv2
  generalize bsQ x.text = sx at *
  by_cases ha : x.at0 = 0
  rotate_left
  · have e2 : ((x.at0 : Int) == 0) = false := beq_eq_false_iff_ne.2 (by omega)
    have HV := hide (show validQ k t = false from Bool.eq_false_iff.2 fun h => ha (HV2.out h))
    clear ha
    go_wp2_with fail
    go_quiet (fail)
    go_wp2
    go_ret
    exact ⟨by rw [HV.out]; first | done | rfl, Below_drewN HB3.out _⟩
  have e2 : ((x.at0 : Int) == 0) = true := beq_iff_eq.2 (by omega)
  clear ha
  cases hk : (x.kind == k) with
  | false =>
    have HV := hide (show validQ k t = false by rw [HV.out, hk]; rfl)
    go_wp2_with fail
    go_quiet (fail)
    go_wp2
    go_ret
    exact ⟨by rw [HV.out]; first | done | rfl, Below_drewN HB3.out _⟩
  | true =>
    cases ht : (x.text == t) with
    | false =>
      have HV := hide (show validQ k t = false by rw [HV.out, hk, ht]; rfl)
      rw [ht] at hxt
      clear ht
      go_wp2_with fail
      go_quiet (fail)
      go_wp2
      go_ret
      exact ⟨by rw [HV.out]; first | done | rfl, Below_drewN HB3.out _⟩
    | true =>
      have HV := hide (show validQ k t = true by rw [HV.out, hk, ht]; rfl)
      rw [ht] at hxt
      clear ht
      go_wp2_with fail
      go_quiet (fail)
      go_wp2
      go_ret
      exact ⟨by rw [HV.out]; first | done | rfl, Below_drewN HB3.out _⟩
end Go.Proofs.YtjlpekjfmgcbdaaGreatDoor

/- Slices of lexemes with whatever offsets; contracts of Join of both. -/
set_option linter.unusedVariables false
set_option linter.unusedSimpArgs false
namespace Go.Proofs.YtjlpekjfmgcbdaaGreatDoor
open Go.RowKit Go.Shelf Go.Sort
/-- a lexeme with whatever offset -/
structure Ly where
  kind : Int
  text : List UInt8
  pos : Int
def LySl (W : World) (A : Option Addr) (xs : List Ly) : Prop :=
  0 < xs.length → ∃ b off, A = some ⟨b, off, none⟩ ∧ ∀ i (h : i < xs.length), W.cell? ⟨b, off + i * 3, none⟩ = some (.int .i64 xs[i].kind) ∧ W.cell? ⟨b, off + i * 3 + 1, none⟩ = some (.string (bsQ xs[i].text)) ∧ W.cell? ⟨b, off + i * 3 + 2, none⟩ = some (.int .i64 xs[i].pos)
theorem LySl.below {W W' : World} {A : Option Addr} {xs : List Ly} (h : LySl W A xs) (hb : Below W.heap.size W W') : LySl W' A xs := by
  intro hp
  obtain ⟨b, off, rfl, hat⟩ := h hp
  have hbz : b < W.heap.size := World.block_lt_of_cell? W _ (hat 0 hp).1
  refine ⟨b, off, rfl, fun i hi => ?_⟩
  obtain ⟨h1, h2, h3⟩ := hat i hi
  exact ⟨(hb.cell (p := ⟨b, _, none⟩) hbz).trans h1, (hb.cell (p := ⟨b, _, none⟩) hbz).trans h2, (hb.cell (p := ⟨b, _, none⟩) hbz).trans h3⟩
theorem LySl.at {W : World} {A : Option Addr} {xs : List Ly} (h : LySl W A xs) {i : Nat} (hi : i < xs.length) :
    ∃ b off, A = some ⟨b, off, none⟩ ∧ b < W.heap.size ∧ ∀ W', Below W.heap.size W W' → W'.cell? ⟨b, off + i * 3, none⟩ = some (.int .i64 xs[i].kind) ∧ W'.cell? ⟨b, off + i * 3 + 1, none⟩ = some (.string (bsQ xs[i].text)) ∧ W'.cell? ⟨b, off + i * 3 + 2, none⟩ = some (.int .i64 xs[i].pos) := by
  obtain ⟨b, off, rfl, hat⟩ := id h (by omega)
  have hbz : b < W.heap.size := World.block_lt_of_cell? W _ (hat i hi).1
  refine ⟨b, off, rfl, hbz, fun W' hb => ?_⟩
  obtain ⟨h1, h2, h3⟩ := hat i hi
  exact ⟨(hb.cell (p := ⟨b, _, none⟩) hbz).trans h1, (hb.cell (p := ⟨b, _, none⟩) hbz).trans h2, (hb.cell (p := ⟨b, _, none⟩) hbz).trans h3⟩
def lyOf (x : Lx) : Ly := ⟨x.kind, x.text, (x.at0 : Int)⟩
theorem LxSl.ly {W : World} {A : Option Addr} {xs : List Lx} (h : LxSl W A xs) : LySl W A (xs.map lyOf) := by
  intro hp
  rw [List.length_map] at hp
  obtain ⟨b, off, rfl, hat⟩ := h hp
  refine ⟨b, off, rfl, fun i hi => ?_⟩
  rw [List.length_map] at hi
  simp only [List.getElem_map, lyOf]
  exact hat i hi
/-- the forms of lexemes -/
def formsY (ys : List Ly) : List (List UInt8) := ys.map fun y => formQ y.kind y.text
def okY (y : Ly) : Bool := validQ y.kind y.text
/-- what Join returns -/
def joinY (ys : List Ly) : List UInt8 := if ys.all okY then Lib.join (formsY ys) [32] else []
theorem joinY_no {ys : List Ly} {i : Nat} (hi : i < ys.length) (h : okY ys[i] = false) : joinY ys = [] := by
  unfold joinY
  rw [if_neg]
  intro hall
  rw [List.all_eq_true.1 hall _ (List.getElem_mem hi)] at h
  cases h
theorem joinY_yes {ys : List Ly} (h : ∀ i, ∀ hi : i < ys.length, okY ys[i] = true) : joinY ys = Lib.join (formsY ys) [32] := by
  unfold joinY
  rw [if_pos]
  rw [List.all_eq_true]
  intro y hy
  obtain ⟨i, hi, rfl⟩ := List.mem_iff_getElem.1 hy
  exact h i hi
theorem infoStrQ : (Tryz.prog.info? 9).map (fun i => (i.zero, i.size, i.bytes)) = some (some (.string ⟨#[]⟩), 1, 16) := by kernel_rfl
def strsC (xs : List (List UInt8)) : List Value := xs.map fun x => Value.string (bsQ x)
theorem strsC_snoc (xs : List (List UInt8)) (x : List UInt8) : strsC (xs ++ [x]) = strsC xs ++ [.string (bsQ x)] := by unfold strsC; simp
theorem join_lenQ : ∀ (xs : List (List UInt8)) (m : Nat), (∀ x ∈ xs, x.length ≤ m) → (Lib.join xs [32]).length ≤ xs.length * (m + 1)
  | [], m, _ => Nat.zero_le _
  | x :: r, m, h => by
    have ht : ∀ r : List (List UInt8), (∀ x ∈ r, x.length ≤ m) → (Lib.joinTail [32] r).length ≤ r.length * (m + 1) := by
      intro r
      induction r with
      | nil => intro _; exact Nat.zero_le _
      | cons y r ih =>
        intro h
        have h1 := h y List.mem_cons_self
        have h2 := ih (fun z hz => h z (List.mem_cons_of_mem _ hz))
        have e : Lib.joinTail [32] (y :: r) = [32] ++ y ++ Lib.joinTail [32] r := by simp [Lib.joinTail]
        have h3 : (y :: r).length * (m + 1) = r.length * (m + 1) + (m + 1) := by rw [List.length_cons, Nat.succ_mul]
        rw [e, List.length_append, List.length_append, h3]
        show 1 + y.length + _ ≤ _
        omega
    rw [Lib.join_cons, List.length_append, List.length_cons, Nat.succ_mul]
    have h1 := h x List.mem_cons_self
    have h2 := ht r (fun z hz => h z (List.mem_cons_of_mem _ hz))
    omega
theorem stringsJoin_own (xs : List (List UInt8)) (base cap : Nat) (A : Option Addr) (w : World) (h : w.ownsRow base 9 1 (.slice A xs.length cap) xs.length (strsC xs)) (hl : xs.length ≤ 1000000) (hj : (Lib.join xs [32]).length ≤ 140737488355328) :
    Calls Tryz.prog 52 #[.slice A xs.length cap, .string ⟨#[32]⟩] w fun e w' => e = .returned (.string (bsQ (Lib.join xs [32]))) ∧ Below w.heap.size w w' := by
  rcases Nat.eq_zero_or_pos xs.length with h0 | h0
  · obtain rfl : xs = [] := List.eq_nil_of_length_eq_zero h0
    exact (Tryz.strings_Join_none A cap ⟨#[32]⟩ w).mono fun e w' ⟨he, hw'⟩ => ⟨he, hw' ▸ Below.refl _ _⟩
  · obtain ⟨g, cp, hv, hg⟩ := h.form h0
    cases hv
    have hcs : ∀ j, j < xs.length → w.cell? ⟨g, j, none⟩ = (strsC xs)[j]? := fun j hj => World.ownsRow.cellAt h j (by omega)
    have hb : g < w.heap.size := World.block_lt_of_cell? w _ (hcs 0 h0 |>.trans (by unfold strsC; rw [List.getElem?_map, List.getElem?_eq_getElem h0]; rfl))
    have hm : (xs.map bsQ).map (fun s => s.data.toList) = xs := by rw [List.map_map]; exact List.map_id _
    have hc : xs.length ≤ cap := by
      obtain ⟨_, h2⟩ := h
      rcases h2 with ⟨hn, _⟩ | ⟨g2, c2, cur, hv, _, hg2, hcur, hrest⟩
      · cases hn
      · cases hv
        first
          | omega
          | (have := hrest; simp at *; omega)
    have := Tryz.strings_Join g 0 cap (xs.map bsQ) ⟨#[32]⟩ w (fun j x hx => by
      rw [List.getElem?_map] at hx
      obtain ⟨y, hy, rfl⟩ := Option.map_eq_some_iff.1 hx
      have hj := (List.getElem?_eq_some_iff.1 hy).1
      rw [Nat.zero_add, hcs j hj]
      unfold strsC
      rw [List.getElem?_map, hy]; rfl) hb (by rw [List.length_map]; omega) (by rw [List.length_map]; exact hc) (by rw [hm]; exact hj)
    rw [List.length_map, hm] at this
    exact this
set_option maxHeartbeats 4000000 in
set_option maxRecDepth 20000 in
theorem JoinQ_any (A : Option Addr) (cap : Nat) (ys : List Ly) (w : World) (hs : LySl w A ys) (hl : ys.length ≤ 600) (ht : ∀ y ∈ ys, y.text.length ≤ 1000) (hG : Gl w) :
    Calls Tryz.prog 20 #[.slice A ys.length cap] w fun e w' => e = .returned (.string (bsQ (joinY ys))) ∧ Below w.heap.size w w' := by
  obtain ⟨n, hn⟩ : ∃ n, ys.length = n := ⟨_, rfl⟩
  rw [hn]
  have Hn := hide hn
  have hn6 : n ≤ 600 := by omega
  have Hs := hide hs
  have HG := hide hG
  have Ht := hide (fun (i : Nat) (hi : i < ys.length) => ht _ (List.getElem_mem hi))
  have HTx := hide ht
  clear hs hG ht hl hn
  go_enter Tryz.func20, Tryz.ntmps20
  go_wp2_with fail
  go_loopw [3, 8] (fun v3 v8 wr => ∃ i : Nat, v8 = .int .i64 (i : Int) ∧ i ≤ n ∧ (∀ j, j < i → ∀ hj : j < ys.length, okY ys[j] = true) ∧ wr.ownsRow w.heap.size 9 1 v3 i (strsC (formsY (ys.take i))) ∧ Below w.heap.size w wr) (fun _ v _ => n - (intOf v).toNat)
  case atStart => exact ⟨0, rfl, Nat.zero_le _, (fun j h => absurd h (by omega)), World.ownsRow_nil _ _ _ _, Below.refl _ _⟩
  case round =>
    obtain ⟨i, rfl, hi, hall, hown, hb⟩ := hrel
    have Hb := hide hb
    have Hall := hide hall
    have Hown := hide hown
    obtain ⟨A3, cap3, rfl⟩ := own_slG hown
    clear hall hown hb
    by_cases hlt : i < n
    · have hi' : (i : Int) < (n : Int) := by omega
      have hi0 : (0 : Int) ≤ (i : Int) := by omega
      have hw1 : IntKind.i64.wrap ((i : Int) + 1) = (i : Int) + 1 := IntWalk.i64_in _ (by omega)
      have hix : i < ys.length := by rw [Hn.out]; exact hlt
      obtain ⟨b, off, rfl, hbz, hat⟩ := Hs.out.at hix
      obtain ⟨c0, c1, c2⟩ := hat wr Hb.out
      have htx := Ht.out i hix
      have VA := hide (fun (W : World) (hg : Gl W) => ValidQ_any ys[i].kind ys[i].pos ys[i].text W (by omega) hg)
      have FA := hide (fun (W : World) => formQ_any ys[i].kind ys[i].pos ys[i].text W (by omega))
      have hok : validQ ys[i].kind ys[i].text = okY ys[i] := rfl
      rw [hok] at VA
      unfold lxV at VA FA
      have hsn : formsY (ys.take (i + 1)) = formsY (ys.take i) ++ [formQ ys[i].kind ys[i].text] := by
        unfold formsY; rw [List.take_succ_eq_append_getElem hix, List.map_append]; rfl
      have HSN := hide hsn
      have HNO := hide (fun h => joinY_no hix h)
      have HOK := hide (fun (j : Nat) (hj : j < i + 1) (hjl : j < ys.length) (h : okY ys[i] = true) => show okY ys[j] = true from by
        rcases Nat.lt_or_ge j i with h1 | h1
        · exact Hall.out j h1 hjl
        · obtain rfl : j = i := by omega
          exact h)
      obtain ⟨y, hy⟩ : ∃ y, ys[i]'hix = y := ⟨_, rfl⟩
      rw [hy] at c0 c1 c2 VA FA HSN HNO HOK
      obtain ⟨T, hT⟩ : ∃ T, formQ y.kind y.text = T := ⟨_, rfl⟩
      rw [hT] at FA HSN
      generalize bsQ y.text = sy at *
      clear hy hT hok htx hsn hat
      go_wp2_with fail
      obtain ⟨W1, hW1⟩ : ∃ W1, wr.alloc (.cells #[.int .i64 y.kind, .string sy, .int .i64 y.pos] 33) = W1 := ⟨_, rfl⟩
      rw [hW1]
      have HR1 := hide (show Row W1 wr.heap.size 33 #[.int .i64 y.kind, .string sy, .int .i64 y.pos] by rw [← hW1]; exact Row.new _ _ _)
      have HB1 := hide (show Below w.heap.size w W1 by rw [← hW1]; exact Hb.out.alloc Hb.out.size _)
      have HO1 := hide (show W1.ownsRow w.heap.size 9 1 (.slice A3 i cap3) i (strsC (formsY (ys.take i))) by rw [← hW1]; exact Hown.out.alloc _)
      clear hW1 c0 c1 c2
      refine (VA.out _ (HG.out.below HB1.out)).mono ?_
      rintro e w2 ⟨rfl, hb2⟩
      have HR2 := hide (show Row w2 wr.heap.size 33 #[.int .i64 y.kind, .string sy, .int .i64 y.pos] from HR1.out.below hb2 HR1.out.lt)
      have HB2 := hide (HB1.out.trans (hb2.mono HB1.out.size))
      have HO2 := hide (ownsRow_below HO1.out hb2)
      clear hb2 HR1 HB1 HO1
      cases hv : okY y with
      | false =>
        have HV := hide (HNO.out hv)
        clear HOK
        go_wp2
        go_ret
        exact ⟨by rw [HV.out]; first | done | rfl, HB2.out⟩
      | true =>
        have HOK2 := hide (fun (j : Nat) (hj : j < i + 1) (hjl : j < ys.length) => HOK.out j hj hjl hv)
        have r0 := HR2.out.cell 0
        have r1 := HR2.out.cell 1
        have r2 := HR2.out.cell 2
        clear hv HNO HOK
        go_wp2_with fail
        refine (FA.out _).mono ?_
        rintro e w3 ⟨rfl, hb3⟩
        have HB3 := hide (HB2.out.trans (hb3.mono HB2.out.size))
        have HO3 := hide (ownsRow_below HO2.out hb3)
        clear hb3 r0 r1 r2 HR2 HB2 HO2
        go_wp2_with (at_builtin; have hown9 := HO3.out.alloc (.cells #[.string (bsQ T)] 9); refine wpList_append_at _ rfl _ _ 38 rfl w.heap.size 9 infoStrQ Tryz.underlying38 rfl (by decide) _ i (strsC (formsY (ys.take i))) rfl hown9 ⟨w3.heap.size, 0, none⟩ 1 1 [.string (bsQ T)] rfl rfl (cells_new _ _ rfl) (by intro u hu; simp only [List.mem_cons, List.not_mem_nil, or_false] at hu; rcases hu with rfl; rfl) (by unfold maxLen; omega) (by omega) (by rw [World.size_alloc]; have := HB3.out.size; omega) ?_; intro v' w5 hown5 hgrow5 _ _)
        have HO5 := hide hown5
        have HG5 := hide hgrow5
        clear hown5 hgrow5
        go_roundw
        case rel =>
          refine ⟨i + 1, by go_num, by omega, HOK2.out, ?_, ?_⟩
          · rw [HSN.out, strsC_snoc]; exact HO5.out
          · exact (HB3.out.alloc HB3.out.size _).grown HG5.out (by rw [World.size_alloc]; have := HB3.out.size; omega) (fun j hj => (HO3.out.lt j hj).1)
        case measure => simp [intOf]; omega
    · obtain rfl : i = n := by omega
      have hfl : (formsY ys).length = i := by unfold formsY; rw [List.length_map]; exact Hn.out
      have hx : ∀ x ∈ formsY ys, x.length ≤ 4012 := by
        intro x hx
        obtain ⟨y, hy, rfl⟩ := List.mem_map.1 hx
        have h1 := HTx.out y hy
        have h2 := formQ_len y.kind y.text (by omega)
        omega
      have hjl := join_lenQ (formsY ys) 4012 hx
      rw [hfl] at hjl
      have hj2 : (Lib.join (formsY ys) [32]).length ≤ 140737488355328 := by
        have := Nat.mul_le_mul_right 4013 hn6
        omega
      have HV := hide (joinY_yes (ys := ys) (fun j hj => Hall.out j (by rw [← Hn.out]; exact hj) hj))
      have hown := Hown.out
      rw [List.take_of_length_le (by rw [Hn.out]; exact Nat.le_refl _)] at hown
      rw [← hfl] at hown
      have JN := hide (stringsJoin_own (formsY ys) w.heap.size cap3 A3 wr hown (by omega) hj2)
      rw [hfl] at JN
      clear hown hfl hx hjl hj2
      have hi' : ¬ (i : Int) < (i : Int) := by omega
      go_wp2_with fail
      refine JN.out.mono ?_
      rintro e w1 ⟨rfl, hb1⟩
      have Hb1 := hide hb1
      clear hb1
      go_wp2
      go_ret
      exact ⟨by rw [HV.out]; first | done | rfl, Hb.out.trans (Hb1.out.mono Hb.out.size)⟩
/-- what the reference has joined -/
theorem joinTail_snocQ (sep : List UInt8) (r : List (List UInt8)) (y : List UInt8) : Lib.joinTail sep (r ++ [y]) = Lib.joinTail sep r ++ (sep ++ y) := by simp [Lib.joinTail]
theorem join_snocQ (xs : List (List UInt8)) (y sep : List UInt8) (h : xs ≠ []) : Lib.join (xs ++ [y]) sep = Lib.join xs sep ++ (sep ++ y) := by
  cases xs with
  | nil => exact absurd rfl h
  | cons x r => rw [List.cons_append, Lib.join_cons, Lib.join_cons, joinTail_snocQ, List.append_assoc]
set_option maxHeartbeats 4000000 in
set_option maxRecDepth 20000 in
theorem refJoinQ_any (A : Option Addr) (cap : Nat) (ys : List Ly) (w : World) (hs : LySl w A ys) (hl : ys.length ≤ 600) (ht : ∀ y ∈ ys, y.text.length ≤ 200) :
    Calls Tryz.prog 24 #[.slice A ys.length cap] w fun e w' => e = .returned (.string (bsQ (joinY ys))) ∧ Below w.heap.size w w' := by
  obtain ⟨n, hn⟩ : ∃ n, ys.length = n := ⟨_, rfl⟩
  rw [hn]
  have Hn := hide hn
  have hn6 : n ≤ 600 := by omega
  have Hs := hide hs
  have Ht := hide (fun (i : Nat) (hi : i < ys.length) => ht _ (List.getElem_mem hi))
  have HJL := hide (fun (i : Nat) (hi : i ≤ n) => show (Lib.join (formsY (ys.take i)) [32]).length ≤ 1000000 from by
    have hx : ∀ x ∈ formsY (ys.take i), x.length ≤ 812 := by
      intro x hx
      obtain ⟨y, hy, rfl⟩ := List.mem_map.1 hx
      have h1 := ht y (List.mem_of_mem_take hy)
      have h2 := formQ_len y.kind y.text (by omega)
      omega
    have h1 := join_lenQ _ 812 hx
    have h2 : (formsY (ys.take i)).length = i := by unfold formsY; rw [List.length_map, List.length_take]; omega
    rw [h2] at h1
    have := Nat.mul_le_mul_right 813 (Nat.le_trans hi hn6)
    omega)
  clear hs ht hl hn
  go_enter Tryz.func24, Tryz.ntmps24
  go_wp2_with fail
  go_loopw [3, 4] (fun v3 v4 wr => ∃ i : Nat, v4 = .int .i64 (i : Int) ∧ i ≤ n ∧ (∀ j, j < i → ∀ hj : j < ys.length, okY ys[j] = true) ∧ v3 = .string (bsQ (Lib.join (formsY (ys.take i)) [32])) ∧ Below w.heap.size w wr) (fun _ v _ => n - (intOf v).toNat)
  case atStart => exact ⟨0, rfl, Nat.zero_le _, (fun j h => absurd h (by omega)), rfl, Below.refl _ _⟩
  case round =>
    obtain ⟨i, rfl, hi, hall, rfl, hb⟩ := hrel
    have Hb := hide hb
    have Hall := hide hall
    clear hall hb
    by_cases hlt : i < n
    · have hi' : (i : Int) < (n : Int) := by omega
      have hi0 : (0 : Int) ≤ (i : Int) := by omega
      have hw1 : IntKind.i64.wrap ((i : Int) + 1) = (i : Int) + 1 := IntWalk.i64_in _ (by omega)
      have hix : i < ys.length := by rw [Hn.out]; exact hlt
      obtain ⟨b, off, rfl, hbz, hat⟩ := Hs.out.at hix
      obtain ⟨c0, c1, c2⟩ := hat wr Hb.out
      have HAT := hide hat
      have htx := Ht.out i hix
      have VA := hide (fun (W : World) => refValidQ_any ys[i].kind ys[i].pos ys[i].text W htx)
      have FA := hide (fun (W : World) => refFormQ_any ys[i].kind ys[i].pos ys[i].text W (by omega))
      have hok : validQ ys[i].kind ys[i].text = okY ys[i] := rfl
      rw [hok] at VA
      unfold lxV at VA FA
      have HRF := hide (fun (h : okY ys[i] = true) => show refFormQ ys[i].kind ys[i].text = formQ ys[i].kind ys[i].text from refFormQ_eq (by
        rintro ⟨h1, h2⟩
        rw [← hok, h1, h2] at h
        revert h
        have : validQ 3 [] = false := by kernel_rfl
        rw [this]; decide))
      have hsn : formsY (ys.take (i + 1)) = formsY (ys.take i) ++ [formQ ys[i].kind ys[i].text] := by
        unfold formsY; rw [List.take_succ_eq_append_getElem hix, List.map_append]; rfl
      have hft : (formsY (ys.take i)) = [] ↔ i = 0 := by
        unfold formsY
        rw [List.map_eq_nil_iff]
        refine ⟨fun h => ?_, fun h => by rw [h, List.take_zero]⟩
        have := congrArg List.length h
        rw [List.length_take, List.length_nil] at this; omega
      have hj1 := HJL.out i (by omega)
      have hj2 := HJL.out (i + 1) (by omega)
      have HSN := hide (show (0 < i → Lib.join (formsY (ys.take (i + 1))) [32] = (Lib.join (formsY (ys.take i)) [32] ++ [32]) ++ formQ ys[i].kind ys[i].text) ∧ (i = 0 → Lib.join (formsY (ys.take (i + 1))) [32] = formQ ys[i].kind ys[i].text ∧ Lib.join (formsY (ys.take i)) [32] = []) by
        rw [hsn]
        refine ⟨fun h => ?_, fun h => ?_⟩
        · rw [join_snocQ _ _ _ (fun e => by have := hft.1 e; omega), List.append_assoc]
        · rw [hft.2 h]
          exact ⟨by rw [List.nil_append, Lib.join_cons]; simp [Lib.joinTail], rfl⟩)
      have HNO := hide (fun h => joinY_no hix h)
      have HOK := hide (fun (j : Nat) (hj : j < i + 1) (hjl : j < ys.length) (h : okY ys[i] = true) => show okY ys[j] = true from by
        rcases Nat.lt_or_ge j i with h1 | h1
        · exact Hall.out j h1 hjl
        · obtain rfl : j = i := by omega
          exact h)
      have hFl := formQ_len ys[i].kind ys[i].text (by omega)
      obtain ⟨y, hy⟩ : ∃ y, ys[i]'hix = y := ⟨_, rfl⟩
      rw [hy] at c0 c1 c2 VA FA HSN HNO HOK HRF HAT htx hFl
      obtain ⟨J, hJ⟩ : ∃ J, Lib.join (formsY (ys.take i)) [32] = J := ⟨_, rfl⟩
      rw [hJ] at HSN hj1 ⊢
      obtain ⟨J2, hJ2⟩ : ∃ J2, Lib.join (formsY (ys.take (i + 1))) [32] = J2 := ⟨_, rfl⟩
      rw [hJ2] at HSN hj2
      have HJ2 := hide hJ2
      clear hJ2
      generalize bsQ y.text = sy at *
      clear hy hok hsn hft hat hJ
      go_wp2_with fail
      refine (VA.out _).mono ?_
      rintro e w2 ⟨rfl, hb2⟩
      have HB2 := hide (Hb.out.trans (hb2.mono Hb.out.size))
      clear hb2 c0 c1 c2
      cases hv : okY y with
      | false =>
        have HV := hide (HNO.out hv)
        clear HOK HRF
        go_wp2
        go_ret
        exact ⟨by rw [HV.out]; first | done | rfl, HB2.out⟩
      | true =>
        have HOK2 := hide (fun (j : Nat) (hj : j < i + 1) (hjl : j < ys.length) => HOK.out j hj hjl hv)
        have hrf := HRF.out hv
        rw [hrf] at FA
        obtain ⟨T, hT⟩ : ∃ T, formQ y.kind y.text = T := ⟨_, rfl⟩
        rw [hT] at FA HSN hFl
        obtain ⟨c0, c1, c2⟩ := HAT.out w2 HB2.out
        clear hv HNO HOK HRF hrf hT
        by_cases h0 : 0 < i
        · have h0' : (0 : Int) < (i : Int) := by omega
          have a1 : ∀ W, (Op.stringOp .add (bsQ J) ⟨#[32]⟩).run Tryz.prog W = .ok (.string (bsQ (J ++ [32]))) W := fun W => catQ _ [32] (by show _ + 1 ≤ _; omega) W
          have a2 : ∀ W, (Op.stringOp .add (bsQ (J ++ [32])) (bsQ T)).run Tryz.prog W = .ok (.string (bsQ (J ++ [32] ++ T))) W := fun W => catQ _ _ (by rw [List.length_append]; show _ + 1 + _ ≤ _; omega) W
          have HE := hide (HSN.out.1 h0)
          clear HSN
          generalize J ++ [32] ++ T = J3 at *
          generalize J ++ [32] = J4 at *
          go_wp2_with fail
          refine (FA.out _).mono ?_
          rintro e w3 ⟨rfl, hb3⟩
          have HB3 := hide (HB2.out.trans (hb3.mono HB2.out.size))
          clear hb3 c0 c1 c2
          go_wp2
          go_roundw
          case rel => exact ⟨i + 1, by go_num, by omega, HOK2.out, by rw [HJ2.out, HE.out], HB3.out⟩
          case measure => simp [intOf]; omega
        · obtain rfl : i = 0 := by omega
          obtain ⟨e1, e2⟩ := HSN.out.2 rfl
          subst e2
          simp only [Nat.zero_mul, Nat.add_zero] at c0 c1 c2
          have a2 : ∀ W, (Op.stringOp .add (bsQ []) (bsQ T)).run Tryz.prog W = .ok (.string (bsQ T)) W := fun W => catQ [] _ (by show 0 + _ ≤ _; omega) W
          have HE := hide e1
          clear HSN e1
          go_wp2_with fail
          refine (FA.out _).mono ?_
          rintro e w3 ⟨rfl, hb3⟩
          have HB3 := hide (HB2.out.trans (hb3.mono HB2.out.size))
          clear hb3 c0 c1 c2
          go_wp2
          go_roundw
          case rel => exact ⟨1, rfl, by omega, HOK2.out, by rw [HJ2.out, HE.out], HB3.out⟩
          case measure => simp [intOf]; omega
    · obtain rfl : i = n := by omega
      have hi' : ¬ (i : Int) < (i : Int) := by omega
      have HV := hide (joinY_yes (ys := ys) (fun j hj => Hall.out j (by rw [← Hn.out]; exact hj) hj))
      have HT := hide (show ys.take i = ys from List.take_of_length_le (by rw [Hn.out]; exact Nat.le_refl _))
      clear Hall
      go_wp2
      go_ret
      exact ⟨by rw [HV.out, HT.out]; first | done | rfl, Hb.out⟩
end Go.Proofs.YtjlpekjfmgcbdaaGreatDoor

/- Contracts of qlex's Reserved and of the reference's Words. -/
set_option linter.unusedVariables false
set_option linter.unusedSimpArgs false
namespace Go.Proofs.YtjlpekjfmgcbdaaGreatDoor
open Go.RowKit Go.Shelf
/-- the words of the language -/
def langQ : List (List UInt8) := [[97, 110, 100, 114], [111, 114, 114], [120, 111, 114, 114], [116, 114, 117, 101], [102, 97, 108, 115, 101], [107, 110, 111, 119, 110], [111, 110, 99, 101], [104, 105, 115, 116, 111, 114, 105, 99, 97, 108, 108, 121], [101, 118, 101, 110, 116, 117, 97, 108, 108, 121], [97, 108, 119, 97, 121, 115], [115, 105, 110, 99, 101], [117, 110, 116, 105, 108], [114, 105, 115, 101], [102, 97, 108, 108], [112, 111, 115, 101, 100, 103, 101], [110, 101, 103, 101, 100, 103, 101], [99, 104, 97, 110, 103, 101], [111, 99, 99, 117, 114, 115], [98, 101, 99, 111, 109, 101, 115], [105, 102], [111, 114], [119, 104, 105, 108, 101]]
/-- a map's entries, all true -/
def entQ : List (List UInt8) → Nat → List MapEntry
  | [], _ => []
  | k :: ks, n => { key := .string (bsQ k), val := .bool true, born := n } :: entQ ks (n + 1)
theorem sameNow_str (a b : List UInt8) : Instr.sameNow .string (.string (bsQ a)) (.string (bsQ b)) = some (a == b) := by
  have h : Instr.sameNow .string (.string (bsQ a)) (.string (bsQ b)) = some ((bsQ a).data == (bsQ b).data) := by
    first
      | rfl
      | simp [Instr.sameNow]
  rw [h]
  congr 1
  by_cases e : a = b
  · subst e; simp
  · have h1 : (a == b) = false := beq_eq_false_iff_ne.2 e
    have h2 : ((bsQ a).data == (bsQ b).data) = false := beq_eq_false_iff_ne.2 fun h => e (bsQ_inj (ByteArray.ext h))
    rw [h1, h2]
theorem find_ent (x : List UInt8) : ∀ (ks : List (List UInt8)) (n j : Nat), (x ∈ ks → ∃ i, Instr.findNow .string (.string (bsQ x)) (entQ ks n) j = some (some (i, .bool true))) ∧ (x ∉ ks → Instr.findNow .string (.string (bsQ x)) (entQ ks n) j = some none)
  | [], n, j => ⟨(fun h => by cases h), fun _ => rfl⟩
  | k :: ks, n, j => by
    obtain ⟨i1, i2⟩ := find_ent x ks (n + 1) (j + 1)
    unfold entQ Instr.findNow
    rw [sameNow_str]
    by_cases h : x = k
    · subst h
      rw [beq_self_eq_true]
      exact ⟨fun _ => ⟨j, rfl⟩, fun h => absurd List.mem_cons_self h⟩
    · have hf : (x == k) = false := beq_eq_false_iff_ne.2 h
      rw [hf]
      exact ⟨fun hm => i1 (by rcases List.mem_cons.1 hm with e | e; exact absurd e h; exact e), fun hm => i2 fun h2 => hm (List.mem_cons_of_mem _ h2)⟩
theorem zeroBoolQ (w : World) : (zeroValue 4).run Tryz.prog w = .ok (.bool false) w := by kernel_rfl
theorem ent_snoc : ∀ (ks : List (List UInt8)) (n : Nat) (k : List UInt8), entQ (ks ++ [k]) n = entQ ks n ++ [{ key := .string (bsQ k), val := .bool true, born := n + ks.length }]
  | [], n, k => rfl
  | a :: ks, n, k => by
    rw [List.cons_append]
    unfold entQ
    rw [ent_snoc ks (n + 1) k, List.length_cons, show n + 1 + ks.length = n + (ks.length + 1) by omega]; rfl
/-- one word more -/
theorem put_word (w : World) (r n : Nat) (ks : List (List UInt8)) (k : List UInt8) (hn : n = ks.length) (hb : w.heap[r]? = some (.map (entQ ks 0).toArray n)) (hk : k ∉ ks) :
    ∃ w', (Instr.mapUpdate 75 (.map (some r)) (.string (bsQ k)) (.bool true)).run Tryz.prog w = .ok () w' ∧ w'.heap[r]? = some (.map (entQ (ks ++ [k]) 0).toArray (n + 1)) ∧ ∀ B, B ≤ r → RowKit.Below B w w' := by
  obtain ⟨w', h1, h2, h3⟩ := putQ w 75 9 4 .string r n _ (.string (bsQ k)) (.bool true) Tryz.underlying75 Tryz.underlying9 trivial hb ((find_ent k ks 0 0).2 hk)
  refine ⟨w', h1, ?_, h3⟩
  rw [h2, ent_snoc, hn, Nat.zero_add]
  simp
theorem look_word (w : World) (r n : Nat) (ks : List (List UInt8)) (x : List UInt8) (hb : w.heap[r]? = some (.map (entQ ks 0).toArray n)) :
    (Instr.lookup 75 (.map (some r)) (.string (bsQ x)) false).run Tryz.prog w = .ok (.bool (decide (x ∈ ks))) w := by
  by_cases h : x ∈ ks
  · obtain ⟨i, hi⟩ := (find_ent x ks 0 0).1 h
    rw [decide_eq_true h]
    exact lookQ w _ _ _ _ r _ _ _ i _ false Tryz.underlying75 Tryz.underlying9 trivial hb hi
  · rw [decide_eq_false h]
    exact lookQ_none w _ _ _ _ r _ _ _ _ false Tryz.underlying75 Tryz.underlying9 trivial hb ((find_ent x ks 0 0).2 h) (zeroBoolQ w)
set_option maxHeartbeats 4000000 in
set_option maxRecDepth 20000 in
theorem Reserved_any (x : List UInt8) (w : World) : Calls Tryz.prog 25 #[.string (bsQ x)] w fun e w' => e = .returned (.bool (decide (x ∈ langQ))) ∧ Below w.heap.size w w' := by
  have hmm := @run_makeMap Tryz.prog
  have hb0 : (w.alloc (.map #[] 0)).heap[w.heap.size]? = some (.map (entQ [] 0).toArray 0) := (MapKept.heap_alloc w _).1
  obtain ⟨W1, r1, hb1, b1⟩ := put_word _ _ _ _ [97, 110, 100, 114] rfl hb0 (by decide)
  have R1 : (Instr.mapUpdate 75 (.map (some w.heap.size)) (.string ⟨#[97, 110, 100, 114]⟩) (.bool true)).run Tryz.prog (w.alloc (.map #[] 0)) = .ok () W1 := r1
  clear r1
  obtain ⟨W2, r2, hb2, b2⟩ := put_word _ _ _ _ [111, 114, 114] rfl hb1 (by decide)
  have R2 : (Instr.mapUpdate 75 (.map (some w.heap.size)) (.string ⟨#[111, 114, 114]⟩) (.bool true)).run Tryz.prog W1 = .ok () W2 := r2
  clear r2
  obtain ⟨W3, r3, hb3, b3⟩ := put_word _ _ _ _ [120, 111, 114, 114] rfl hb2 (by decide)
  have R3 : (Instr.mapUpdate 75 (.map (some w.heap.size)) (.string ⟨#[120, 111, 114, 114]⟩) (.bool true)).run Tryz.prog W2 = .ok () W3 := r3
  clear r3
  obtain ⟨W4, r4, hb4, b4⟩ := put_word _ _ _ _ [116, 114, 117, 101] rfl hb3 (by decide)
  have R4 : (Instr.mapUpdate 75 (.map (some w.heap.size)) (.string ⟨#[116, 114, 117, 101]⟩) (.bool true)).run Tryz.prog W3 = .ok () W4 := r4
  clear r4
  obtain ⟨W5, r5, hb5, b5⟩ := put_word _ _ _ _ [102, 97, 108, 115, 101] rfl hb4 (by decide)
  have R5 : (Instr.mapUpdate 75 (.map (some w.heap.size)) (.string ⟨#[102, 97, 108, 115, 101]⟩) (.bool true)).run Tryz.prog W4 = .ok () W5 := r5
  clear r5
  obtain ⟨W6, r6, hb6, b6⟩ := put_word _ _ _ _ [107, 110, 111, 119, 110] rfl hb5 (by decide)
  have R6 : (Instr.mapUpdate 75 (.map (some w.heap.size)) (.string ⟨#[107, 110, 111, 119, 110]⟩) (.bool true)).run Tryz.prog W5 = .ok () W6 := r6
  clear r6
  obtain ⟨W7, r7, hb7, b7⟩ := put_word _ _ _ _ [111, 110, 99, 101] rfl hb6 (by decide)
  have R7 : (Instr.mapUpdate 75 (.map (some w.heap.size)) (.string ⟨#[111, 110, 99, 101]⟩) (.bool true)).run Tryz.prog W6 = .ok () W7 := r7
  clear r7
  obtain ⟨W8, r8, hb8, b8⟩ := put_word _ _ _ _ [104, 105, 115, 116, 111, 114, 105, 99, 97, 108, 108, 121] rfl hb7 (by decide)
  have R8 : (Instr.mapUpdate 75 (.map (some w.heap.size)) (.string ⟨#[104, 105, 115, 116, 111, 114, 105, 99, 97, 108, 108, 121]⟩) (.bool true)).run Tryz.prog W7 = .ok () W8 := r8
  clear r8
  obtain ⟨W9, r9, hb9, b9⟩ := put_word _ _ _ _ [101, 118, 101, 110, 116, 117, 97, 108, 108, 121] rfl hb8 (by decide)
  have R9 : (Instr.mapUpdate 75 (.map (some w.heap.size)) (.string ⟨#[101, 118, 101, 110, 116, 117, 97, 108, 108, 121]⟩) (.bool true)).run Tryz.prog W8 = .ok () W9 := r9
  clear r9
  obtain ⟨W10, r10, hb10, b10⟩ := put_word _ _ _ _ [97, 108, 119, 97, 121, 115] rfl hb9 (by decide)
  have R10 : (Instr.mapUpdate 75 (.map (some w.heap.size)) (.string ⟨#[97, 108, 119, 97, 121, 115]⟩) (.bool true)).run Tryz.prog W9 = .ok () W10 := r10
  clear r10
  obtain ⟨W11, r11, hb11, b11⟩ := put_word _ _ _ _ [115, 105, 110, 99, 101] rfl hb10 (by decide)
  have R11 : (Instr.mapUpdate 75 (.map (some w.heap.size)) (.string ⟨#[115, 105, 110, 99, 101]⟩) (.bool true)).run Tryz.prog W10 = .ok () W11 := r11
  clear r11
  obtain ⟨W12, r12, hb12, b12⟩ := put_word _ _ _ _ [117, 110, 116, 105, 108] rfl hb11 (by decide)
  have R12 : (Instr.mapUpdate 75 (.map (some w.heap.size)) (.string ⟨#[117, 110, 116, 105, 108]⟩) (.bool true)).run Tryz.prog W11 = .ok () W12 := r12
  clear r12
  obtain ⟨W13, r13, hb13, b13⟩ := put_word _ _ _ _ [114, 105, 115, 101] rfl hb12 (by decide)
  have R13 : (Instr.mapUpdate 75 (.map (some w.heap.size)) (.string ⟨#[114, 105, 115, 101]⟩) (.bool true)).run Tryz.prog W12 = .ok () W13 := r13
  clear r13
  obtain ⟨W14, r14, hb14, b14⟩ := put_word _ _ _ _ [102, 97, 108, 108] rfl hb13 (by decide)
  have R14 : (Instr.mapUpdate 75 (.map (some w.heap.size)) (.string ⟨#[102, 97, 108, 108]⟩) (.bool true)).run Tryz.prog W13 = .ok () W14 := r14
  clear r14
  obtain ⟨W15, r15, hb15, b15⟩ := put_word _ _ _ _ [112, 111, 115, 101, 100, 103, 101] rfl hb14 (by decide)
  have R15 : (Instr.mapUpdate 75 (.map (some w.heap.size)) (.string ⟨#[112, 111, 115, 101, 100, 103, 101]⟩) (.bool true)).run Tryz.prog W14 = .ok () W15 := r15
  clear r15
  obtain ⟨W16, r16, hb16, b16⟩ := put_word _ _ _ _ [110, 101, 103, 101, 100, 103, 101] rfl hb15 (by decide)
  have R16 : (Instr.mapUpdate 75 (.map (some w.heap.size)) (.string ⟨#[110, 101, 103, 101, 100, 103, 101]⟩) (.bool true)).run Tryz.prog W15 = .ok () W16 := r16
  clear r16
  obtain ⟨W17, r17, hb17, b17⟩ := put_word _ _ _ _ [99, 104, 97, 110, 103, 101] rfl hb16 (by decide)
  have R17 : (Instr.mapUpdate 75 (.map (some w.heap.size)) (.string ⟨#[99, 104, 97, 110, 103, 101]⟩) (.bool true)).run Tryz.prog W16 = .ok () W17 := r17
  clear r17
  obtain ⟨W18, r18, hb18, b18⟩ := put_word _ _ _ _ [111, 99, 99, 117, 114, 115] rfl hb17 (by decide)
  have R18 : (Instr.mapUpdate 75 (.map (some w.heap.size)) (.string ⟨#[111, 99, 99, 117, 114, 115]⟩) (.bool true)).run Tryz.prog W17 = .ok () W18 := r18
  clear r18
  obtain ⟨W19, r19, hb19, b19⟩ := put_word _ _ _ _ [98, 101, 99, 111, 109, 101, 115] rfl hb18 (by decide)
  have R19 : (Instr.mapUpdate 75 (.map (some w.heap.size)) (.string ⟨#[98, 101, 99, 111, 109, 101, 115]⟩) (.bool true)).run Tryz.prog W18 = .ok () W19 := r19
  clear r19
  obtain ⟨W20, r20, hb20, b20⟩ := put_word _ _ _ _ [105, 102] rfl hb19 (by decide)
  have R20 : (Instr.mapUpdate 75 (.map (some w.heap.size)) (.string ⟨#[105, 102]⟩) (.bool true)).run Tryz.prog W19 = .ok () W20 := r20
  clear r20
  obtain ⟨W21, r21, hb21, b21⟩ := put_word _ _ _ _ [111, 114] rfl hb20 (by decide)
  have R21 : (Instr.mapUpdate 75 (.map (some w.heap.size)) (.string ⟨#[111, 114]⟩) (.bool true)).run Tryz.prog W20 = .ok () W21 := r21
  clear r21
  obtain ⟨W22, r22, hb22, b22⟩ := put_word _ _ _ _ [119, 104, 105, 108, 101] rfl hb21 (by decide)
  have R22 : (Instr.mapUpdate 75 (.map (some w.heap.size)) (.string ⟨#[119, 104, 105, 108, 101]⟩) (.bool true)).run Tryz.prog W21 = .ok () W22 := r22
  clear r22
  have HL : ∀ u, u = bsQ x → (Instr.lookup 75 (.map (some w.heap.size)) (.string u) false).run Tryz.prog W22 = .ok (.bool (decide (x ∈ langQ))) W22 := fun u hu => by rw [hu]; exact look_word W22 _ _ _ x hb22
  have B0 : Below w.heap.size w (w.alloc (.map #[] 0)) := (Below.refl w.heap.size w).alloc (Nat.le_refl _) _
  have B := hide ((((((((((((((((((((((B0.trans (b1 _ (Nat.le_refl _))).trans (b2 _ (Nat.le_refl _))).trans (b3 _ (Nat.le_refl _))).trans (b4 _ (Nat.le_refl _))).trans (b5 _ (Nat.le_refl _))).trans (b6 _ (Nat.le_refl _))).trans (b7 _ (Nat.le_refl _))).trans (b8 _ (Nat.le_refl _))).trans (b9 _ (Nat.le_refl _))).trans (b10 _ (Nat.le_refl _))).trans (b11 _ (Nat.le_refl _))).trans (b12 _ (Nat.le_refl _))).trans (b13 _ (Nat.le_refl _))).trans (b14 _ (Nat.le_refl _))).trans (b15 _ (Nat.le_refl _))).trans (b16 _ (Nat.le_refl _))).trans (b17 _ (Nat.le_refl _))).trans (b18 _ (Nat.le_refl _))).trans (b19 _ (Nat.le_refl _))).trans (b20 _ (Nat.le_refl _))).trans (b21 _ (Nat.le_refl _))).trans (b22 _ (Nat.le_refl _)))
  have HL2 := HL _ rfl
  obtain ⟨d, hd⟩ : ∃ d, decide (x ∈ langQ) = d := ⟨_, rfl⟩
  rw [hd] at HL2 ⊢
  generalize bsQ x = s at *
  clear HL hd hb0 hb1 b1 hb2 b2 hb3 b3 hb4 b4 hb5 b5 hb6 b6 hb7 b7 hb8 b8 hb9 b9 hb10 b10 hb11 b11 hb12 b12 hb13 b13 hb14 b14 hb15 b15 hb16 b16 hb17 b17 hb18 b18 hb19 b19 hb20 b20 hb21 b21 hb22 b22 B0
  go_enter Tryz.func25, Tryz.ntmps25
  go_wp2
  go_ret
  exact ⟨rfl, B.out⟩
theorem refWords_any (w : World) : Calls Tryz.prog 27 #[] w fun e w' => e = .returned (.slice (some ⟨w.heap.size, 0, none⟩) 22 22) ∧ Sl strQ w' (some ⟨w.heap.size, 0, none⟩) langQ ∧ Below w.heap.size w w' := by
  go_enter Tryz.func27, Tryz.ntmps27
  go_wp2
  go_ret
  exact ⟨rfl, slQ_new (Row.new _ _ _), (Below.refl _ _).alloc (Nat.le_refl _) _⟩
end Go.Proofs.YtjlpekjfmgcbdaaGreatDoor

/- The argument of QlexForms opened; contract of short; plain laws for QlexAgain. -/
set_option linter.unusedVariables false
set_option linter.unusedSimpArgs false
namespace Go.Proofs.YtjlpekjfmgcbdaaGreatDoor
open Go.RowKit Go.Shelf Go.ChangeShapes Go.WideShapes Go.Deep
theorem lexF_err : ∀ (xs : List (Nat × Wq)) (out : List Lx), (lexF xs out).2.2 ≠ 0 → (lexF xs out).1 = []
  | [], out, h => absurd rfl h
  | (a, x) :: r, out, h => by
    by_cases he : x.err = 0
    · by_cases hf : out.length = 512
      · rw [lexF_full he hf]
      · rw [lexF_more he hf] at h ⊢; exact lexF_err r _ h
    · rw [lexF_bad he]
theorem lexQ_err {l : List UInt8} {out : List Lx} {a : Nat} {er : Int} (h : lexQ l = (out, a, er)) (he : er ≠ 0) : out = [] := by
  have h1 : (lexQ l).2.2 ≠ 0 → (lexQ l).1 = [] := by
    unfold lexQ
    by_cases hb : 16384 < l.length
    · rw [if_pos hb]; intro _; rfl
    · rw [if_neg hb]; exact lexF_err _ _
  rw [h] at h1
  exact h1 he
theorem joinQ_eq : ∀ xs : List (List UInt8), joinQ xs = Lib.join xs [32]
  | [] => rfl
  | [a] => by rw [Lib.join_cons]; simp [joinQ, Lib.joinTail]
  | a :: b :: r => by
    rw [joinQ, joinQ_eq (b :: r), Lib.join_cons, Lib.join_cons]
    simp [Lib.joinTail]
theorem sum_mem : ∀ (ns : List Nat) (n : Nat), n ∈ ns → n ≤ ns.sum
  | a :: ns, n, h => by
    rw [List.sum_cons]
    rcases List.mem_cons.1 h with rfl | h
    · omega
    · have := sum_mem ns n h; omega
/-- the lexemes of a text are valid, and what Join makes of them is read as the same lexemes -/
theorem lex_again {l : List UInt8} {out : List Lx} {a : Nat} (h : lexQ l = (out, a, 0)) (hl : l.length ≤ 400) :
    (∀ y ∈ out, validQ y.kind y.text = true) ∧ out.length ≤ 512 ∧ (joinY (out.map lyOf)).length ≤ 16384 ∧ ∃ ys, lexQ (joinY (out.map lyOf)) = (ys, 0, 0) ∧ alikeB out ys = true ∧ ys.length = out.length := by
  obtain ⟨_, h5, hg, hlen, _⟩ := lexQ_ok h
  have hv : ∀ y ∈ out, validQ y.kind y.text = true := fun y hy => valid_good (hg y hy).1 (by
    have h1 := sum_mem (out.map fun y => (formX y).length + 1) ((formX y).length + 1) (List.mem_map.2 ⟨y, hy, rfl⟩)
    have h2 : (formX y).length = (formQ y.kind y.text).length := rfl
    unfold lenF at hlen
    omega)
  obtain ⟨ps, hps⟩ : ∃ ps : List (Int × List UInt8), out.map (fun y => (y.kind, y.text)) = ps := ⟨_, rfl⟩
  have hf : formsY (out.map lyOf) = ps.map fun p => formQ p.1 p.2 := by
    rw [← hps]; unfold formsY; rw [List.map_map, List.map_map]; rfl
  have hj : joinY (out.map lyOf) = joinQ (ps.map fun p => formQ p.1 p.2) := by
    rw [joinQ_eq, ← hf]
    unfold joinY
    rw [if_pos]
    rw [List.all_eq_true]
    intro y hy
    obtain ⟨x, hx, rfl⟩ := List.mem_map.1 hy
    exact hv x hx
  have hsum : (ps.map fun p => (formQ p.1 p.2).length + 1).sum = lenF out := by
    rw [← hps, List.map_map]; rfl
  have hjl := joinQ_len ps
  obtain ⟨ys, hy, hy2⟩ := lexQ_join ps (fun p hp => by
    rw [← hps] at hp
    obtain ⟨y, hy, rfl⟩ := List.mem_map.1 hp
    exact (hg y hy).1) (by rw [← hps, List.length_map]; exact h5) (by omega)
  have hal : alikeB out ys = true := alikeB_map (by rw [hps, hy2])
  exact ⟨hv, h5, by rw [hj]; omega, ys, by rw [hj]; exact hy, hal, (alikeB_len hal).symm⟩
theorem formQ_ge (k : Int) (t : List UInt8) : t.length ≤ (formQ k t).length := by
  unfold formQ
  by_cases h3 : k = 3
  · rw [if_pos h3, List.length_append, List.length_cons, List.length_cons]; omega
  · rw [if_neg h3]
    by_cases h4 : k = 4 ∧ t = [48]
    · rw [if_pos h4, h4.2]; decide
    · rw [if_neg h4]
      by_cases h5 : k = 5
      · rw [if_pos h5, quoQ_len]
        have h6 : ∀ l : List UInt8, l.length ≤ (l.flatMap escQ).length := by
          intro l
          induction l with
          | nil => exact Nat.le_refl _
          | cons c l ih =>
            rw [escs_cons, List.length_append, List.length_cons]
            have : 1 ≤ (escQ c).length := by
              unfold escQ
              (repeat' split) <;> simp
            omega
        have := h6 t
        omega
      · rw [if_neg h5]; exact Nat.le_refl _
/-- no lexeme of a text is long -/
theorem read_text {l : List UInt8} (h : (readQ l).err = 0) (hl : l.length ≤ 400) : (readQ l).text.length ≤ 1000 := by
  cases l with
  | nil => exact absurd (wrongQ_err h) (by decide)
  | cons c r =>
    obtain ⟨g1, g2, _⟩ := good_read h
    have hs := readQ_size (l := c :: r) (by simp) h
    rw [readQ_cons] at h ⊢
    by_cases c1 : fiQ c = true ∨ c = 92
    · rw [if_pos c1] at h ⊢
      rw [pathQ_of] at h ⊢
      cases hp : pathR (c :: r) with
      | none => rw [hp] at h; exact absurd h (by decide)
      | some p =>
        obtain ⟨F, n⟩ := p
        have h1 := path_again (c :: r).length (c :: r) F n (Nat.le_refl _) hp
        have h2 := (pathF_len _ _ _ hp).2
        have h3 : F.length ≤ 2 * n := h1.1
        show F.length ≤ 1000
        have : n ≤ (c :: r).length := h2
        omega
    · rw [if_neg c1] at h ⊢
      by_cases c2 : dgQ c = true
      · rw [if_pos c2] at h ⊢
        have hhd : ∀ k, 0 < k → ∀ d, ((c :: r).take k).head? = some d → dgQ d = true := by
          intro k hk d hd
          cases k with
          | zero => exact absurd hk (by decide)
          | succ k => rw [List.take_succ_cons] at hd; cases hd; exact c2
        unfold numQ numW at h ⊢
        generalize c :: r = l at *
        generalize spn dgQ l = n at *
        generalize constQ l n = C at *
        generalize expQ l (dotQ l n) = e2 at *
        generalize unitQ (l.drop n) = k at *
        by_cases h1 : 0 < C
        · rw [if_pos h1] at h ⊢
          by_cases h2 : aloneQ l C = true
          · rw [if_pos h2] at h ⊢
            have := (bitsQ_ok h).2.1
            show (bitsQ (l.take C)).1.length ≤ 1000; omega
          · rw [if_neg h2] at h; exact absurd (wrongQ_err h) (by decide)
        · rw [if_neg h1] at h ⊢
          by_cases h3 : n < e2
          · rw [if_pos h3] at h ⊢
            by_cases h2 : aloneQ l e2 = true
            · rw [if_pos h2] at h ⊢
              have h4 := (good_real (hhd e2 (by omega)) h).2
              have h5 := formQ_ge 4 (realQ (l.take e2)).1
              show (realQ (l.take e2)).1.length ≤ 1000; omega
            · rw [if_neg h2] at h; exact absurd (wrongQ_err h) (by decide)
          · rw [if_neg h3] at h ⊢
            by_cases h4 : aloneQ l (n + k) = false
            · rw [if_pos h4] at h; exact absurd (wrongQ_err h) (by decide)
            · rw [if_neg h4] at h ⊢
              by_cases h5 : 15 < (stripQ (l.take n)).length
              · rw [if_pos h5] at h; exact absurd (wrongQ_err h) (by decide)
              · rw [if_neg h5]
                show (stripQ (l.take n) ++ (l.drop n).take k).length ≤ 1000
                rw [List.length_append, List.length_take, List.length_drop]; omega
      · rw [if_neg c2] at h ⊢
        by_cases c3 : c = 34
        · rw [if_pos c3] at h ⊢
          rw [quotedQ_eq] at h ⊢
          unfold quotedW at h ⊢
          generalize 1 + closeW ((c :: r).drop 1) = E at *
          by_cases h1 : (c :: r).length ≤ E
          · rw [if_pos h1] at h; exact absurd (wrongQ_err h) (by decide)
          · rw [if_neg h1] at h ⊢
            have := (unqQ_ok h).1
            show (unqQ ((c :: r).take (E + 1))).1.length ≤ 1000; omega
        · rw [if_neg c3] at h ⊢
          cases hs : firstS symsQ (c :: r) with
          | none => rw [hs] at h; exact absurd (wrongQ_err h) (by decide)
          | some u =>
            have := (syms_len u (firstS_some hs).1).2
            show u.length ≤ 1000; omega
theorem lex_text (l : List UInt8) (hl : l.length ≤ 400) : ∀ (k a : Nat) (out0 : List Lx), (∀ y ∈ out0, y.text.length ≤ 1000) → ∀ y ∈ (lexF (wordsF l k a) out0).1, y.text.length ≤ 1000
  | 0, a, out0, h => h
  | k + 1, a, out0, h => by
    unfold wordsF
    by_cases hlt : a < l.length
    · rw [if_pos hlt]
      by_cases he : (readQ (l.drop a)).err = 0
      · rw [if_pos he]
        by_cases hf : out0.length = 512
        · rw [lexF_full he hf]; intro y hy; cases hy
        · rw [lexF_more he hf]
          refine lex_text l hl k _ _ ?_
          intro y hy
          rcases List.mem_append.1 hy with hy | hy
          · exact h y hy
          · obtain rfl := List.mem_singleton.1 hy
            exact read_text he (by rw [List.length_drop]; omega)
      · rw [lexF_bad he]; intro y hy; cases hy
    · rw [if_neg hlt]; exact h
theorem lexQ_text {l : List UInt8} {out : List Lx} {a : Nat} {er : Int} (h : lexQ l = (out, a, er)) (hl : l.length ≤ 400) : ∀ y ∈ out, y.text.length ≤ 1000 := by
  have h1 : ∀ y ∈ (lexQ l).1, y.text.length ≤ 1000 := by
    unfold lexQ
    rw [if_neg (by omega)]
    exact lex_text l hl _ _ [] (fun y hy => by cases hy)
  rw [h] at h1
  exact h1
/-- short -/
def shortY (ys : List Ly) : Bool := (ys.all fun y => decide (y.text.length ≤ 200)) && decide (ys.length ≤ 20)
theorem fieldsLx : ∃ fs, Tryz.prog.underlying 33 = some (.struct fs) ∧ oneCellFields Tryz.prog fs = true ∧ Tryz.prog.cellsOf 33 = fs.size ∧ fs.size = 3 ∧ fs.map (·.type) = #[3, 9, 3] := ⟨_, Tryz.underlying33, by kernel_rfl, by kernel_rfl, rfl, by simp⟩
section
variable {H : Type} {enc : TypeId × Value → H} {W : World}
theorem open_lys {fuel : Nat} {a0 : Option Addr} {len cap base : Nat} {spare : Nat → Bool} {held : Bool} {x : DataW H × List MemPlace} (h : DataW.trod enc Tryz.prog W base spare held fuel 23 [.slice a0 len cap] = some x) :
    ∃ ys : List Ly, ys.length = len ∧ len ≤ maxLen ∧ LySl W a0 ys := by
  obtain ⟨fs, hfs, h1, hC, h4, hty⟩ := fieldsLx
  obtain ⟨hlen, hel⟩ := flat_slice Tryz.underlying23 hfs h1 hC h (by omega)
  rcases Nat.eq_zero_or_pos len with h0 | h0
  · exact ⟨[], h0.symm, hlen, fun h => absurd h (by simp)⟩
  · obtain ⟨b, off, rfl, hat⟩ := hel h0
    rw [h4] at hat
    have ty : ∀ j, j < 3 → ∃ f, fs[j]? = some f ∧ f.type = #[3, 9, 3].getD j 0 := by
      intro j hj
      refine ⟨fs[j]'(by omega), Array.getElem?_eq_getElem _, ?_⟩
      rw [← hty]; simp [h4, hj]
    obtain ⟨l, hl, hP⟩ := list_of (n := len) (P := fun i (x : Ly) => W.cell? ⟨b, off + i * 3, none⟩ = some (.int .i64 x.kind) ∧ W.cell? ⟨b, off + i * 3 + 1, none⟩ = some (.string (bsQ x.text)) ∧
        W.cell? ⟨b, off + i * 3 + 2, none⟩ = some (.int .i64 x.pos)) (fun i hi => by
      obtain ⟨f0, g0, e0⟩ := ty 0 (by omega)
      obtain ⟨f1, g1, e1⟩ := ty 1 (by omega)
      obtain ⟨f2, g2, e2⟩ := ty 2 (by omega)
      obtain ⟨v0, y0, n0, c0, t0⟩ := hat i hi 0 f0 g0
      obtain ⟨v1, y1, n1, c1, t1⟩ := hat i hi 1 f1 g1
      obtain ⟨v2, y2, n2, c2, t2⟩ := hat i hi 2 f2 g2
      rw [e0] at t0; rw [e1] at t1; rw [e2] at t2
      obtain ⟨s0, q0, _, _⟩ := DataW.trod_int Tryz.underlying3 t0
      obtain ⟨s1, q1, _, _⟩ := DataW.trod_string Tryz.underlying9 t1
      obtain ⟨s2, q2, _, _⟩ := DataW.trod_int Tryz.underlying3 t2
      simp only [List.cons.injEq, and_true] at q0 q1 q2
      subst q0 q1 q2
      exact ⟨⟨s0, s1.data.toList, s2⟩, c0, c1, c2⟩)
    exact ⟨l, hl, hlen, fun _ => ⟨b, off, rfl, hP⟩⟩
end
set_option maxHeartbeats 4000000 in
set_option maxRecDepth 20000 in
theorem short_any (A : Option Addr) (cap : Nat) (ys : List Ly) (w : World) (hs : LySl w A ys) (hl : ys.length ≤ 9223372036854775807) :
    Calls Tryz.prog 22 #[.slice A ys.length cap] w fun e w' => e = .returned (.bool (shortY ys)) ∧ Below w.heap.size w w' := by
  obtain ⟨n, hn⟩ : ∃ n, ys.length = n := ⟨_, rfl⟩
  rw [hn]
  have Hn := hide hn
  have hn6 : n ≤ 9223372036854775807 := by omega
  have Hs := hide hs
  clear hs hl hn
  go_enter Tryz.func22, Tryz.ntmps22
  go_wp2_with fail
  go_loopw [7] (fun v wr => ∃ i : Nat, v = .int .i64 (i : Int) ∧ i ≤ n ∧ (∀ j, j < i → ∀ hj : j < ys.length, ys[j].text.length ≤ 200) ∧ Below w.heap.size w wr) (fun v _ => n - (intOf v).toNat)
  case atStart => exact ⟨0, rfl, Nat.zero_le _, (fun j h => absurd h (by omega)), Below.refl _ _⟩
  case round =>
    obtain ⟨i, rfl, hi, hall, hb⟩ := hrel
    have Hb := hide hb
    have Hall := hide hall
    clear hall hb
    by_cases hlt : i < n
    · have hi' : (i : Int) < (n : Int) := by omega
      have hi0 : (0 : Int) ≤ (i : Int) := by omega
      have hw1 : IntKind.i64.wrap ((i : Int) + 1) = (i : Int) + 1 := IntWalk.i64_in _ (by omega)
      have hix : i < ys.length := by rw [Hn.out]; exact hlt
      obtain ⟨b, off, rfl, hbz, hat⟩ := Hs.out.at hix
      obtain ⟨c0, c1, c2⟩ := hat wr Hb.out
      have hz := bsQ_size ys[i].text
      have HNO := hide (fun (h : ¬ ys[i].text.length ≤ 200) => show shortY ys = false from by
        unfold shortY
        rw [Bool.and_eq_false_iff]
        left
        rw [List.all_eq_false]
        exact ⟨_, List.getElem_mem hix, by simpa using h⟩)
      have HOK := hide (fun (h : ys[i].text.length ≤ 200) (j : Nat) (hj : j < i + 1) (hjl : j < ys.length) => show ys[j].text.length ≤ 200 from by
        rcases Nat.lt_or_ge j i with h1 | h1
        · exact Hall.out j h1 hjl
        · obtain rfl : j = i := by omega
          exact h)
      obtain ⟨y, hy⟩ : ∃ y, ys[i]'hix = y := ⟨_, rfl⟩
      rw [hy] at c0 c1 c2 hz HNO HOK
      have Hb2 := hide (fun o => Hb.out.alloc Hb.out.size o)
      generalize bsQ y.text = sy at *
      clear hat hy
      by_cases h2 : y.text.length ≤ 200
      · have q1 : ¬ (200 : Int) < (sy.size : Int) := by omega
        have HOK2 := hide (HOK.out h2)
        clear hz h2 HNO HOK
        go_wp2
        go_roundw
        case rel => exact ⟨i + 1, by go_num, by omega, HOK2.out, Hb2.out _⟩
        case measure => simp [intOf]; omega
      · have q1 : (200 : Int) < (sy.size : Int) := by omega
        have HV := hide (HNO.out h2)
        clear hz h2 HNO HOK
        go_wp2
        go_ret
        exact ⟨by rw [HV.out]; first | done | rfl, Hb2.out _⟩
    · obtain rfl : i = n := by omega
      have hi' : ¬ (i : Int) < (i : Int) := by omega
      have hall : (ys.all fun y => decide (y.text.length ≤ 200)) = true := by
        rw [List.all_eq_true]
        intro y hy
        obtain ⟨j, hj, rfl⟩ := List.mem_iff_getElem.1 hy
        exact decide_eq_true (Hall.out j (by rw [← Hn.out]; exact hj) hj)
      have HV := hide (show shortY ys = decide ((i : Int) ≤ 20) by
        unfold shortY
        rw [hall, Bool.true_and, Hn.out]
        by_cases h : i ≤ 20
        · rw [decide_eq_true h, decide_eq_true (by omega)]
        · rw [decide_eq_false h, decide_eq_false (by omega)])
      clear hall Hall
      by_cases h20 : (i : Int) ≤ 20
      · have HV2 := hide (HV.out.trans (decide_eq_true h20))
        clear HV
        go_wp2
        go_ret
        exact ⟨by rw [HV2.out]; first | done | rfl, Hb.out⟩
      · have HV2 := hide (HV.out.trans (decide_eq_false h20))
        clear HV
        go_wp2
        go_ret
        exact ⟨by rw [HV2.out]; first | done | rfl, Hb.out⟩
end Go.Proofs.YtjlpekjfmgcbdaaGreatDoor
