/- The walk of the law QuoteJoins. -/
import Derived.Test.YtdglaabgeigfnaaDoorQuWoW
set_option linter.unusedVariables false
namespace Go.Proofs.YtdglaabgeigfnaaDoor.quoteJoins
open Go.RowKit Go.Shelf

open quoteWords (join_few)
theorem splitL_app (c : UInt8) (p r : List UInt8) : splitL c (p ++ c :: r) = splitL c p ++ splitL c r := by
  induction p with
  | nil => show splitL c (c :: r) = [[]] ++ splitL c r; rw [splitL, if_pos rfl]; rfl
  | cons x p ih =>
    show splitL c (x :: (p ++ c :: r)) = _
    rw [splitL, splitL, ih]
    by_cases hx : x = c
    · rw [if_pos hx, if_pos hx]; rfl
    · rw [if_neg hx, if_neg hx]
      cases h : splitL c p with
      | nil => exact absurd h (splitL_ne c p)
      | cons q qs => rfl
theorem splitL_free (c : UInt8) (l : List UInt8) (h : ∀ x ∈ l, x ≠ c) : splitL c l = [l] := by
  apply splitL_none
  apply count_zero
  exact List.count_eq_zero.2 (fun hm => h c hm rfl)
theorem split_join_words (c : UInt8) : ∀ (xs : List (List UInt8)), xs ≠ [] → (∀ x ∈ xs, ∀ y ∈ x, y ≠ c) → splitL c (Lib.join xs [c]) = xs := by
  intro xs
  induction xs with
  | nil => intro h; exact absurd rfl h
  | cons x r ih =>
    intro _ h
    cases r with
    | nil => rw [Lib.join_one]; exact splitL_free c x (h x (by simp))
    | cons y r =>
      have e : Lib.join (x :: y :: r) [c] = x ++ c :: Lib.join (y :: r) [c] := by
        rw [Lib.join_cons, Lib.join_cons]; simp [Lib.joinTail]
      rw [e, splitL_app, splitL_free c x (h x (by simp)), ih (by simp) (fun z hz => h z (by simp [hz]))]
      rfl
theorem wordB_no32 {l : List UInt8} (h : wordB l = true) : ∀ y ∈ l, y ≠ 32 := by
  intro y hy e
  cases l with
  | nil => cases hy
  | cons c r =>
    unfold wordB at h
    rw [Bool.and_eq_true] at h
    have := List.all_eq_true.1 h.2 y hy
    rw [e] at this
    exact absurd this (by decide)
theorem wordB_ne {l : List UInt8} (h : wordB l = true) : l ≠ [] := by rintro rfl; cases h
theorem splitB_join (L : List ByteArray) (h : allW L = true) (hne : L ≠ []) : splitB 32 (joinB L) = L := by
  unfold splitB joinB
  show (splitL 32 (Lib.join (lists L) [32])).map _ = L
  rw [split_join_words 32 (lists L) (by intro e; apply hne; unfold lists at e; simpa using e) (fun x hx y hy => by
    unfold lists at hx
    obtain ⟨s, hs, rfl⟩ := List.mem_map.1 hx
    exact wordB_no32 (List.all_eq_true.1 h s hs) y hy)]
  unfold lists
  rw [List.map_map]
  conv => rhs; rw [← List.map_id L]
  apply List.map_congr_left
  intro s _
  exact bytes_of s _ rfl
theorem join_nonempty (L : List ByteArray) (h : allW L = true) (hne : L ≠ []) : ¬ (joinB L).size = 0 := by
  cases L with
  | nil => exact absurd rfl hne
  | cons s r =>
    have hs : wordB s.data.toList = true := List.all_eq_true.1 h s (by simp)
    have := wordB_ne hs
    intro e
    have e3 : (Lib.join (lists (s :: r)) [32]).toArray.size = 0 := e
    have e2 : (Lib.join (lists (s :: r)) [32]).length = 0 := by rw [List.size_toArray] at e3; exact e3
    unfold lists at e2
    rw [List.map_cons, Lib.join_cons, List.length_append] at e2
    exact this (List.eq_nil_of_length_eq_zero (by omega))
theorem joinRes_ok {L : List ByteArray} (h : (joinRes L).2 = 0) : allW L = true ∧ (joinB L).size ≤ 200 ∧ joinRes L = (joinB L, 0) := by
  unfold joinRes at h ⊢
  cases ha : allW L with
  | false => rw [ha, if_neg Bool.false_ne_true] at h; exact absurd h (by decide)
  | true =>
    rw [ha] at h
    rw [if_pos rfl] at h ⊢
    by_cases hb : 200 < (joinB L).size
    · rw [if_pos hb] at h; exact absurd h (by decide)
    · rw [if_neg hb]; exact ⟨rfl, by omega, rfl⟩
theorem joinRes_bad {L : List ByteArray} (h : ¬ (joinRes L).2 = 0) : (joinRes L).1 = ⟨#[]⟩ := by
  unfold joinRes at h ⊢
  cases ha : allW L with
  | false => rfl
  | true =>
    rw [ha] at h
    rw [if_pos rfl] at h ⊢
    by_cases hb : 200 < (joinB L).size
    · rw [if_pos hb]
    · rw [if_neg hb] at h; exact absurd rfl h
/-- words joined are words, and the same -/
theorem words_join (L : List ByteArray) (h : (joinRes L).2 = 0) : wordsRes (joinB L) = L ∧ vwB (joinB L) = true := by
  obtain ⟨h1, h2, h3⟩ := joinRes_ok h
  by_cases hne : L = []
  · subst hne; decide +kernel
  · have hz := join_nonempty L h1 hne
    have hs := splitB_join L h1 hne
    have hw : wordsRes (joinB L) = L := by rw [wordsRes_yes hz (by rw [hs]; exact h), hs]
    refine ⟨hw, ?_⟩
    rw [vwB_pos hz, hw]
    exact decide_eq_true (List.length_pos_iff.2 hne)
theorem join_words (s : ByteArray) (h : vwB s = true) : joinRes (wordsRes s) = (s, 0) ∧ (s.size = 0 ∨ wordsRes s = splitB 32 s) := by
  by_cases h0 : s.size = 0
  · obtain rfl := empty_of (s := s) (by omega)
    exact ⟨by decide +kernel, .inl h0⟩
  · rw [vwB_pos h0] at h
    have h := of_decide_eq_true h
    by_cases hj : (joinRes (splitB 32 s)).2 = 0
    · rw [wordsRes_yes h0 hj]
      obtain ⟨_, _, h3⟩ := joinRes_ok hj
      exact ⟨by rw [h3, joinB_split], .inr rfl⟩
    · rw [wordsRes_no h0 hj] at h; exact absurd h (by decide)
theorem no_words (s : ByteArray) (h : vwB s = false) : wordsRes s = [] := by
  by_cases h0 : s.size = 0
  · rw [vwB_zero h0] at h; cases h
  · rw [vwB_pos h0] at h
    have := of_decide_eq_false h
    exact List.eq_nil_of_length_eq_zero (by omega)

set_option maxHeartbeats 8000000 in
theorem walk (a0 : ByteArray) (A : Option Addr) (len cap : Nat) (L : List ByteArray) (w : World) (w0 : a0.size ≤ maxLen) (hl : L.length = len) (hm : len ≤ maxLen) (hw : Sl Value.string w A L ∧ (∀ s ∈ L, s.size ≤ maxLen) ∧ len ≤ cap) :
    Calls Tryd.prog 8 #[.string a0, .slice A len cap] w fun e w' => e = .returned (.bool true) ∧ Below w.heap.size w w' := by
  subst hl
  obtain ⟨hsl, _, hcap⟩ := hw
  have HM := hide hm
  unfold maxLen at w0
  by_cases h0 : (300 : Int) < (a0.size : Int)
  · clear hsl hm
    go_enter Tryd.func8, Tryd.ntmps8
    go_wp2_with fail
    refine (awake_any _).mono ?_
    rintro e w1 ⟨rfl, hB1⟩
    have B1 := hide hB1
    clear hB1
    go_wp2
    go_ret
    exact ⟨rfl, B1.out⟩
  have HSL := hide hsl
  have FW := hide (fun (W : World) (hb : Below w.heap.size w W) => Few_any A L.length cap L W rfl HM.out (hsl.below hb))
  by_cases hf : fewB L = true
  · rw [hf] at FW
    obtain ⟨f1, f2⟩ := fewB_spec hf
    have hj := join_few L hf
    have HLB := hide f1
    have J1 := hide (fun (W : World) (hb : Below w.heap.size w W) => Join_any A L.length cap L W rfl (hsl.below hb) hcap (by omega) (by omega))
    have V1 := hide (fun W : World => ValidWords_any a0 W (by omega))
    have X1 := hide (fun W : World => Words_any a0 W (by omega))
    have hjz : (joinB L).size ≤ 30000 := by have := hj; show (Lib.join (lists L) [32]).toArray.size ≤ _; simpa using this
    have HJ : Hid (((joinRes L).2 = 0 ∧ joinRes L = (joinB L, 0)) ∨ (¬ (joinRes L).2 = 0 ∧ (joinRes L).1 = ⟨#[]⟩)) := hide (by
      by_cases h : (joinRes L).2 = 0
      · exact .inl ⟨h, (joinRes_ok h).2.2⟩
      · exact .inr ⟨h, joinRes_bad h⟩)
    have VJ := hide (fun W : World => ValidWords_any (joinB L) W (by omega))
    have XJ := hide (fun W : World => Words_any (joinB L) W (by omega))
    have HWJ := hide (fun h => words_join L h)
    cases hv : vwB a0 with
    | true =>
      rw [hv] at V1
      obtain ⟨hjw, hor⟩ := join_words a0 hv
      have hwl : (wordsRes a0).length ≤ 301 := by
        rcases hor with h | h
        · rw [wordsRes_zero h]; simp
        · rw [h]; have := splitL_bd 32 a0.data.toList; rw [← Lib.size_eq] at this
          unfold splitB; rw [List.length_map]; omega
      have JW := hide (fun (A : Option Addr) (cap : Nat) (W : World) (hs : Sl Value.string W A (wordsRes a0)) (hc : (wordsRes a0).length ≤ cap) => Join_any A _ cap (wordsRes a0) W rfl hs hc (by omega) (by
        rcases hor with h | h
        · rw [wordsRes_zero h]; decide
        · rw [h, split_join]; omega))
      rw [hjw] at JW
      have HOR := hide hor
      have SP := hide (fun W : World => Split_any 32 a0 W (by omega))
      have HWL := hide hwl
      by_cases hz : a0.size = 0
      · obtain rfl := empty_of (s := a0) (by omega)
        clear hsl hcap hf f1 f2 hj hjz hm hv hjw hor hwl hz
        generalize wordsRes (⟨#[]⟩ : ByteArray) = R at X1 JW
        go_enter Tryd.func8, Tryd.ntmps8
        go_wp2_with fail
        refine (awake_any _).mono ?_
        rintro e w1 ⟨rfl, hB1⟩
        have B1 := hide hB1
        clear hB1
        go_wp2_with fail
        refine (FW.out _ B1.out).mono ?_
        rintro e wf ⟨rfl, rfl⟩
        go_wp2_with fail
        refine (V1.out _).mono ?_
        rintro e w2 ⟨rfl, hB2⟩
        have B2 := hide hB2
        clear hB2
        go_wp2_with fail
        refine (X1.out _).mono ?_
        rintro e w3 ⟨A3, c3, rfl, s3, _, l3, hB3⟩
        have S3 := hide s3
        have L3 := hide l3
        have B3 := hide hB3
        clear s3 l3 hB3
        go_wp2_with fail
        refine (JW.out A3 c3 w3 S3.out L3.out).mono ?_
        rintro e w4 ⟨rfl, hB4⟩
        have B4 := hide hB4
        clear hB4
        have BQ := hide (((B1.out.trans (B2.out.mono B1.out.size)).trans (B3.out.mono (Nat.le_trans B1.out.size B2.out.size))).trans (B4.out.mono (Nat.le_trans (Nat.le_trans B1.out.size B2.out.size) B3.out.size)))
        go_wp2_with fail
        refine (J1.out _ BQ.out).mono ?_
        rintro e wj ⟨rfl, hBJ⟩
        have BJ := hide hBJ
        clear hBJ
        have BT := hide (BQ.out.trans (BJ.out.mono BQ.out.size))
        rcases HJ.out with ⟨ez, ej⟩ | ⟨ej, em⟩
        · obtain ⟨xe, ve⟩ := HWJ.out ez
          rw [ve] at VJ
          rw [xe] at XJ
          rw [ej]
          generalize joinB L = JB at VJ XJ
          clear ez ej xe ve
          go_wp2_with fail
          refine (VJ.out _).mono ?_
          rintro e wv ⟨rfl, hBV⟩
          have BV := hide hBV
          clear hBV
          go_wp2_with fail
          refine (XJ.out _).mono ?_
          rintro e wx ⟨A9, c9, rfl, s9, _, l9, hB9⟩
          have S9 := hide s9
          have B9 := hide hB9
          clear s9 l9 hB9
          have BU := hide ((BT.out.trans (BV.out.mono BT.out.size)).trans (B9.out.mono (Nat.le_trans BT.out.size BV.out.size)))
          go_wp2_with fail
          refine (Texts_eq A9 A _ _ c9 cap L wx rfl rfl (by have := HLB.out; omega) S9.out (HSL.out.below BU.out)).mono ?_
          rintro e wy ⟨rfl, hBY⟩
          have BY := hide hBY
          clear hBY
          go_wp2
          go_ret
          exact ⟨rfl, BU.out.trans (BY.out.mono BU.out.size)⟩
        · have n1 : ((joinRes L).2 == 0) = false := beq_eq_false_iff_ne.2 ej
          have n2 := bne_of n1
          rw [em]
          clear ej em
          go_wp2
          go_ret
          exact ⟨rfl, BT.out⟩
      · obtain ⟨hne, hemp⟩ := toList_ne (s := a0) (by omega)
        have hws := hor.resolve_left hz
        rw [hws] at X1 JW
        have hsl2 : (splitB 32 a0).length ≤ 301 := by rw [← hws]; exact hwl
        generalize splitB 32 a0 = R at X1 JW SP hsl2
        have HR := hide hsl2
        clear hsl hcap hf f1 f2 hj hjz hm hv hjw hor hwl hz hws hsl2
        go_enter Tryd.func8, Tryd.ntmps8
        go_wp2_with fail
        refine (awake_any _).mono ?_
        rintro e w1 ⟨rfl, hB1⟩
        have B1 := hide hB1
        clear hB1
        go_wp2_with fail
        refine (FW.out _ B1.out).mono ?_
        rintro e wf ⟨rfl, rfl⟩
        go_wp2_with fail
        refine (V1.out _).mono ?_
        rintro e w2 ⟨rfl, hB2⟩
        have B2 := hide hB2
        clear hB2
        go_wp2_with fail
        refine (X1.out _).mono ?_
        rintro e w3 ⟨A3, c3, rfl, s3, _, l3, hB3⟩
        have S3 := hide s3
        have L3 := hide l3
        have B3 := hide hB3
        clear s3 l3 hB3
        go_wp2_with fail
        refine (JW.out A3 c3 w3 S3.out L3.out).mono ?_
        rintro e w4 ⟨rfl, hB4⟩
        have B4 := hide hB4
        clear hB4
        have BP := hide (((B1.out.trans (B2.out.mono B1.out.size)).trans (B3.out.mono (Nat.le_trans B1.out.size B2.out.size))).trans (B4.out.mono (Nat.le_trans (Nat.le_trans B1.out.size B2.out.size) B3.out.size)))
        go_wp2_with fail
        refine (X1.out _).mono ?_
        rintro e w5 ⟨A5, c5, rfl, s5, _, l5, hB5⟩
        have S5 := hide s5
        have B5 := hide hB5
        clear s5 l5 hB5
        go_wp2_with fail
        refine (SP.out _).mono ?_
        rintro e w6 ⟨A6, c6, rfl, s6, _, l6, hB6⟩
        have S6 := hide s6
        have B6 := hide hB6
        clear s6 l6 hB6
        go_wp2_with fail
        refine (Texts_eq A5 A6 _ _ c5 c6 R w6 rfl rfl (by have := HR.out; omega) (S5.out.below B6.out) S6.out).mono ?_
        rintro e w7 ⟨rfl, hB7⟩
        have B7 := hide hB7
        clear hB7
        have BQ := hide (((BP.out.trans (B5.out.mono BP.out.size)).trans (B6.out.mono (Nat.le_trans BP.out.size B5.out.size))).trans (B7.out.mono (Nat.le_trans (Nat.le_trans BP.out.size B5.out.size) B6.out.size)))
        go_wp2_with fail
        refine (J1.out _ BQ.out).mono ?_
        rintro e wj ⟨rfl, hBJ⟩
        have BJ := hide hBJ
        clear hBJ
        have BT := hide (BQ.out.trans (BJ.out.mono BQ.out.size))
        rcases HJ.out with ⟨ez, ej⟩ | ⟨ej, em⟩
        · obtain ⟨xe, ve⟩ := HWJ.out ez
          rw [ve] at VJ
          rw [xe] at XJ
          rw [ej]
          generalize joinB L = JB at VJ XJ
          clear ez ej xe ve
          go_wp2_with fail
          refine (VJ.out _).mono ?_
          rintro e wv ⟨rfl, hBV⟩
          have BV := hide hBV
          clear hBV
          go_wp2_with fail
          refine (XJ.out _).mono ?_
          rintro e wx ⟨A9, c9, rfl, s9, _, l9, hB9⟩
          have S9 := hide s9
          have B9 := hide hB9
          clear s9 l9 hB9
          have BU := hide ((BT.out.trans (BV.out.mono BT.out.size)).trans (B9.out.mono (Nat.le_trans BT.out.size BV.out.size)))
          go_wp2_with fail
          refine (Texts_eq A9 A _ _ c9 cap L wx rfl rfl (by have := HLB.out; omega) S9.out (HSL.out.below BU.out)).mono ?_
          rintro e wy ⟨rfl, hBY⟩
          have BY := hide hBY
          clear hBY
          go_wp2
          go_ret
          exact ⟨rfl, BU.out.trans (BY.out.mono BU.out.size)⟩
        · have n1 : ((joinRes L).2 == 0) = false := beq_eq_false_iff_ne.2 ej
          have n2 := bne_of n1
          rw [em]
          clear ej em
          go_wp2
          go_ret
          exact ⟨rfl, BT.out⟩
    | false =>
      rw [hv] at V1
      rw [no_words a0 hv] at X1
      clear hsl hcap hf f1 f2 hj hjz hm hv
      go_enter Tryd.func8, Tryd.ntmps8
      go_wp2_with fail
      refine (awake_any _).mono ?_
      rintro e w1 ⟨rfl, hB1⟩
      have B1 := hide hB1
      clear hB1
      go_wp2_with fail
      refine (FW.out _ B1.out).mono ?_
      rintro e wf ⟨rfl, rfl⟩
      go_wp2_with fail
      refine (V1.out _).mono ?_
      rintro e w2 ⟨rfl, hB2⟩
      have B2 := hide hB2
      clear hB2
      go_wp2_with fail
      refine (X1.out _).mono ?_
      rintro e w3 ⟨A3, c3, rfl, s3, _, l3, hB3⟩
      have B3 := hide hB3
      clear s3 l3 hB3
      rw [show ([] : List ByteArray).length = 0 from rfl]
      have BQ := hide ((B1.out.trans (B2.out.mono B1.out.size)).trans (B3.out.mono (Nat.le_trans B1.out.size B2.out.size)))
      go_wp2_with fail
      refine (J1.out _ BQ.out).mono ?_
      rintro e wj ⟨rfl, hBJ⟩
      have BJ := hide hBJ
      clear hBJ
      have BT := hide (BQ.out.trans (BJ.out.mono BQ.out.size))
      rcases HJ.out with ⟨ez, ej⟩ | ⟨ej, em⟩
      · obtain ⟨xe, ve⟩ := HWJ.out ez
        rw [ve] at VJ
        rw [xe] at XJ
        rw [ej]
        generalize joinB L = JB at VJ XJ
        clear ez ej xe ve
        go_wp2_with fail
        refine (VJ.out _).mono ?_
        rintro e wv ⟨rfl, hBV⟩
        have BV := hide hBV
        clear hBV
        go_wp2_with fail
        refine (XJ.out _).mono ?_
        rintro e wx ⟨A9, c9, rfl, s9, _, l9, hB9⟩
        have S9 := hide s9
        have B9 := hide hB9
        clear s9 l9 hB9
        have BU := hide ((BT.out.trans (BV.out.mono BT.out.size)).trans (B9.out.mono (Nat.le_trans BT.out.size BV.out.size)))
        go_wp2_with fail
        refine (Texts_eq A9 A _ _ c9 cap L wx rfl rfl (by have := HLB.out; omega) S9.out (HSL.out.below BU.out)).mono ?_
        rintro e wy ⟨rfl, hBY⟩
        have BY := hide hBY
        clear hBY
        go_wp2
        go_ret
        exact ⟨rfl, BU.out.trans (BY.out.mono BU.out.size)⟩
      · have n1 : ((joinRes L).2 == 0) = false := beq_eq_false_iff_ne.2 ej
        have n2 := bne_of n1
        rw [em]
        clear ej em
        go_wp2
        go_ret
        exact ⟨rfl, BT.out⟩
  · rw [show fewB L = false by simpa using hf] at FW
    clear hsl hcap hf hm
    go_enter Tryd.func8, Tryd.ntmps8
    go_wp2_with fail
    refine (awake_any _).mono ?_
    rintro e w1 ⟨rfl, hB1⟩
    have B1 := hide hB1
    clear hB1
    go_wp2_with fail
    refine (FW.out _ B1.out).mono ?_
    rintro e wf ⟨rfl, rfl⟩
    go_wp2
    go_ret
    exact ⟨rfl, B1.out⟩
end Go.Proofs.YtdglaabgeigfnaaDoor.quoteJoins
