/- Contracts of decimal's Parse, canonical and Valid. -/
import Derived.Test.YtpjikbfeegncbaaGreatDoorVaH
set_option linter.unusedVariables false
set_option linter.unusedSimpArgs false
namespace Go.Proofs.YtpjikbfeegncbaaGreatDoor
open Go.RowKit Go.Shelf Go.Sort

theorem toList_beq (a b : ByteArray) : (a.toList == b.toList) = decide (a = b) := by
  rw [Bool.eq_iff_iff, beq_iff_eq, decide_eq_true_eq]
  constructor
  · intro h; exact Go.WideShapes.bytes_inj (by rw [← Lib.toList_data, ← Lib.toList_data, h])
  · intro h; rw [h]
theorem textV_zero (neg : Bool) (a b : Int) : textV neg [] a = textV false [] b := by unfold textV; rw [if_pos rfl, if_pos rfl]
/-- what is parsed, by what scan returns -/
theorem scan_text_eq {l : List UInt8} {p : Bool × List UInt8 × List UInt8 × Bool × List UInt8} {neg : Bool} {n : Nat} {ex : Int} (hp : scanV l = some p) (hn : n = (stripV (p.2.1 ++ p.2.2.1)).length)
    (h : stripV (p.2.1 ++ p.2.2.1) ≠ [] → neg = p.1 ∧ ex + n - 1 = (p.2.1.length : Int) - 1 - leadV (p.2.1 ++ p.2.2.1) + sgnV p.2.2.2.1 (esat 1048576 p.2.2.2.2)) :
    parseV 100000 l = textV neg (stripV (p.2.1 ++ p.2.2.1)) (ex + n - 1) := by
  rw [← parseV_sat]
  unfold parseV
  rw [hp]
  show resV 1048576 p = _
  unfold resV
  by_cases hT : stripV (p.2.1 ++ p.2.2.1) = []
  · rw [hT]
    exact (textV_zero _ _ 0).trans (textV_zero _ _ 0).symm
  · obtain ⟨h1, h2⟩ := h hT
    rw [h1, h2]
theorem strip_len {l : List UInt8} {p : Bool × List UInt8 × List UInt8 × Bool × List UInt8} (hp : scanV l = some p) : (stripV (p.2.1 ++ p.2.2.1)).length ≤ 128 := by
  obtain ⟨_, h2, h3, _⟩ := scanV_len hp
  have h4 := (dropR_le ((p.2.1 ++ p.2.2.1).dropWhile (· == 48))).1
  have h5 := (List.dropWhile_suffix (p := (· == (48 : UInt8))) (l := p.2.1 ++ p.2.2.1)).length_le
  rw [List.length_append] at h5
  rw [stripV_dropR]
  omega
theorem ex_bounds {l : List UInt8} {p : Bool × List UInt8 × List UInt8 × Bool × List UInt8} {neg : Bool} {n : Nat} {ex : Int} (hp : scanV l = some p) (hn : n = (stripV (p.2.1 ++ p.2.2.1)).length)
    (h : stripV (p.2.1 ++ p.2.2.1) ≠ [] → neg = p.1 ∧ ex + n - 1 = (p.2.1.length : Int) - 1 - leadV (p.2.1 ++ p.2.2.1) + sgnV p.2.2.2.1 (esat 1048576 p.2.2.2.2)) (h0 : stripV (p.2.1 ++ p.2.2.1) = [] → ex = 0) :
    -1000000000 ≤ ex ∧ ex ≤ 1000000000 := by
  obtain ⟨_, h2, h3, _⟩ := scanV_len hp
  have hs := strip_len hp
  have hl := leadV_le (p.2.1 ++ p.2.2.1)
  rw [List.length_append] at hl
  have he : esat 1048576 p.2.2.2.2 ≤ 1048576 := by rw [esat_eq]; exact Nat.min_le_left _ _
  by_cases hT : stripV (p.2.1 ++ p.2.2.1) = []
  · rw [h0 hT]; decide
  · obtain ⟨_, h1⟩ := h hT
    unfold sgnV at h1
    split at h1 <;> omega
set_option maxRecDepth 20000 in
set_option maxHeartbeats 8000000 in
theorem decParse_any (l : List UInt8) (w : World) (hz : l.length ≤ 1000000) (hg : Gl w) :
    Calls Tryz.prog 87 #[.string (bsV l)] w fun e w' => e = .returned (.tuple #[.string (parseV 100000 l).1, .int .i64 (parseV 100000 l).2]) ∧ Below w.heap.size w w' := by
  have SC := hide (scan_any l w hz)
  have G := hide hg
  clear hg
  obtain ⟨R, hR⟩ : ∃ R, parseV 100000 l = R := ⟨_, rfl⟩
  have HR := hide hR
  rw [hR]
  clear hR
  generalize bsV l = lb at *
  go_enter Tryz.func87, Tryz.ntmps87
  go_wp2_with fail
  refine SC.out.mono ?_
  rintro e w1 ⟨hb, neg, A, n, cap, ex, ok, rfl, hno, hyes⟩
  have B1 := hide hb
  have Hyes := hide hyes
  have Hno := hide hno
  clear hb hyes hno
  unfold numV
  cases hsc : scanV l with
  | none =>
    obtain rfl := Hno.out hsc
    have hRn : R = (⟨#[]⟩, 3) := by rw [← HR.out]; unfold parseV; rw [hsc]
    subst hRn
    clear hsc
    go_wp2
    go_ret2
    exact ⟨rfl, B1.out.alloc B1.out.size _⟩
  | some p =>
    obtain ⟨rfl, hn, hsl, hnc, hcm, h1, h2⟩ := Hyes.out p hsc
    have heq := scan_text_eq hsc hn h1
    obtain ⟨x1, x2⟩ := ex_bounds hsc hn h1 h2
    have hTz := strip_len hsc
    obtain ⟨T, hT⟩ : ∃ T, stripV (p.2.1 ++ p.2.2.1) = T := ⟨_, rfl⟩
    rw [hT] at hn hsl heq hTz
    have TX := hide (fun (W : World) (h : Sl by8 W A T) (hg : Gl W) => text_any neg A n cap T ex W hn (by omega) hnc hcm x1 x2 h hg)
    rw [← heq, HR.out] at TX
    have Hsl := hide (hsl.below ((Below.refl w1.heap.size w1).alloc (Nat.le_refl _) (.cells #[.bool neg, .slice A n cap, .int .i64 ex] 104)))
    have B2 := hide (B1.out.alloc B1.out.size (.cells #[.bool neg, .slice A n cap, .int .i64 ex] 104))
    unfold numV at TX
    clear hsc hn hsl heq h1 h2 hT Hyes Hno
    go_wp2_with fail
    refine (TX.out _ Hsl.out (G.out.below B2.out)).mono ?_
    rintro e w2 ⟨rfl, hb⟩
    have B3 := hide (B2.out.trans (hb.mono B2.out.size))
    clear hb
    go_wp2
    go_ret2
    exact ⟨rfl, B3.out⟩
theorem canV_parts (l : List UInt8) : canV l = (decide ((parseV 100000 l).2 = 0) && decide ((parseV 100000 l).1 = bsV l)) := by
  unfold canV
  rw [Bool.eq_iff_iff, Bool.and_eq_true, decide_eq_true_eq, decide_eq_true_eq, decide_eq_true_eq]
  constructor
  · rintro ⟨h1, h2⟩; exact ⟨h1, Go.WideShapes.bytes_inj (by rw [h2, bsV_list])⟩
  · rintro ⟨h1, h2⟩; exact ⟨h1, by rw [h2, bsV_list]⟩
set_option maxRecDepth 20000 in
set_option maxHeartbeats 8000000 in
theorem canonical_any (l : List UInt8) (w : World) (hz : l.length ≤ 1000000) (hg : Gl w) :
    Calls Tryz.prog 111 #[.string (bsV l)] w fun e w' => (∃ neg A n cap ex, e = .returned (.tuple #[numV neg A n cap ex, .bool (canV l)])) ∧ Below w.heap.size w w' := by
  have SC := hide (fun W : World => scan_any l W hz)
  have G := hide hg
  clear hg
  have hcp := canV_parts l
  obtain ⟨R, hR⟩ : ∃ R, parseV 100000 l = R := ⟨_, rfl⟩
  have HR := hide hR
  rw [hR] at hcp
  obtain ⟨v, hv⟩ : ∃ v, canV l = v := ⟨_, rfl⟩
  rw [hv] at hcp ⊢
  have Hcp := hide hcp
  clear hR hv hcp
  obtain ⟨lb, hlb⟩ : ∃ lb, bsV l = lb := ⟨_, rfl⟩
  rw [hlb] at Hcp SC ⊢
  clear hlb
  have R0 := hide (Row.new w 104 #[.bool false, .slice none 0 0, .int .i64 0])
  have B0 := hide ((Below.refl w.heap.size w).alloc (Nat.le_refl _) (.cells #[.bool false, .slice none 0 0, .int .i64 0] 104))
  go_enter Tryz.func111, Tryz.ntmps111
  go_wp2_with fail
  refine (SC.out _).mono ?_
  rintro e w1 ⟨hb, neg, A, n, cap, ex, ok, rfl, hno, hyes⟩
  have B1 := hide (B0.out.trans (hb.mono B0.out.size))
  have R1 := hide (R0.out.below hb R0.out.lt)
  have Hyes := hide hyes
  have Hno := hide hno
  clear hb hyes hno R0 B0
  unfold numV
  have B2 := hide (B1.out.alloc B1.out.size (.cells #[.bool neg, .slice A n cap, .int .i64 ex] 104))
  have R2 := hide (R1.out.alloc (.cells #[.bool neg, .slice A n cap, .int .i64 ex] 104))
  have N2 := hide (Row.new w1 104 #[.bool neg, .slice A n cap, .int .i64 ex])
  have hz0 : (w1.alloc (.cells #[.bool neg, .slice A n cap, .int .i64 ex] 104)).cell? ⟨w.heap.size, 0, none⟩ = some (.bool false) := R2.out.cell 0
  have hz1 : (w1.alloc (.cells #[.bool neg, .slice A n cap, .int .i64 ex] 104)).cell? ⟨w.heap.size, 1, none⟩ = some (.slice none 0 0) := R2.out.cell 1
  have hz2 : (w1.alloc (.cells #[.bool neg, .slice A n cap, .int .i64 ex] 104)).cell? ⟨w.heap.size, 2, none⟩ = some (.int .i64 0) := R2.out.cell 2
  have hf0 : (w1.alloc (.cells #[.bool neg, .slice A n cap, .int .i64 ex] 104)).frozen? ⟨w.heap.size, 0, none⟩ = false := R2.out.frozen 0
  have hf1 : (w1.alloc (.cells #[.bool neg, .slice A n cap, .int .i64 ex] 104)).frozen? ⟨w.heap.size, 1, none⟩ = false := R2.out.frozen 1
  have hf2 : (w1.alloc (.cells #[.bool neg, .slice A n cap, .int .i64 ex] 104)).frozen? ⟨w.heap.size, 2, none⟩ = false := R2.out.frozen 2
  cases hsc : scanV l with
  | none =>
    obtain rfl := Hno.out hsc
    have hRn : R = (⟨#[]⟩, 3) := by rw [← HR.out]; unfold parseV; rw [hsc]
    have hv : v = false := by rw [Hcp.out, hRn]; rfl
    subst hv
    have RF := hide (((R2.out.set_ 0 (.bool false)).set_ 1 (.slice none 0 0)).set_ 2 (.int .i64 0))
    have BF := hide (((B2.out.setCell (p := ⟨w.heap.size, 0, none⟩) (Nat.le_refl _) (.bool false)).setCell (p := ⟨w.heap.size, 1, none⟩) (Nat.le_refl _) (.slice none 0 0)).setCell (p := ⟨w.heap.size, 2, none⟩) (Nat.le_refl _) (.int .i64 0))
    clear hsc hRn
    go_upto_region 3 with fail
    generalize w1.alloc (.cells #[.bool neg, .slice A n cap, .int .i64 ex] 104) = w2 at *
    go_wp2
    exact bodyPost_ret (v := .tuple #[numV false none 0 0 0, .bool false]) (results_row_tmp rfl _ _ w.heap.size 104 _ _ _ (.bool false) rfl rfl RF.out Tryz.underlying104 rfl (by kernel_rfl)) rfl ⟨⟨false, none, 0, 0, 0, rfl⟩, BF.out⟩
  | some p =>
    obtain ⟨rfl, hn, hsl, hnc, hcm, h1, h2⟩ := Hyes.out p hsc
    have heq := scan_text_eq hsc hn h1
    obtain ⟨x1, x2⟩ := ex_bounds hsc hn h1 h2
    have hTz := strip_len hsc
    obtain ⟨T, hT⟩ : ∃ T, stripV (p.2.1 ++ p.2.2.1) = T := ⟨_, rfl⟩
    rw [hT] at hn hsl heq hTz
    have TX := hide (fun (W : World) (h : Sl by8 W A T) (hg : Gl W) => text_any neg A n cap T ex W hn (by omega) hnc hcm x1 x2 h hg)
    rw [← heq, HR.out] at TX
    have Hsl := hide (hsl.below ((Below.refl w1.heap.size w1).alloc (Nat.le_refl _) (.cells #[.bool neg, .slice A n cap, .int .i64 ex] 104)))
    unfold numV at TX
    obtain ⟨R1b, Re⟩ := R
    clear hsc hn hsl heq h1 h2 hT Hyes Hno
    go_wp2_with fail
    refine (TX.out _ Hsl.out (G.out.below B2.out)).mono ?_
    rintro e w3 ⟨rfl, hb⟩
    have B3 := hide (B2.out.trans (hb.mono B2.out.size))
    have R3 := hide (R2.out.below hb R2.out.lt)
    have N3 := hide (N2.out.below hb N2.out.lt)
    clear hb hz0 hz1 hz2 hf0 hf1 hf2
    have n0 : w3.cell? ⟨w1.heap.size, 0, none⟩ = some (.bool neg) := N3.out.cell 0
    have n1 : w3.cell? ⟨w1.heap.size, 1, none⟩ = some (.slice A n cap) := N3.out.cell 1
    have n2 : w3.cell? ⟨w1.heap.size, 2, none⟩ = some (.int .i64 ex) := N3.out.cell 2
    have hz0 : w3.cell? ⟨w.heap.size, 0, none⟩ = some (.bool false) := R3.out.cell 0
    have hz1 : w3.cell? ⟨w.heap.size, 1, none⟩ = some (.slice none 0 0) := R3.out.cell 1
    have hz2 : w3.cell? ⟨w.heap.size, 2, none⟩ = some (.int .i64 0) := R3.out.cell 2
    have hf0 : w3.frozen? ⟨w.heap.size, 0, none⟩ = false := R3.out.frozen 0
    have hf1 : w3.frozen? ⟨w.heap.size, 1, none⟩ = false := R3.out.frozen 1
    have hf2 : w3.frozen? ⟨w.heap.size, 2, none⟩ = false := R3.out.frozen 2
    have RF := hide (((R3.out.set_ 0 (.bool neg)).set_ 1 (.slice A n cap)).set_ 2 (.int .i64 ex))
    have BF := hide (((B3.out.setCell (p := ⟨w.heap.size, 0, none⟩) (Nat.le_refl _) (.bool neg)).setCell (p := ⟨w.heap.size, 1, none⟩) (Nat.le_refl _) (.slice A n cap)).setCell (p := ⟨w.heap.size, 2, none⟩) (Nat.le_refl _) (.int .i64 ex))
    have hcp : v = (decide (Re = 0) && decide (R1b = lb)) := Hcp.out
    by_cases hRe : Re = 0
    · rw [decide_eq_true hRe, Bool.true_and] at hcp
      have Hcp2 := hide hcp
      subst hRe
      clear hcp
      go_wp2
      exact bodyPost_ret (v := .tuple #[numV neg A n cap ex, .bool v]) (results_row_tmp rfl _ _ w.heap.size 104 _ _ _ (.bool v) (by rw [Hcp2.out, ← toList_beq]; simp) rfl RF.out Tryz.underlying104 rfl (by kernel_rfl)) rfl ⟨⟨neg, A, n, cap, ex, rfl⟩, BF.out⟩
    · rw [decide_eq_false hRe, Bool.false_and] at hcp
      subst hcp
      have hRe' : (Re == 0) = false := beq_eq_false_iff_ne.2 hRe
      go_wp2
      exact bodyPost_ret (v := .tuple #[numV neg A n cap ex, .bool false]) (results_row_tmp rfl _ _ w.heap.size 104 _ _ _ (.bool false) rfl rfl RF.out Tryz.underlying104 rfl (by kernel_rfl)) rfl ⟨⟨neg, A, n, cap, ex, rfl⟩, BF.out⟩
set_option maxRecDepth 20000 in
set_option maxHeartbeats 8000000 in
theorem decValid_any (l : List UInt8) (w : World) (hz : l.length ≤ 1000000) (hg : Gl w) :
    Calls Tryz.prog 84 #[.string (bsV l)] w fun e w' => e = .returned (.bool (canV l)) ∧ Below w.heap.size w w' := by
  have CN := hide (canonical_any l w hz hg)
  clear hg
  generalize canV l = v at *
  generalize bsV l = lb at *
  go_enter Tryz.func84, Tryz.ntmps84
  go_wp2_with fail
  refine CN.out.mono ?_
  rintro e w1 ⟨⟨neg, A, n, cap, ex, rfl⟩, hb⟩
  have B1 := hide hb
  clear hb
  unfold numV
  go_wp2
  go_ret
  exact ⟨rfl, B1.out.alloc B1.out.size _⟩
end Go.Proofs.YtpjikbfeegncbaaGreatDoor
