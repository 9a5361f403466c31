/- Contract of the reference's Text. -/
import Derived.Test.YtpjikbfeegncbaaGreatDoorVaW
set_option linter.unusedVariables false
set_option linter.unusedSimpArgs false
namespace Go.Proofs.YtpjikbfeegncbaaGreatDoor
open Go.RowKit Go.Shelf Go.Sort
theorem decB_400 (n : Int) (h0 : -400 ≤ n) (h1 : n ≤ 400) : (decB n).size ≤ 50 := by
  have := itoa_len n h0 h1
  show (Lib.itoa n).toArray.size ≤ 50
  simp only [List.size_toArray]; omega
theorem run_add_b (a b : ByteArray) (h : a.size + b.size ≤ 10000000) (W : World) : (Op.stringOp .add a b).run Tryz.prog W = .ok (.string (a ++ b)) W := run_string_add_sum W _ _ (by omega)
theorem run_add_h (c : UInt8) (b : List UInt8) (h : b.length ≤ 1000000) (W : World) : (Op.stringOp .add ⟨#[c]⟩ (bsV b)).run Tryz.prog W = .ok (.string (bsV (c :: b))) W := run_add [c] b (by simp) (by omega) W

set_option maxRecDepth 20000 in
set_option maxHeartbeats 8000000 in
theorem refText_nil (neg : Bool) (d : List UInt8) (e : Int) (w : World) (hz : d.length ≤ 1000000) (he0 : -1000000000 ≤ e) (he1 : e ≤ 1000000000) (hT : stripV d = []) :
    Calls Tryz.prog 63 #[.agg #[.bool neg, .string (bsV d), .int .i64 e]] w fun x w' => x = .returned (.tuple #[.string (textV neg (stripV d) (e - leadV d)).1, .int .i64 (textV neg (stripV d) (e - leadV d)).2]) ∧ Below w.heap.size w w' := by
  have ST := hide (fun W : World => refStrip_any neg d e W hz he0 he1)
  have hs : stripR neg d e = #[.bool false, .string ⟨#[]⟩, .int .i64 0] := by unfold stripR; rw [if_pos hT]
  rw [hs] at ST
  have hR : textV neg (stripV d) (e - leadV d) = (⟨#[48]⟩, 0) := by unfold textV; rw [if_pos hT]
  rw [hR]
  clear hs hR hT
  go_enter Tryz.func63, Tryz.ntmps63
  go_wp2_with fail
  refine (ST.out _).mono ?_
  rintro x w1 ⟨rfl, hb⟩
  have hrow := (Row.new w 77 #[.bool neg, .string (bsV d), .int .i64 e]).below hb (by rw [World.size_alloc]; omega)
  have c0 : w1.cell? ⟨w.heap.size, 0, none⟩ = some (.bool neg) := hrow.cell 0
  have c1 : w1.cell? ⟨w.heap.size, 1, none⟩ = some (.string (bsV d)) := hrow.cell 1
  have c2 : w1.cell? ⟨w.heap.size, 2, none⟩ = some (.int .i64 e) := hrow.cell 2
  have f0 : w1.frozen? ⟨w.heap.size, 0, none⟩ = false := hrow.frozen 0
  have f1 : w1.frozen? ⟨w.heap.size, 1, none⟩ = false := hrow.frozen 1
  have f2 : w1.frozen? ⟨w.heap.size, 2, none⟩ = false := hrow.frozen 2
  have HB := hide (((Below.refl w.heap.size w).alloc (Nat.le_refl _) (.cells #[.bool neg, .string (bsV d), .int .i64 e] 77)).trans (hb.mono (by rw [World.size_alloc]; exact Nat.le_succ _)))
  clear hb hrow
  go_wp2
  go_ret2
  exact ⟨rfl, ((HB.out.setCell (p := ⟨w.heap.size, 0, none⟩) (Nat.le_refl _) (.bool false)).setCell (p := ⟨w.heap.size, 1, none⟩) (Nat.le_refl _) (.string ⟨#[]⟩)).setCell (p := ⟨w.heap.size, 2, none⟩) (Nat.le_refl _) (.int .i64 0)⟩

set_option maxRecDepth 20000 in
set_option maxHeartbeats 8000000 in
theorem refText_long (neg : Bool) (d : List UInt8) (e : Int) (w : World) (hz : d.length ≤ 1000000) (he0 : -1000000000 ≤ e) (he1 : e ≤ 1000000000) (t0 : UInt8) (tt : List UInt8) (hT : stripV d = t0 :: tt) (hL : 17 < (t0 :: tt).length) :
    Calls Tryz.prog 63 #[.agg #[.bool neg, .string (bsV d), .int .i64 e]] w fun x w' => x = .returned (.tuple #[.string (textV neg (stripV d) (e - leadV d)).1, .int .i64 (textV neg (stripV d) (e - leadV d)).2]) ∧ Below w.heap.size w w' := by
  have ST := hide (fun W : World => refStrip_any neg d e W hz he0 he1)
  have hs : stripR neg d e = #[.bool neg, .string (bsV (t0 :: tt)), .int .i64 (e - leadV d)] := by unfold stripR; rw [hT, if_neg (by simp)]
  rw [hs] at ST
  rw [hT]
  have hlz : leadV d ≤ d.length := leadV_le d
  have hsz := bs_size (t0 :: tt)
  obtain ⟨e1, e2⟩ := toList_ne (s := bsV (t0 :: tt)) (by rw [hsz]; simp)
  obtain ⟨fi, hfi⟩ : ∃ fi, e - (leadV d : Int) = fi := ⟨_, rfl⟩
  rw [hfi] at ST ⊢
  clear hs hT
  have hlc : (t0 :: tt).length = tt.length + 1 := rfl
  obtain ⟨m, hm⟩ : ∃ m, (t0 :: tt).length = m := ⟨_, rfl⟩
  rw [hm] at hsz
  have hL1 : (17 : Int) < (m : Int) := by omega
  have hR : textV neg (t0 :: tt) fi = (⟨#[]⟩, 9) := by unfold textV; rw [if_neg (by simp), if_pos (.inl hL)]
  rw [hR]
  clear hR hL hfi hlz hm hlc
  generalize bsV (t0 :: tt) = X at *
  go_enter Tryz.func63, Tryz.ntmps63
  go_wp2_with fail
  refine (ST.out _).mono ?_
  rintro x w1 ⟨rfl, hb⟩
  have hrow := (Row.new w 77 #[.bool neg, .string (bsV d), .int .i64 e]).below hb (by rw [World.size_alloc]; omega)
  have c0 : w1.cell? ⟨w.heap.size, 0, none⟩ = some (.bool neg) := hrow.cell 0
  have c1 : w1.cell? ⟨w.heap.size, 1, none⟩ = some (.string (bsV d)) := hrow.cell 1
  have c2 : w1.cell? ⟨w.heap.size, 2, none⟩ = some (.int .i64 e) := hrow.cell 2
  have f0 : w1.frozen? ⟨w.heap.size, 0, none⟩ = false := hrow.frozen 0
  have f1 : w1.frozen? ⟨w.heap.size, 1, none⟩ = false := hrow.frozen 1
  have f2 : w1.frozen? ⟨w.heap.size, 2, none⟩ = false := hrow.frozen 2
  have HB := hide (((Below.refl w.heap.size w).alloc (Nat.le_refl _) (.cells #[.bool neg, .string (bsV d), .int .i64 e] 77)).trans (hb.mono (by rw [World.size_alloc]; exact Nat.le_succ _)))
  clear hb hrow
  go_wp2
  go_ret2
  exact ⟨rfl, ((HB.out.setCell (p := ⟨w.heap.size, 0, none⟩) (Nat.le_refl _) (.bool neg)).setCell (p := ⟨w.heap.size, 1, none⟩) (Nat.le_refl _) (.string X)).setCell (p := ⟨w.heap.size, 2, none⟩) (Nat.le_refl _) (.int .i64 fi)⟩

set_option maxRecDepth 20000 in
set_option maxHeartbeats 8000000 in
theorem refText_low (neg : Bool) (d : List UInt8) (e : Int) (w : World) (hz : d.length ≤ 1000000) (he0 : -1000000000 ≤ e) (he1 : e ≤ 1000000000) (t0 : UInt8) (tt : List UInt8) (hT : stripV d = t0 :: tt) (hL : ¬ 17 < (t0 :: tt).length) (hf : e - leadV d < -400) :
    Calls Tryz.prog 63 #[.agg #[.bool neg, .string (bsV d), .int .i64 e]] w fun x w' => x = .returned (.tuple #[.string (textV neg (stripV d) (e - leadV d)).1, .int .i64 (textV neg (stripV d) (e - leadV d)).2]) ∧ Below w.heap.size w w' := by
  have ST := hide (fun W : World => refStrip_any neg d e W hz he0 he1)
  have hs : stripR neg d e = #[.bool neg, .string (bsV (t0 :: tt)), .int .i64 (e - leadV d)] := by unfold stripR; rw [hT, if_neg (by simp)]
  rw [hs] at ST
  rw [hT]
  have hlz : leadV d ≤ d.length := leadV_le d
  have hsz := bs_size (t0 :: tt)
  obtain ⟨e1, e2⟩ := toList_ne (s := bsV (t0 :: tt)) (by rw [hsz]; simp)
  obtain ⟨fi, hfi⟩ : ∃ fi, e - (leadV d : Int) = fi := ⟨_, rfl⟩
  rw [hfi] at ST ⊢
  clear hs hT
  have hlc : (t0 :: tt).length = tt.length + 1 := rfl
  obtain ⟨m, hm⟩ : ∃ m, (t0 :: tt).length = m := ⟨_, rfl⟩
  rw [hm] at hsz
  have hL1 : ¬ (17 : Int) < (m : Int) := by omega
  rw [hfi] at hf
  have hR : textV neg (t0 :: tt) fi = (⟨#[]⟩, 9) := by unfold textV; rw [if_neg (by simp), if_pos (.inr (.inl hf))]
  rw [hR]
  clear hR hL hfi hlz hm hlc
  generalize bsV (t0 :: tt) = X at *
  go_enter Tryz.func63, Tryz.ntmps63
  go_wp2_with fail
  refine (ST.out _).mono ?_
  rintro x w1 ⟨rfl, hb⟩
  have hrow := (Row.new w 77 #[.bool neg, .string (bsV d), .int .i64 e]).below hb (by rw [World.size_alloc]; omega)
  have c0 : w1.cell? ⟨w.heap.size, 0, none⟩ = some (.bool neg) := hrow.cell 0
  have c1 : w1.cell? ⟨w.heap.size, 1, none⟩ = some (.string (bsV d)) := hrow.cell 1
  have c2 : w1.cell? ⟨w.heap.size, 2, none⟩ = some (.int .i64 e) := hrow.cell 2
  have f0 : w1.frozen? ⟨w.heap.size, 0, none⟩ = false := hrow.frozen 0
  have f1 : w1.frozen? ⟨w.heap.size, 1, none⟩ = false := hrow.frozen 1
  have f2 : w1.frozen? ⟨w.heap.size, 2, none⟩ = false := hrow.frozen 2
  have HB := hide (((Below.refl w.heap.size w).alloc (Nat.le_refl _) (.cells #[.bool neg, .string (bsV d), .int .i64 e] 77)).trans (hb.mono (by rw [World.size_alloc]; exact Nat.le_succ _)))
  clear hb hrow
  go_wp2
  go_ret2
  exact ⟨rfl, ((HB.out.setCell (p := ⟨w.heap.size, 0, none⟩) (Nat.le_refl _) (.bool neg)).setCell (p := ⟨w.heap.size, 1, none⟩) (Nat.le_refl _) (.string X)).setCell (p := ⟨w.heap.size, 2, none⟩) (Nat.le_refl _) (.int .i64 fi)⟩

set_option maxRecDepth 20000 in
set_option maxHeartbeats 8000000 in
theorem refText_high (neg : Bool) (d : List UInt8) (e : Int) (w : World) (hz : d.length ≤ 1000000) (he0 : -1000000000 ≤ e) (he1 : e ≤ 1000000000) (t0 : UInt8) (tt : List UInt8) (hT : stripV d = t0 :: tt) (hL : ¬ 17 < (t0 :: tt).length) (hf0 : ¬ e - leadV d < -400) (hf : 400 < e - leadV d) :
    Calls Tryz.prog 63 #[.agg #[.bool neg, .string (bsV d), .int .i64 e]] w fun x w' => x = .returned (.tuple #[.string (textV neg (stripV d) (e - leadV d)).1, .int .i64 (textV neg (stripV d) (e - leadV d)).2]) ∧ Below w.heap.size w w' := by
  have ST := hide (fun W : World => refStrip_any neg d e W hz he0 he1)
  have hs : stripR neg d e = #[.bool neg, .string (bsV (t0 :: tt)), .int .i64 (e - leadV d)] := by unfold stripR; rw [hT, if_neg (by simp)]
  rw [hs] at ST
  rw [hT]
  have hlz : leadV d ≤ d.length := leadV_le d
  have hsz := bs_size (t0 :: tt)
  obtain ⟨e1, e2⟩ := toList_ne (s := bsV (t0 :: tt)) (by rw [hsz]; simp)
  obtain ⟨fi, hfi⟩ : ∃ fi, e - (leadV d : Int) = fi := ⟨_, rfl⟩
  rw [hfi] at ST ⊢
  clear hs hT
  have hlc : (t0 :: tt).length = tt.length + 1 := rfl
  obtain ⟨m, hm⟩ : ∃ m, (t0 :: tt).length = m := ⟨_, rfl⟩
  rw [hm] at hsz
  have hL1 : ¬ (17 : Int) < (m : Int) := by omega
  rw [hfi] at hf hf0
  have hR : textV neg (t0 :: tt) fi = (⟨#[]⟩, 9) := by unfold textV; rw [if_neg (by simp), if_pos (.inr (.inr hf))]
  rw [hR]
  clear hR hL hfi hlz hm hlc
  generalize bsV (t0 :: tt) = X at *
  go_enter Tryz.func63, Tryz.ntmps63
  go_wp2_with fail
  refine (ST.out _).mono ?_
  rintro x w1 ⟨rfl, hb⟩
  have hrow := (Row.new w 77 #[.bool neg, .string (bsV d), .int .i64 e]).below hb (by rw [World.size_alloc]; omega)
  have c0 : w1.cell? ⟨w.heap.size, 0, none⟩ = some (.bool neg) := hrow.cell 0
  have c1 : w1.cell? ⟨w.heap.size, 1, none⟩ = some (.string (bsV d)) := hrow.cell 1
  have c2 : w1.cell? ⟨w.heap.size, 2, none⟩ = some (.int .i64 e) := hrow.cell 2
  have f0 : w1.frozen? ⟨w.heap.size, 0, none⟩ = false := hrow.frozen 0
  have f1 : w1.frozen? ⟨w.heap.size, 1, none⟩ = false := hrow.frozen 1
  have f2 : w1.frozen? ⟨w.heap.size, 2, none⟩ = false := hrow.frozen 2
  have HB := hide (((Below.refl w.heap.size w).alloc (Nat.le_refl _) (.cells #[.bool neg, .string (bsV d), .int .i64 e] 77)).trans (hb.mono (by rw [World.size_alloc]; exact Nat.le_succ _)))
  clear hb hrow
  go_wp2
  go_ret2
  exact ⟨rfl, ((HB.out.setCell (p := ⟨w.heap.size, 0, none⟩) (Nat.le_refl _) (.bool neg)).setCell (p := ⟨w.heap.size, 1, none⟩) (Nat.le_refl _) (.string X)).setCell (p := ⟨w.heap.size, 2, none⟩) (Nat.le_refl _) (.int .i64 fi)⟩

set_option maxRecDepth 20000 in
set_option maxHeartbeats 8000000 in
theorem refText_ok_one_false (d : List UInt8) (e : Int) (w : World) (hz : d.length ≤ 1000000) (he0 : -1000000000 ≤ e) (he1 : e ≤ 1000000000) (t0 : UInt8) (tt : List UInt8) (hT : stripV d = t0 :: tt) (hL : ¬ 17 < (t0 :: tt).length) (hf0 : ¬ e - leadV d < -400) (hf : ¬ 400 < e - leadV d) (hL1 : tt = []) :
    Calls Tryz.prog 63 #[.agg #[.bool false, .string (bsV d), .int .i64 e]] w fun x w' => x = .returned (.tuple #[.string (textV false (stripV d) (e - leadV d)).1, .int .i64 (textV false (stripV d) (e - leadV d)).2]) ∧ Below w.heap.size w w' := by
  have ST := hide (fun W : World => refStrip_any false d e W hz he0 he1)
  have hs : stripR false d e = #[.bool false, .string (bsV (t0 :: tt)), .int .i64 (e - leadV d)] := by unfold stripR; rw [hT, if_neg (by simp)]
  rw [hs] at ST
  rw [hT]
  have hlz : leadV d ≤ d.length := leadV_le d
  have hsz := bs_size (t0 :: tt)
  obtain ⟨e1, e2⟩ := toList_ne (s := bsV (t0 :: tt)) (by rw [hsz]; simp)
  obtain ⟨fi, hfi⟩ : ∃ fi, e - (leadV d : Int) = fi := ⟨_, rfl⟩
  rw [hfi] at ST ⊢
  clear hs hT
  have hlc : (t0 :: tt).length = tt.length + 1 := rfl
  obtain ⟨m, hm⟩ : ∃ m, (t0 :: tt).length = m := ⟨_, rfl⟩
  rw [hm] at hsz
  rw [hfi] at hf hf0
  have hR : textV false (t0 :: tt) fi = (bsV [t0] ++ ⟨#[101]⟩ ++ decB fi, 0) := by
    unfold textV
    rw [if_neg (by simp), if_neg (by rintro (h | h | h); exact hL h; exact hf0 h; exact hf h)]
    subst hL1; rfl
  rw [hR]
  have hL2 : ¬ (17 : Int) < (m : Int) := by omega
  have D := hide (fun W : World => refDec_any fi W (by omega) (by omega))
  have ha4 : ∀ W, (Op.stringOp .add (bsV [t0]) ⟨#[101]⟩).run Tryz.prog W = .ok (.string (bsV [t0] ++ ⟨#[101]⟩)) W := run_add_b (bsV [t0]) ⟨#[101]⟩ (by rw [bs_size]; show _ + 1 ≤ _; simp)
  have hdz : (decB fi).size ≤ 50 := decB_400 fi (by omega) (by omega)
  have ha5 : ∀ W, (Op.stringOp .add (bsV [t0] ++ ⟨#[101]⟩) (decB fi)).run Tryz.prog W = .ok (.string (bsV [t0] ++ ⟨#[101]⟩ ++ decB fi)) W := run_add_b (bsV [t0] ++ ⟨#[101]⟩) (decB fi) (by rw [ByteArray.size_append, bs_size]; show _ + 1 + _ ≤ _; simp; omega)
  have hm1 : ¬ (1 : Int) < (m : Int) := by subst hL1; simp at hm; omega
  have hm2 : (1 : Int) ≤ (m : Int) := by omega
  have x1 : (bsV (t0 :: tt)).extract 0 1 = bsV [t0] := bs_take (t0 :: tt) 1
  have x2 : (bsV (t0 :: tt)).extract 1 m = bsV tt := by rw [← hsz]; exact bs_drop (t0 :: tt) 1
  have HR2 := hide (show bsV [t0] ++ ⟨#[101]⟩ ++ decB fi = bsV [t0] ++ ⟨#[101]⟩ ++ decB fi from rfl)
  skip
  generalize hZ : bsV [t0] ++ ⟨#[101]⟩ ++ decB fi = Z at *
  generalize bsV [t0] ++ ⟨#[101]⟩ = Z2 at *
  generalize bsV [t0] = Z1 at *
  skip
  generalize bsV (t0 :: tt) = X at *
  generalize decB fi = Dd at *
  try generalize bsV [t0] = Y0 at *
  clear hR hL hfi hlz hm hlc HR2 hZ hdz hL1
  go_enter Tryz.func63, Tryz.ntmps63
  go_wp2_with fail
  refine (ST.out _).mono ?_
  rintro x w1 ⟨rfl, hb⟩
  have hrow := (Row.new w 77 #[.bool false, .string (bsV d), .int .i64 e]).below hb (by rw [World.size_alloc]; omega)
  have c0 : w1.cell? ⟨w.heap.size, 0, none⟩ = some (.bool false) := hrow.cell 0
  have c1 : w1.cell? ⟨w.heap.size, 1, none⟩ = some (.string (bsV d)) := hrow.cell 1
  have c2 : w1.cell? ⟨w.heap.size, 2, none⟩ = some (.int .i64 e) := hrow.cell 2
  have f0 : w1.frozen? ⟨w.heap.size, 0, none⟩ = false := hrow.frozen 0
  have f1 : w1.frozen? ⟨w.heap.size, 1, none⟩ = false := hrow.frozen 1
  have f2 : w1.frozen? ⟨w.heap.size, 2, none⟩ = false := hrow.frozen 2
  have HB := hide (((Below.refl w.heap.size w).alloc (Nat.le_refl _) (.cells #[.bool false, .string (bsV d), .int .i64 e] 77)).trans (hb.mono (by rw [World.size_alloc]; exact Nat.le_succ _)))
  clear hb hrow
  go_wp2_with fail
  refine (D.out _).mono ?_
  rintro x w2 ⟨rfl, hb⟩
  have HB2 := hide (((HB.out.setCell (p := ⟨w.heap.size, 0, none⟩) (Nat.le_refl _) (.bool false)).setCell (p := ⟨w.heap.size, 1, none⟩) (Nat.le_refl _) (.string X)).setCell (p := ⟨w.heap.size, 2, none⟩) (Nat.le_refl _) (.int .i64 fi))
  have HB3 := hide (HB2.out.trans (hb.mono HB2.out.size))
  clear hb
  go_wp2
  go_ret2
  exact ⟨rfl, HB3.out⟩

set_option maxRecDepth 20000 in
set_option maxHeartbeats 8000000 in
theorem refText_ok_one_true (d : List UInt8) (e : Int) (w : World) (hz : d.length ≤ 1000000) (he0 : -1000000000 ≤ e) (he1 : e ≤ 1000000000) (t0 : UInt8) (tt : List UInt8) (hT : stripV d = t0 :: tt) (hL : ¬ 17 < (t0 :: tt).length) (hf0 : ¬ e - leadV d < -400) (hf : ¬ 400 < e - leadV d) (hL1 : tt = []) :
    Calls Tryz.prog 63 #[.agg #[.bool true, .string (bsV d), .int .i64 e]] w fun x w' => x = .returned (.tuple #[.string (textV true (stripV d) (e - leadV d)).1, .int .i64 (textV true (stripV d) (e - leadV d)).2]) ∧ Below w.heap.size w w' := by
  have ST := hide (fun W : World => refStrip_any true d e W hz he0 he1)
  have hs : stripR true d e = #[.bool true, .string (bsV (t0 :: tt)), .int .i64 (e - leadV d)] := by unfold stripR; rw [hT, if_neg (by simp)]
  rw [hs] at ST
  rw [hT]
  have hlz : leadV d ≤ d.length := leadV_le d
  have hsz := bs_size (t0 :: tt)
  obtain ⟨e1, e2⟩ := toList_ne (s := bsV (t0 :: tt)) (by rw [hsz]; simp)
  obtain ⟨fi, hfi⟩ : ∃ fi, e - (leadV d : Int) = fi := ⟨_, rfl⟩
  rw [hfi] at ST ⊢
  clear hs hT
  have hlc : (t0 :: tt).length = tt.length + 1 := rfl
  obtain ⟨m, hm⟩ : ∃ m, (t0 :: tt).length = m := ⟨_, rfl⟩
  rw [hm] at hsz
  rw [hfi] at hf hf0
  have hR : textV true (t0 :: tt) fi = (bsV (45 :: [t0]) ++ ⟨#[101]⟩ ++ decB fi, 0) := by
    unfold textV
    rw [if_neg (by simp), if_neg (by rintro (h | h | h); exact hL h; exact hf0 h; exact hf h)]
    subst hL1; rfl
  rw [hR]
  have hL2 : ¬ (17 : Int) < (m : Int) := by omega
  have D := hide (fun W : World => refDec_any fi W (by omega) (by omega))
  have ha3 := run_add_h 45 [t0] (by simp)
  have ha4 : ∀ W, (Op.stringOp .add (bsV (45 :: [t0])) ⟨#[101]⟩).run Tryz.prog W = .ok (.string (bsV (45 :: [t0]) ++ ⟨#[101]⟩)) W := run_add_b (bsV (45 :: [t0])) ⟨#[101]⟩ (by rw [bs_size]; show _ + 1 ≤ _; simp)
  have hdz : (decB fi).size ≤ 50 := decB_400 fi (by omega) (by omega)
  have ha5 : ∀ W, (Op.stringOp .add (bsV (45 :: [t0]) ++ ⟨#[101]⟩) (decB fi)).run Tryz.prog W = .ok (.string (bsV (45 :: [t0]) ++ ⟨#[101]⟩ ++ decB fi)) W := run_add_b (bsV (45 :: [t0]) ++ ⟨#[101]⟩) (decB fi) (by rw [ByteArray.size_append, bs_size]; show _ + 1 + _ ≤ _; simp; omega)
  have hm1 : ¬ (1 : Int) < (m : Int) := by subst hL1; simp at hm; omega
  have hm2 : (1 : Int) ≤ (m : Int) := by omega
  have x1 : (bsV (t0 :: tt)).extract 0 1 = bsV [t0] := bs_take (t0 :: tt) 1
  have x2 : (bsV (t0 :: tt)).extract 1 m = bsV tt := by rw [← hsz]; exact bs_drop (t0 :: tt) 1
  have HR2 := hide (show bsV (45 :: [t0]) ++ ⟨#[101]⟩ ++ decB fi = bsV (45 :: [t0]) ++ ⟨#[101]⟩ ++ decB fi from rfl)
  skip
  generalize hZ : bsV (45 :: [t0]) ++ ⟨#[101]⟩ ++ decB fi = Z at *
  generalize bsV (45 :: [t0]) ++ ⟨#[101]⟩ = Z2 at *
  generalize bsV (45 :: [t0]) = Z1 at *
  generalize bsV [t0] = Z0 at *
  generalize bsV (t0 :: tt) = X at *
  generalize decB fi = Dd at *
  try generalize bsV [t0] = Y0 at *
  clear hR hL hfi hlz hm hlc HR2 hZ hdz hL1
  go_enter Tryz.func63, Tryz.ntmps63
  go_wp2_with fail
  refine (ST.out _).mono ?_
  rintro x w1 ⟨rfl, hb⟩
  have hrow := (Row.new w 77 #[.bool true, .string (bsV d), .int .i64 e]).below hb (by rw [World.size_alloc]; omega)
  have c0 : w1.cell? ⟨w.heap.size, 0, none⟩ = some (.bool true) := hrow.cell 0
  have c1 : w1.cell? ⟨w.heap.size, 1, none⟩ = some (.string (bsV d)) := hrow.cell 1
  have c2 : w1.cell? ⟨w.heap.size, 2, none⟩ = some (.int .i64 e) := hrow.cell 2
  have f0 : w1.frozen? ⟨w.heap.size, 0, none⟩ = false := hrow.frozen 0
  have f1 : w1.frozen? ⟨w.heap.size, 1, none⟩ = false := hrow.frozen 1
  have f2 : w1.frozen? ⟨w.heap.size, 2, none⟩ = false := hrow.frozen 2
  have HB := hide (((Below.refl w.heap.size w).alloc (Nat.le_refl _) (.cells #[.bool true, .string (bsV d), .int .i64 e] 77)).trans (hb.mono (by rw [World.size_alloc]; exact Nat.le_succ _)))
  clear hb hrow
  go_wp2_with fail
  refine (D.out _).mono ?_
  rintro x w2 ⟨rfl, hb⟩
  have HB2 := hide (((HB.out.setCell (p := ⟨w.heap.size, 0, none⟩) (Nat.le_refl _) (.bool true)).setCell (p := ⟨w.heap.size, 1, none⟩) (Nat.le_refl _) (.string X)).setCell (p := ⟨w.heap.size, 2, none⟩) (Nat.le_refl _) (.int .i64 fi))
  have HB3 := hide (HB2.out.trans (hb.mono HB2.out.size))
  clear hb
  go_wp2
  go_ret2
  exact ⟨rfl, HB3.out⟩

set_option maxRecDepth 20000 in
set_option maxHeartbeats 8000000 in
theorem refText_ok_more_false (d : List UInt8) (e : Int) (w : World) (hz : d.length ≤ 1000000) (he0 : -1000000000 ≤ e) (he1 : e ≤ 1000000000) (t0 : UInt8) (tt : List UInt8) (hT : stripV d = t0 :: tt) (hL : ¬ 17 < (t0 :: tt).length) (hf0 : ¬ e - leadV d < -400) (hf : ¬ 400 < e - leadV d) (hL1 : tt ≠ []) :
    Calls Tryz.prog 63 #[.agg #[.bool false, .string (bsV d), .int .i64 e]] w fun x w' => x = .returned (.tuple #[.string (textV false (stripV d) (e - leadV d)).1, .int .i64 (textV false (stripV d) (e - leadV d)).2]) ∧ Below w.heap.size w w' := by
  have ST := hide (fun W : World => refStrip_any false d e W hz he0 he1)
  have hs : stripR false d e = #[.bool false, .string (bsV (t0 :: tt)), .int .i64 (e - leadV d)] := by unfold stripR; rw [hT, if_neg (by simp)]
  rw [hs] at ST
  rw [hT]
  have hlz : leadV d ≤ d.length := leadV_le d
  have hsz := bs_size (t0 :: tt)
  obtain ⟨e1, e2⟩ := toList_ne (s := bsV (t0 :: tt)) (by rw [hsz]; simp)
  obtain ⟨fi, hfi⟩ : ∃ fi, e - (leadV d : Int) = fi := ⟨_, rfl⟩
  rw [hfi] at ST ⊢
  clear hs hT
  have hlc : (t0 :: tt).length = tt.length + 1 := rfl
  obtain ⟨m, hm⟩ : ∃ m, (t0 :: tt).length = m := ⟨_, rfl⟩
  rw [hm] at hsz
  rw [hfi] at hf hf0
  have hR : textV false (t0 :: tt) fi = (bsV (t0 :: 46 :: tt) ++ ⟨#[101]⟩ ++ decB fi, 0) := by
    unfold textV
    rw [if_neg (by simp), if_neg (by rintro (h | h | h); exact hL h; exact hf0 h; exact hf h)]
    rw [if_pos (show 1 < (t0 :: tt).length by rw [hlc]; have := List.length_pos_iff.2 hL1; omega)]; rfl
  rw [hR]
  have hL2 : ¬ (17 : Int) < (m : Int) := by omega
  have D := hide (fun W : World => refDec_any fi W (by omega) (by omega))
  have ha1 := run_add [t0] [46] (by simp) (by simp)
  rw [show bsV [46] = (⟨#[46]⟩ : ByteArray) from rfl] at ha1
  have ha2 : ∀ W, (Op.stringOp .add (bsV ([t0] ++ [46])) (bsV tt)).run Tryz.prog W = .ok (.string (bsV (t0 :: 46 :: tt))) W := run_add ([t0] ++ [46]) tt (by simp) (by omega)
  have ha4 : ∀ W, (Op.stringOp .add (bsV (t0 :: 46 :: tt)) ⟨#[101]⟩).run Tryz.prog W = .ok (.string (bsV (t0 :: 46 :: tt) ++ ⟨#[101]⟩)) W := run_add_b (bsV (t0 :: 46 :: tt)) ⟨#[101]⟩ (by rw [bs_size]; show _ + 1 ≤ _; simp only [List.length_cons]; omega)
  have hdz : (decB fi).size ≤ 50 := decB_400 fi (by omega) (by omega)
  have ha5 : ∀ W, (Op.stringOp .add (bsV (t0 :: 46 :: tt) ++ ⟨#[101]⟩) (decB fi)).run Tryz.prog W = .ok (.string (bsV (t0 :: 46 :: tt) ++ ⟨#[101]⟩ ++ decB fi)) W := run_add_b (bsV (t0 :: 46 :: tt) ++ ⟨#[101]⟩) (decB fi) (by rw [ByteArray.size_append, bs_size]; show _ + 1 + _ ≤ _; simp only [List.length_cons]; omega)
  have hm1 : (1 : Int) < (m : Int) := by have := List.length_pos_iff.2 hL1; omega
  have hm2 : (1 : Int) ≤ (m : Int) := by omega
  have x1 : (bsV (t0 :: tt)).extract 0 1 = bsV [t0] := bs_take (t0 :: tt) 1
  have x2 : (bsV (t0 :: tt)).extract 1 m = bsV tt := by rw [← hsz]; exact bs_drop (t0 :: tt) 1
  have HR2 := hide (show bsV (t0 :: 46 :: tt) ++ ⟨#[101]⟩ ++ decB fi = bsV (t0 :: 46 :: tt) ++ ⟨#[101]⟩ ++ decB fi from rfl)
  generalize bsV ([t0] ++ [46]) = Y1 at *
  generalize hZ : bsV (t0 :: 46 :: tt) ++ ⟨#[101]⟩ ++ decB fi = Z at *
  generalize bsV (t0 :: 46 :: tt) ++ ⟨#[101]⟩ = Z2 at *
  generalize bsV (t0 :: 46 :: tt) = Z1 at *
  skip
  generalize bsV (t0 :: tt) = X at *
  generalize decB fi = Dd at *
  try generalize bsV [t0] = Y0 at *
  clear hR hL hfi hlz hm hlc HR2 hZ hdz hL1
  go_enter Tryz.func63, Tryz.ntmps63
  go_wp2_with fail
  refine (ST.out _).mono ?_
  rintro x w1 ⟨rfl, hb⟩
  have hrow := (Row.new w 77 #[.bool false, .string (bsV d), .int .i64 e]).below hb (by rw [World.size_alloc]; omega)
  have c0 : w1.cell? ⟨w.heap.size, 0, none⟩ = some (.bool false) := hrow.cell 0
  have c1 : w1.cell? ⟨w.heap.size, 1, none⟩ = some (.string (bsV d)) := hrow.cell 1
  have c2 : w1.cell? ⟨w.heap.size, 2, none⟩ = some (.int .i64 e) := hrow.cell 2
  have f0 : w1.frozen? ⟨w.heap.size, 0, none⟩ = false := hrow.frozen 0
  have f1 : w1.frozen? ⟨w.heap.size, 1, none⟩ = false := hrow.frozen 1
  have f2 : w1.frozen? ⟨w.heap.size, 2, none⟩ = false := hrow.frozen 2
  have HB := hide (((Below.refl w.heap.size w).alloc (Nat.le_refl _) (.cells #[.bool false, .string (bsV d), .int .i64 e] 77)).trans (hb.mono (by rw [World.size_alloc]; exact Nat.le_succ _)))
  clear hb hrow
  go_wp2_with fail
  refine (D.out _).mono ?_
  rintro x w2 ⟨rfl, hb⟩
  have HB2 := hide (((HB.out.setCell (p := ⟨w.heap.size, 0, none⟩) (Nat.le_refl _) (.bool false)).setCell (p := ⟨w.heap.size, 1, none⟩) (Nat.le_refl _) (.string X)).setCell (p := ⟨w.heap.size, 2, none⟩) (Nat.le_refl _) (.int .i64 fi))
  have HB3 := hide (HB2.out.trans (hb.mono HB2.out.size))
  clear hb
  go_wp2
  go_ret2
  exact ⟨rfl, HB3.out⟩

set_option maxRecDepth 20000 in
set_option maxHeartbeats 8000000 in
theorem refText_ok_more_true (d : List UInt8) (e : Int) (w : World) (hz : d.length ≤ 1000000) (he0 : -1000000000 ≤ e) (he1 : e ≤ 1000000000) (t0 : UInt8) (tt : List UInt8) (hT : stripV d = t0 :: tt) (hL : ¬ 17 < (t0 :: tt).length) (hf0 : ¬ e - leadV d < -400) (hf : ¬ 400 < e - leadV d) (hL1 : tt ≠ []) :
    Calls Tryz.prog 63 #[.agg #[.bool true, .string (bsV d), .int .i64 e]] w fun x w' => x = .returned (.tuple #[.string (textV true (stripV d) (e - leadV d)).1, .int .i64 (textV true (stripV d) (e - leadV d)).2]) ∧ Below w.heap.size w w' := by
  have ST := hide (fun W : World => refStrip_any true d e W hz he0 he1)
  have hs : stripR true d e = #[.bool true, .string (bsV (t0 :: tt)), .int .i64 (e - leadV d)] := by unfold stripR; rw [hT, if_neg (by simp)]
  rw [hs] at ST
  rw [hT]
  have hlz : leadV d ≤ d.length := leadV_le d
  have hsz := bs_size (t0 :: tt)
  obtain ⟨e1, e2⟩ := toList_ne (s := bsV (t0 :: tt)) (by rw [hsz]; simp)
  obtain ⟨fi, hfi⟩ : ∃ fi, e - (leadV d : Int) = fi := ⟨_, rfl⟩
  rw [hfi] at ST ⊢
  clear hs hT
  have hlc : (t0 :: tt).length = tt.length + 1 := rfl
  obtain ⟨m, hm⟩ : ∃ m, (t0 :: tt).length = m := ⟨_, rfl⟩
  rw [hm] at hsz
  rw [hfi] at hf hf0
  have hR : textV true (t0 :: tt) fi = (bsV (45 :: t0 :: 46 :: tt) ++ ⟨#[101]⟩ ++ decB fi, 0) := by
    unfold textV
    rw [if_neg (by simp), if_neg (by rintro (h | h | h); exact hL h; exact hf0 h; exact hf h)]
    rw [if_pos (show 1 < (t0 :: tt).length by rw [hlc]; have := List.length_pos_iff.2 hL1; omega)]; rfl
  rw [hR]
  have hL2 : ¬ (17 : Int) < (m : Int) := by omega
  have D := hide (fun W : World => refDec_any fi W (by omega) (by omega))
  have ha1 := run_add [t0] [46] (by simp) (by simp)
  rw [show bsV [46] = (⟨#[46]⟩ : ByteArray) from rfl] at ha1
  have ha2 : ∀ W, (Op.stringOp .add (bsV ([t0] ++ [46])) (bsV tt)).run Tryz.prog W = .ok (.string (bsV (t0 :: 46 :: tt))) W := run_add ([t0] ++ [46]) tt (by simp) (by omega)
  have ha3 := run_add_h 45 (t0 :: 46 :: tt) (by simp only [List.length_cons]; omega)
  have ha4 : ∀ W, (Op.stringOp .add (bsV (45 :: t0 :: 46 :: tt)) ⟨#[101]⟩).run Tryz.prog W = .ok (.string (bsV (45 :: t0 :: 46 :: tt) ++ ⟨#[101]⟩)) W := run_add_b (bsV (45 :: t0 :: 46 :: tt)) ⟨#[101]⟩ (by rw [bs_size]; show _ + 1 ≤ _; simp only [List.length_cons]; omega)
  have hdz : (decB fi).size ≤ 50 := decB_400 fi (by omega) (by omega)
  have ha5 : ∀ W, (Op.stringOp .add (bsV (45 :: t0 :: 46 :: tt) ++ ⟨#[101]⟩) (decB fi)).run Tryz.prog W = .ok (.string (bsV (45 :: t0 :: 46 :: tt) ++ ⟨#[101]⟩ ++ decB fi)) W := run_add_b (bsV (45 :: t0 :: 46 :: tt) ++ ⟨#[101]⟩) (decB fi) (by rw [ByteArray.size_append, bs_size]; show _ + 1 + _ ≤ _; simp only [List.length_cons]; omega)
  have hm1 : (1 : Int) < (m : Int) := by have := List.length_pos_iff.2 hL1; omega
  have hm2 : (1 : Int) ≤ (m : Int) := by omega
  have x1 : (bsV (t0 :: tt)).extract 0 1 = bsV [t0] := bs_take (t0 :: tt) 1
  have x2 : (bsV (t0 :: tt)).extract 1 m = bsV tt := by rw [← hsz]; exact bs_drop (t0 :: tt) 1
  have HR2 := hide (show bsV (45 :: t0 :: 46 :: tt) ++ ⟨#[101]⟩ ++ decB fi = bsV (45 :: t0 :: 46 :: tt) ++ ⟨#[101]⟩ ++ decB fi from rfl)
  generalize bsV ([t0] ++ [46]) = Y1 at *
  generalize hZ : bsV (45 :: t0 :: 46 :: tt) ++ ⟨#[101]⟩ ++ decB fi = Z at *
  generalize bsV (45 :: t0 :: 46 :: tt) ++ ⟨#[101]⟩ = Z2 at *
  generalize bsV (45 :: t0 :: 46 :: tt) = Z1 at *
  generalize bsV (t0 :: 46 :: tt) = Z0 at *
  generalize bsV (t0 :: tt) = X at *
  generalize decB fi = Dd at *
  try generalize bsV [t0] = Y0 at *
  clear hR hL hfi hlz hm hlc HR2 hZ hdz hL1
  go_enter Tryz.func63, Tryz.ntmps63
  go_wp2_with fail
  refine (ST.out _).mono ?_
  rintro x w1 ⟨rfl, hb⟩
  have hrow := (Row.new w 77 #[.bool true, .string (bsV d), .int .i64 e]).below hb (by rw [World.size_alloc]; omega)
  have c0 : w1.cell? ⟨w.heap.size, 0, none⟩ = some (.bool true) := hrow.cell 0
  have c1 : w1.cell? ⟨w.heap.size, 1, none⟩ = some (.string (bsV d)) := hrow.cell 1
  have c2 : w1.cell? ⟨w.heap.size, 2, none⟩ = some (.int .i64 e) := hrow.cell 2
  have f0 : w1.frozen? ⟨w.heap.size, 0, none⟩ = false := hrow.frozen 0
  have f1 : w1.frozen? ⟨w.heap.size, 1, none⟩ = false := hrow.frozen 1
  have f2 : w1.frozen? ⟨w.heap.size, 2, none⟩ = false := hrow.frozen 2
  have HB := hide (((Below.refl w.heap.size w).alloc (Nat.le_refl _) (.cells #[.bool true, .string (bsV d), .int .i64 e] 77)).trans (hb.mono (by rw [World.size_alloc]; exact Nat.le_succ _)))
  clear hb hrow
  go_wp2_with fail
  refine (D.out _).mono ?_
  rintro x w2 ⟨rfl, hb⟩
  have HB2 := hide (((HB.out.setCell (p := ⟨w.heap.size, 0, none⟩) (Nat.le_refl _) (.bool true)).setCell (p := ⟨w.heap.size, 1, none⟩) (Nat.le_refl _) (.string X)).setCell (p := ⟨w.heap.size, 2, none⟩) (Nat.le_refl _) (.int .i64 fi))
  have HB3 := hide (HB2.out.trans (hb.mono HB2.out.size))
  clear hb
  go_wp2
  go_ret2
  exact ⟨rfl, HB3.out⟩

theorem refText_any (neg : Bool) (d : List UInt8) (e : Int) (w : World) (hz : d.length ≤ 1000000) (he0 : -1000000000 ≤ e) (he1 : e ≤ 1000000000) :
    Calls Tryz.prog 63 #[.agg #[.bool neg, .string (bsV d), .int .i64 e]] w fun x w' => x = .returned (.tuple #[.string (textV neg (stripV d) (e - leadV d)).1, .int .i64 (textV neg (stripV d) (e - leadV d)).2]) ∧ Below w.heap.size w w' := by
  cases hT : stripV d with
  | nil => rw [← hT]; exact refText_nil neg d e w hz he0 he1 hT
  | cons t0 tt =>
    rw [← hT]
    by_cases hL : 17 < (t0 :: tt).length
    · exact refText_long neg d e w hz he0 he1 t0 tt hT hL
    · by_cases h0 : e - leadV d < -400
      · exact refText_low neg d e w hz he0 he1 t0 tt hT hL h0
      · by_cases h1 : 400 < e - leadV d
        · exact refText_high neg d e w hz he0 he1 t0 tt hT hL h0 h1
        · by_cases ht : tt = []
          · cases neg with
            | false => exact refText_ok_one_false d e w hz he0 he1 t0 tt hT hL h0 h1 ht
            | true => exact refText_ok_one_true d e w hz he0 he1 t0 tt hT hL h0 h1 ht
          · cases neg with
            | false => exact refText_ok_more_false d e w hz he0 he1 t0 tt hT hL h0 h1 ht
            | true => exact refText_ok_more_true d e w hz he0 he1 t0 tt hT hL h0 h1 ht
end Go.Proofs.YtpjikbfeegncbaaGreatDoor
