/- The walk of the law LexerParts. -/
import Derived.Test.YtbhmgooohhgpaaaLexPaP
namespace Go.Proofs.Ytbhmgooohhgpaaa.lexerParts
open Go.RowKit Go.Shelf
set_option linter.unusedVariables false

theorem run_glue1 {P : Program} (a : ByteArray) (h : a.size ≤ 900) (w : World) : (Op.stringOp .add a ⟨#[10]⟩).run P w = .ok (.string (a ++ ⟨#[10]⟩)) w := by
  rw [run_string_add_sum w _ _ (by rw [show (⟨#[10]⟩ : ByteArray).size = 1 from rfl]; omega)]
theorem run_glue2 {P : Program} (a b : ByteArray) (h : a.size ≤ 900) (hb : b.size ≤ 900) (w : World) : (Op.stringOp .add (a ++ ⟨#[10]⟩) b).run P w = .ok (.string (glue a b)) w := by
  rw [run_string_add_sum w _ _ (by rw [ByteArray.size_append, show (⟨#[10]⟩ : ByteArray).size = 1 from rfl]; omega)]
  rfl
theorem count_all (a : ByteArray) (w : World) : Calls Try.prog 19 #[.string a, .string ⟨#[10]⟩] w fun e w' => e = .returned (.int .i64 (lineOf a - 1)) ∧ w' = w := by
  have h := lexerLines.count_any a a.size (Nat.le_refl _) w
  have e : a.extract 0 a.size = a := by
    apply extract_ext; rw [Lib.extract_data, Lib.size_eq]; exact List.take_length
  rw [e] at h
  exact h

set_option maxHeartbeats 4000000 in
theorem walk_in (a b : ByteArray) (w : World) (ha : a.size ≤ 900) (hb : b.size ≤ 900) :
    Calls Try.prog 6 #[.string a, .string b] w fun e w' => e = .returned (.bool true) ∧ Below w.heap.size w w' := by
  have h1 : ¬ (900 : Int) < (a.size : Int) := by omega
  have h2 : ¬ (900 : Int) < (b.size : Int) := by omega
  have hg1 : ∀ W : World, (Op.stringOp .add a ⟨#[10]⟩).run Try.prog W = .ok (.string (a ++ ⟨#[10]⟩)) W := fun W => run_glue1 a ha W
  have hg2 : ∀ W : World, (Op.stringOp .add (a ++ ⟨#[10]⟩) b).run Try.prog W = .ok (.string (glue a b)) W := fun W => run_glue2 a b ha hb W
  have hgz := glue_size a b
  have Hgz := hide hgz
  clear hgz
  go_enter Try.func6, Try.ntmps6
  go_wp2_with fail
  refine (awake_any _).mono ?_
  rintro e w1 ⟨rfl, hb1⟩
  go_wp2_with fail
  refine (Scan_any a (by omega) _).mono ?_
  rintro e w2 ⟨v2, rfl, hown2, hb2⟩
  obtain ⟨A, cap, rfl, hwsA⟩ := WSl_own hown2
  go_wp2_with fail
  refine (Scan_any b (by omega) _).mono ?_
  rintro e w3 ⟨v3, rfl, hown3, hb3⟩
  obtain ⟨A', cap', rfl, hwsB⟩ := WSl_own hown3
  go_wp2_with fail
  refine (Scan_any (glue a b) (by rw [Hgz.out]; omega) _).mono ?_
  rintro e w4 ⟨v4, rfl, hown4, hb4⟩
  clear hg1 hg2
  obtain ⟨A4, cap4, rfl, hwsC⟩ := WSl_own hown4
  -- the three rows in w4
  have s1 := hb1.size
  have s2 := hb2.size
  have s3 := hb3.size
  have s4 := hb4.size
  have hA : ∀ x, A = some x → x.block < w2.heap.size := fun x e => (hown2.lt _ (by subst e; rfl)).2
  have hA' : ∀ x, A' = some x → x.block < w3.heap.size := fun x e => (hown3.lt _ (by subst e; rfl)).2
  have hA4 : ∀ x, A4 = some x → x.block < w4.heap.size := fun x e => (hown4.lt _ (by subst e; rfl)).2
  have hwsA4 := (hwsA.keep hA hb3).keep (B := w3.heap.size) (fun x e => by have := hA x e; omega) hb4
  have hwsB4 := hwsB.keep hA' hb4
  have lx := wordsOf_len a
  have ly := wordsOf_len b
  have hlx : (wordsOf a).length = ((wordsOf a).map (wd a)).length := by simp
  have hly : (wordsOf b).length = ((wordsOf b).map (wd b)).length := by simp
  have hlz : (wordsOf (glue a b)).length = ((wordsOf a).map (wd a)).length + ((wordsOf b).map (wd b)).length := by rw [words_glue]; simp
  have hbd := wd_bounds b
  rw [wd_glue] at hwsC
  have hL : 0 ≤ lineOf a ∧ lineOf a ≤ 901 := by
    have hz : a.size = a.data.toList.length := Lib.size_eq a
    obtain ⟨_, q2, q3, _⟩ := pl_bd a.data.toList a.size (by omega)
    unfold lineOf; omega
  have hb : Below w.heap.size w w4 := ((hb1.trans (hb2.mono (by omega))).trans (hb3.mono (by omega))).trans (hb4.mono (by omega))
  obtain ⟨X, hX⟩ : ∃ X, (wordsOf a).map (wd a) = X := ⟨_, rfl⟩
  obtain ⟨Y, hY⟩ : ∃ Y, (wordsOf b).map (wd b) = Y := ⟨_, rfl⟩
  rw [hX] at hwsA4 hwsC hlx hlz
  rw [hY] at hwsB4 hwsC hly hlz hbd
  simp only [List.length_map]
  rw [hlx, hly, hlz]
  have hnx : X.length ≤ 900 := by omega
  have hny : Y.length ≤ 900 := by omega
  have hA2 : ∀ x, A = some x → x.block < w4.heap.size := fun x e => by have := hA x e; omega
  have hA3 : ∀ x, A' = some x → x.block < w4.heap.size := fun x e => by have := hA' x e; omega
  have Hwa := hide hwsA4
  have Hwb := hide hwsB4
  have Hwc := hide hwsC
  have Hbd := hide hbd
  have K1 := hide hA2
  have K2 := hide hA3
  have K3 := hide hA4
  have hcnt := count_all a
  have Hcnt := hide hcnt
  clear hX hY hlx hly hlz hA2 hA3 hA4 hA hA' hwsA hwsB hwsA4 hwsB4 hwsC hown2 hown3 hown4 hbd hcnt lx ly s1 s2 s3 s4 hb1 hb2 hb3 hb4
  generalize lineOf a = L at *
  go_wp2
  go_loopw [64] (fun i wr => ∃ k : Nat, i = .int .i64 k ∧ k ≤ X.length + Y.length ∧ Below w4.heap.size w4 wr) (fun i _ => (X.length + Y.length) - (intOf i).toNat)
  case atStart => exact ⟨0, rfl, Nat.zero_le _, Below.refl _ _⟩
  case round =>
    obtain ⟨k, rfl, hk, hbr⟩ := hrel
    by_cases hlt : k < X.length + Y.length
    · have hzr := hbr.size
      obtain ⟨b4, off4, rfl, hat4⟩ := Hwc.out.keep K3.out hbr (by simp; omega)
      have hb4z : b4 < w4.heap.size := K3.out _ rfl
      obtain ⟨z0, z1, z2, z3⟩ := hat4 k (by simpa using hlt)
      clear hat4
      by_cases hkx : k < X.length
      · obtain ⟨b1, off1, rfl, hat1⟩ := Hwa.out.keep K1.out hbr (by omega)
        have hb1z : b1 < w4.heap.size := K1.out _ rfl
        obtain ⟨x0, x1, x2, x3⟩ := hat1 k hkx
        clear hat1
        rw [List.getElem_append_left hkx] at z0 z1 z2 z3
        have r1 : b1 < wr.heap.size := by omega
        have r2 : b1 < wr.heap.size + 1 := by omega
        have r4 : b4 < wr.heap.size := by omega
        go_wp2
        go_roundw
        case rel => exact ⟨k + 1, by go_num, by omega, (hbr.alloc hzr _).alloc (by rw [World.size_alloc]; omega) _⟩
        case measure => simp [intOf]; omega
      · obtain ⟨m, rfl⟩ : ∃ m, k = X.length + m := ⟨k - X.length, by omega⟩
        have hmy : m < Y.length := by omega
        obtain ⟨b1, off1, rfl, hat1⟩ := Hwb.out.keep K2.out hbr (by omega)
        have hb1z : b1 < w4.heap.size := K2.out _ rfl
        obtain ⟨x0, x1, x2, x3⟩ := hat1 m hmy
        clear hat1
        obtain ⟨n1, n2, n3, n4⟩ := Hbd.out Y[m] (List.getElem_mem _)
        rw [List.getElem_append_right (by omega)] at z0 z1 z2 z3
        simp only [show X.length + m - X.length = m by omega, List.getElem_map, sh] at z0 z1 z2 z3
        generalize Y[m].1 = yt at *
        generalize Y[m].2.1 = yo at *
        generalize Y[m].2.2.1 = yl at *
        generalize Y[m].2.2.2 = yc at *
        have r1 : b1 < wr.heap.size := by omega
        have r2 : b1 < wr.heap.size + 1 := by omega
        have r4 : b4 < wr.heap.size := by omega
        go_wp2
        obtain ⟨L0, L1⟩ := hL
        have q1 : IntKind.i64.wrap (L - 1 + 1) = L := by rw [IntWalk.i64_in _ (by omega)]; omega
        have q2 : IntKind.i64.wrap (yl + L) = yl + L := IntWalk.i64_in _ (by omega)
        refine wp_still_tail 7 (by kernel_rfl) (by kernel_rfl) ?_
        simp only [List.take_succ_cons, List.take_zero, List.drop_succ_cons, List.drop_zero]
        repeat still_step
        still_call (Hcnt.out _)
        repeat still_step
        refine wpStill_nil ?_
        go_wp2
        go_roundw
        case rel => exact ⟨X.length + m + 1, by go_num, by omega, ((hbr.alloc hzr _).alloc (by rw [World.size_alloc]; omega) _).drew⟩
        case measure => simp [intOf]; omega
    · obtain rfl : k = X.length + Y.length := by omega
      go_wp2
      go_ret
      exact ⟨rfl, hb.trans (hbr.mono hb.size)⟩

theorem walk (a0 a1 : ByteArray) (w : World) (w0 : a0.size ≤ maxLen) (w1 : a1.size ≤ maxLen) :
    Calls Try.prog 6 #[.string a0, .string a1] w fun e w' => e = .returned (.bool true) ∧ Below w.heap.size w w' := by
  unfold maxLen at w0 w1
  by_cases h0 : a0.size ≤ 900
  · by_cases h1 : a1.size ≤ 900
    · exact walk_in a0 a1 w h0 h1
    · have g0 : ¬ (900 : Int) < (a0.size : Int) := by omega
      have g1 : (900 : Int) < (a1.size : Int) := by omega
      go_enter Try.func6, Try.ntmps6
      go_wp2_with (go_at_call 9; refine (awake_any _).mono ?_; rintro e w1 ⟨rfl, hb1⟩)
      go_ret
      exact ⟨rfl, hb1⟩
  · have g0 : (900 : Int) < (a0.size : Int) := by omega
    go_enter Try.func6, Try.ntmps6
    go_wp2_with (go_at_call 9; refine (awake_any _).mono ?_; rintro e w1 ⟨rfl, hb1⟩)
    go_ret
    exact ⟨rfl, hb1⟩
end Go.Proofs.Ytbhmgooohhgpaaa.lexerParts
