/- The walk of the law LexerWords. -/
import Derived.Test.YtbhmgooohhgpaaaDoorLexWoP
import Derived.Test.YtbhmgooohhgpaaaDoorLexR
import Derived.Lib.QuietBelow
import Derived.BigQuiet
import Derived.Shelf.Strings.SlTrimAscii
namespace Go.Proofs.YtbhmgooohhgpaaaDoor.lexerWords
open Go.RowKit Go.Shelf Go.Sort
set_option linter.unusedVariables false

def wsB : ByteArray := ⟨#[32, 9, 10, 11, 12, 13]⟩
theorem ascii_ws : Ascii wsB := by
  intro j b h
  have : b ∈ ([32, 9, 10, 11, 12, 13] : List UInt8) := List.mem_of_getElem? h
  simp only [List.mem_cons, List.not_mem_nil, or_false] at this
  rcases this with rfl | rfl | rfl | rfl | rfl | rfl <;> decide
theorem has_any (t : ByteArray) (w : World) (ht : t.size ≤ 2000) (h : Lib.containsAny t.data.toList cutset = false) :
    Calls Tryd.prog 6 #[.string t, .string ⟨#[32, 9, 10, 11, 12, 13]⟩] w fun e w' => e = .returned (.bool false) ∧ Below w.heap.size w w' := by
  have := containsAny_any t wsB w (by decide) (by decide) (by omega) ascii_ws
  rw [show Lib.containsAny t.data.toList wsB.data.toList = false from h] at this
  exact this
theorem trim_any (t : ByteArray) (w : World) (ht : t.size ≤ 2000) (h : Lib.trimS t.data.toList cutset = []) :
    Calls Tryd.prog 7 #[.string t, .string ⟨#[32, 9, 10, 11, 12, 13]⟩] w fun e w' => e = .returned (.string ⟨#[]⟩) ∧ Below w.heap.size w w' := by
  have := Any.strings_Trim_laid Tryd.lays160 (by kernel_rfl) t wsB w (by omega) (by decide) ascii_ws
  rw [show Lib.trimS t.data.toList wsB.data.toList = [] from h] at this
  exact this

set_option maxHeartbeats 4000000 in
set_option maxRecDepth 100000 in
theorem walk_in (s : ByteArray) (w : World) (hs : s.size ≤ 2000) :
    Calls Tryd.prog 3 #[.string s] w fun e w' => e = .returned (.bool true) ∧ Below w.heap.size w w' := by
  have h1 : ¬ (2000 : Int) < (s.size : Int) := by omega
  go_enter Tryd.func3, Tryd.ntmps3
  go_wp2_with fail
  refine (awake_any _).mono ?_
  rintro e w1 ⟨rfl, hb1⟩
  have Hb1 := hide hb1
  clear hb1
  go_wp2_with fail
  refine (Scan_any s (by omega) _).mono ?_
  rintro e w2 ⟨v2, rfl, hown2, hb2⟩
  obtain ⟨A, cap, rfl, hws⟩ := WSl_own hown2
  have hA : ∀ x, A = some x → x.block < w2.heap.size := fun x e => (hown2.lt _ (by subst e; rfl)).2
  have hfair := fair s
  have hend := fair_end s
  have hlen := wordsOf_len s
  simp only [List.length_map]
  obtain ⟨ps, hps⟩ : ∃ ps, wordsOf s = ps := ⟨_, rfl⟩
  rw [hps] at hws hfair hend hlen ⊢
  have Hws := hide hws
  have HA := hide hA
  have Hfair := hide hfair
  have Hend := hide hend
  have Hb2 := hide (Hb1.out.trans (hb2.mono Hb1.out.size))
  have Hlen := hide hlen
  have hlb : ps.length ≤ 2000 := by omega
  clear hws hA hfair hend hb2 hown2 hps hlen
  go_wp2
  go_loopw [5, 22] (fun at' i wr => ∃ k : Nat, i = .int .i64 k ∧ k ≤ ps.length ∧ at' = .int .i64 (atOf ps k) ∧ Below w2.heap.size w2 wr) (fun _ i _ => ps.length - (intOf i).toNat)
  case atStart => exact ⟨0, rfl, Nat.zero_le _, rfl, Below.refl _ _⟩
  case round =>
    obtain ⟨k, rfl, hk, rfl, hbr⟩ := hrel
    have Hbr := hide hbr
    clear hbr
    by_cases hlt : k < ps.length
    · obtain ⟨b, off, rfl, hat⟩ := Hws.out.keep HA.out Hbr.out (by simpa using (by omega : 0 < ps.length))
      have hbz : b < w2.heap.size := HA.out _ rfl
      obtain ⟨x0, x1, x2, x3⟩ := hat k (by simpa using hlt)
      clear hat
      simp only [List.getElem_map, wd] at x0 x1 x2 x3
      have F := Hfair.out k hlt
      have hsucc := atOf_succ ps k hlt
      generalize ps[k].1 = o at x0 x1 x2 x3 F
      generalize ps[k].2 = e' at x0 x1 x2 x3 F hsucc
      generalize (pl s.data.toList o).2.1 = ln at x2
      generalize (pl s.data.toList o).2.2 = cl at x3
      have Hsucc := hide hsucc
      clear hsucc
      have hbz2 : b < wr.heap.size := Nat.lt_of_lt_of_le hbz Hbr.out.size
      obtain ⟨f1, f2, f3, f4, f5, f6⟩ := F
      have hts : (s.extract o e').size = e' - o := by rw [ByteArray.size_extract]; omega
      have hag : (s.extract (atOf ps k) o).size ≤ 2000 := by rw [ByteArray.size_extract]; omega
      have hse : s.extract o (o + (s.extract o e').size) = s.extract o e' := by rw [hts, show o + (e' - o) = e' by omega]
      obtain ⟨t, ht⟩ : ∃ t, s.extract o e' = t := ⟨_, rfl⟩
      obtain ⟨a, ha⟩ : ∃ a, atOf ps k = a := ⟨_, rfl⟩
      rw [ht] at x0 hts hse f5
      rw [ha] at f1 f2 f6 hag ⊢
      have Hts := hide hts
      have Hse := hide hse
      have F5 := hide f5
      have F6 := hide f6
      have F2 := hide f2
      have Ht := hide ht
      have Ha := hide ha
      have hte : (o : Int) + (t.size : Int) = (e' : Int) := by omega
      have HTE := hide hte
      have ht0 : ¬ t.toList = [] := by
        rw [Lib.toList_data]; intro e; have : t.size = 0 := by rw [Lib.size_eq, e]; rfl
        omega
      have ht1 : t.toList.isEmpty = false := by
        cases h : t.toList with
        | nil => exact absurd h ht0
        | cons => rfl
      have htz : t.size ≤ 2000 := by omega
      clear hts hse f5 f6 f2 ht ha hte
      go_wp2_with fail
      have g1 : ¬ ((o : Int) < (a : Int)) := by omega
      have g2 : ¬ ((s.size : Int) < (o : Int) + (t.size : Int)) := by have := HTE.out; omega
      have g3 : (0 : Int) ≤ (o : Int) := Int.natCast_nonneg _
      have g4 : (o : Int) ≤ (o : Int) + (t.size : Int) := by omega
      have g5 : (o : Int) + (t.size : Int) ≤ (s.size : Int) := by have := HTE.out; omega
      have g6 : ((o : Int) + (t.size : Int)).toNat = o + t.size := by omega
      have g7 : (a : Int) ≤ (o : Int) := by omega
      have g8 : (o : Int) ≤ (s.size : Int) := by omega
      have g9 : s.extract o (o + t.size) = t := Hse.out
      obtain ⟨W, hW⟩ : ∃ W, wr.alloc (Obj.cells #[Value.string t, Value.int .i64 o, Value.int .i64 ln, Value.int .i64 cl] 28) = W := ⟨_, rfl⟩
      have m0 : W.cell? ⟨wr.heap.size, 0, none⟩ = some (.string t) := by rw [← hW]; exact cells_new [_, _, _, _] _ rfl 0 _ rfl
      have m1 : W.cell? ⟨wr.heap.size, 1, none⟩ = some (.int .i64 o) := by rw [← hW]; exact cells_new [_, _, _, _] _ rfl 1 _ rfl
      rw [hW]
      have n0 := fun d os => cell_regrown m0 d os
      have n1 := fun d os => cell_regrown m1 d os
      have HW := hide hW
      have M0 := hide m0
      have M1 := hide m1
      have cC : ∀ d os, Calls Tryd.prog 6 #[.string t, .string ⟨#[32, 9, 10, 11, 12, 13]⟩] (grow (redrawn W d) os) fun e w'' => e = .returned (.bool false) ∧ ∃ p : Regrown, w'' = grow (redrawn W p.d) p.os := fun d os => Calls.regrown_of (has_any t _ htz F5.out)
      have cT : ∀ d os, Calls Tryd.prog 7 #[.string (s.extract a o), .string ⟨#[32, 9, 10, 11, 12, 13]⟩] (grow (redrawn W d) os) fun e w'' => e = .returned (.string ⟨#[]⟩) ∧ ∃ p : Regrown, w'' = grow (redrawn W p.d) p.os := fun d os => Calls.regrown_of (trim_any _ _ hag F6.out)
      have CC := hide cC
      have CT := hide cT
      clear m0 m1 hW cC cT x0 x1 x2 x3
      by_cases h0 : 0 < a
      · have h5 : ¬ o = a := by
          have : 0 < k := by
            rcases Nat.eq_zero_or_pos k with h | h
            · exfalso; subst h; have := Ha.out; rw [atOf_zero] at this; omega
            · exact h
          have := F2.out this
          omega
        have h6 : (o == a) = false := beq_eq_false_iff_ne.2 h5
        refine wp_region_quiet_below (by kernel_rfl) (by kernel_rfl) ?_
        repeat (go_big_quiet_step (first | exact CC.out _ _ | exact CT.out _ _))
        refine wpQuiet_nil ?_
        intro _ hw'
        obtain ⟨⟨dq, osq⟩, hw''⟩ := hw'
        subst hw''
        go_wp2
        go_roundw
        case rel =>
          have hz : w2.heap.size ≤ W.heap.size := by rw [← HW.out, World.size_alloc]; exact Nat.le_succ_of_le Hbr.out.size
          exact ⟨k + 1, by go_num, by omega, by rw [Hsucc.out, ← HTE.out], (show RowKit.Below w2.heap.size w2 W from by rw [← HW.out]; exact Hbr.out.alloc Hbr.out.size _).trans ((below_regrown W dq osq).mono hz)⟩
        case measure => simp [intOf]; omega
      · have h4 : decide (0 < a) = false := decide_eq_false h0
        refine wp_region_quiet_below (by kernel_rfl) (by kernel_rfl) ?_
        repeat (go_big_quiet_step (first | exact CC.out _ _ | exact CT.out _ _))
        refine wpQuiet_nil ?_
        intro _ hw'
        obtain ⟨⟨dq, osq⟩, hw''⟩ := hw'
        subst hw''
        go_wp2
        go_roundw
        case rel =>
          have hz : w2.heap.size ≤ W.heap.size := by rw [← HW.out, World.size_alloc]; exact Nat.le_succ_of_le Hbr.out.size
          exact ⟨k + 1, by go_num, by omega, by rw [Hsucc.out, ← HTE.out], (show RowKit.Below w2.heap.size w2 W from by rw [← HW.out]; exact Hbr.out.alloc Hbr.out.size _).trans ((below_regrown W dq osq).mono hz)⟩
        case measure => simp [intOf]; omega
    · obtain rfl : k = ps.length := Nat.le_antisymm hk (Nat.le_of_not_lt hlt)
      rw [atOf_all]
      obtain ⟨e1, e2⟩ := Hend.out
      have e3 : (s.extract (endOf ps) s.size).size ≤ 2000 := by rw [ByteArray.size_extract]; omega
      generalize endOf ps = a at e1 e2 e3
      have E2 := hide e2
      have e4 : (a : Int) ≤ (s.size : Int) := by omega
      clear e2
      go_wp2_with fail
      refine (trim_any _ _ e3 E2.out).mono ?_
      rintro e w3 ⟨rfl, hb3⟩
      go_wp2
      go_ret
      exact ⟨rfl, (Hb2.out.trans (Hbr.out.mono Hb2.out.size)).trans (hb3.mono (Nat.le_trans Hb2.out.size Hbr.out.size))⟩

set_option maxHeartbeats 1000000 in
theorem walk (s : ByteArray) (w : World) (hs : s.size ≤ maxLen) :
    Calls Tryd.prog 3 #[.string s] w fun e w' => e = .returned (.bool true) ∧ Below w.heap.size w w' := by
  by_cases h : s.size ≤ 2000
  · exact walk_in s w h
  · unfold maxLen at hs
    have h1 : (2000 : Int) < (s.size : Int) := by omega
    go_enter Tryd.func3, Tryd.ntmps3
    go_wp2_with fail
    refine (awake_any _).mono ?_
    rintro e w1 ⟨rfl, hb1⟩
    go_wp2
    go_ret
    exact ⟨rfl, hb1⟩
end Go.Proofs.YtbhmgooohhgpaaaDoor.lexerWords
