/- The walk of the law LexerLines: lines and columns by the line feeds before a byte. -/
import Derived.Test.YtbhmgooohhgpaaaLexO
import Derived.Test.YtbhmgooohhgpaaaShelf
import Derived.Lib.LastIndexByte
namespace Go.Proofs.Ytbhmgooohhgpaaa.lexerLines
open Go.RowKit Go.Shelf
set_option linter.unusedVariables false

theorem scanW_bd (l : List UInt8) (k : Nat) : ∀ p ∈ (scanW l k).1, p.1 < p.2 ∧ p.2 ≤ k := by
  induction k with
  | zero => intro p hp; simp [scanW] at hp
  | succ k ih =>
    cases hc : whiteB (l.getD k 0).toNat with
    | true =>
      rw [scanW_white l k _ rfl hc]
      intro p hp
      have := ih p hp
      omega
    | false =>
      cases hi : (scanW l k).2 with
      | true =>
        obtain ⟨qs, o, e, ho⟩ := scanW_inside l k hi
        rw [scanW_more l k _ rfl hc hi, e]
        rw [e] at ih
        intro p hp
        simp at hp
        rcases hp with hp | rfl
        · have := ih p (by simp [hp]); omega
        · simp; omega
      | false =>
        rw [scanW_new l k _ rfl hc hi]
        intro p hp
        simp at hp
        rcases hp with hp | rfl
        · have := ih p hp; omega
        · simp

theorem pl_line (s : ByteArray) (o : Nat) (h : o ≤ s.size) : (pl s.data.toList o).2.1 = 1 + (Lib.countByte (s.extract 0 o).data.toList 10 : Int) := by
  have e : (s.extract 0 o).data.toList = s.data.toList.take o := by rw [Lib.extract_data]; simp
  rw [e]
  clear e
  induction o with
  | zero => simp [pl_zero, Lib.countByte]
  | succ o ih =>
    have hlt : o < s.data.toList.length := by simp; omega
    rw [pl_succ _ _ hlt, List.take_succ_eq_append_getElem hlt]
    have ih' := ih (by omega)
    simp only [plStep, Lib.countByte, List.count_append, nextLine] at ih' ⊢
    rw [ih']
    by_cases hc : s.data.toList[o] = 10
    · rw [hc]; simp; omega
    · have hc' : ¬ ((s.data.toList[o]).toNat : Int) = 10 := fun e => hc (UInt8.toNat_inj.1 (by simpa using (Int.ofNat_inj.1 e)))
      have hb : (s.data.toList[o] == 10) = false := by simpa using hc
      rw [if_neg hc', List.count_cons, hb]
      simp

theorem lastIdx_take (s : ByteArray) (o k : Nat) (h : k ≤ o) (ho : o ≤ s.size) : Lib.lastIdx (s.extract 0 o) 10 k = Lib.lastIdx s 10 k := by
  induction k with
  | zero => rfl
  | succ k ih =>
    have e : (s.extract 0 o).data[k]! = s.data[k]! := by
      have hd : (s.extract 0 o).data.toList = s.data.toList.take o := by rw [Lib.extract_data]; simp
      have h1 : k < (s.extract 0 o).data.size := by rw [← Array.length_toList, hd]; simp; omega
      have h2 : k < s.data.size := by simp; omega
      rw [getElem!_pos (s.extract 0 o).data k h1, getElem!_pos s.data k h2]
      simp
    by_cases hc : ((s.data[k]!).toNat : Int) = 10
    · rw [Lib.lastIdx_hit _ _ _ (by rw [e]; exact hc), Lib.lastIdx_hit _ _ _ hc]
    · rw [Lib.lastIdx_miss _ _ _ (by rw [e]; exact hc), Lib.lastIdx_miss _ _ _ hc, ih (by omega)]

theorem pl_col (s : ByteArray) (o : Nat) (h : o ≤ s.size) : (pl s.data.toList o).2.2 = (o : Int) - Lib.lastIndexByte (s.extract 0 o) 10 := by
  have hz : (s.extract 0 o).size = o := by rw [Lib.size_eq, Lib.extract_data]; simp; omega
  unfold Lib.lastIndexByte
  rw [hz, lastIdx_take s o o (Nat.le_refl _) h]
  clear hz
  induction o with
  | zero => simp [pl_zero, Lib.lastIdx]
  | succ o ih =>
    have hlt : o < s.data.toList.length := by simp; omega
    have hd : (s.data[o]!) = s.data.toList[o] := by rw [getElem!_pos s.data o (by simpa using hlt)]; simp
    rw [pl_succ _ _ hlt]
    simp only [plStep, nextCol]
    by_cases hc : ((s.data.toList[o]).toNat : Int) = 10
    · rw [if_pos hc, Lib.lastIdx_hit _ _ _ (by rw [hd]; exact hc)]; omega
    · rw [if_neg hc, Lib.lastIdx_miss _ _ _ (by rw [hd]; exact hc), ih (by omega)]; omega

theorem count_any (s : ByteArray) (o : Nat) (h : o ≤ s.size) (w : World) :
    Calls Try.prog 19 #[.string (s.extract 0 o), .string ⟨#[10]⟩] w fun e w' => e = .returned (.int .i64 ((pl s.data.toList o).2.1 - 1)) ∧ w' = w :=
  (Try.strings_Count_one (s.extract 0 o) 10 w).mono fun e w' ⟨he, hw⟩ => ⟨by rw [he, pl_line s o h, show (1 + (Lib.countByte (s.extract 0 o).data.toList 10 : Int)) - 1 = (Lib.countByte (s.extract 0 o).data.toList 10 : Int) by omega], hw⟩
theorem last_any (s : ByteArray) (o : Nat) (h : o ≤ s.size) (hs : s.size ≤ 1099511627776) (w : World) :
    Calls Try.prog 20 #[.string (s.extract 0 o), .int .u8 10] w fun e w' => e = .returned (.int .i64 ((o : Int) - (pl s.data.toList o).2.2)) ∧ w' = w :=
  (Try.strings_LastIndexByte (s.extract 0 o) 10 (by have := extract_size_le s 0 o; omega) w).mono fun e w' ⟨he, hw⟩ => ⟨by rw [he, pl_col s o h, show (o : Int) - ((o : Int) - Lib.lastIndexByte (s.extract 0 o) 10) = Lib.lastIndexByte (s.extract 0 o) 10 by omega], hw⟩

set_option maxHeartbeats 2000000 in
theorem walk (a0 : ByteArray) (w : World) (w0 : a0.size ≤ maxLen) :
    Calls Try.prog 7 #[.string a0] w fun e w' => e = .returned (.bool true) ∧ Below w.heap.size w w' := by
  unfold maxLen at w0
  by_cases hsz : a0.size ≤ 2000
  · have h1 : ¬ (2000 : Int) < (a0.size : Int) := by omega
    go_enter Try.func7, Try.ntmps7
    go_wp2_with fail
    refine (awake_any _).mono ?_
    rintro e w1 ⟨rfl, hb1⟩
    go_wp2_with fail
    refine (Scan_any a0 (by omega) _).mono ?_
    rintro e w2 ⟨v2, rfl, hown2, hb2⟩
    obtain ⟨A, cap, rfl, hws⟩ := WSl_own hown2
    have hA : ∀ a, A = some a → w.heap.size ≤ a.block ∧ a.block < w2.heap.size := fun a e => by
      have := hown2.lt _ (show (Value.slice A _ cap).ownBlock = some a.block by subst e; rfl)
      exact ⟨Nat.le_trans hb1.size this.1, this.2⟩
    have hl := wordsOf_len a0
    have hb := hb1.trans (hb2.mono hb1.size)
    have hbd := scanW_bd a0.data.toList a0.size
    have Hbd := hide hbd
    have HA := hide hA
    clear hbd hA
    go_wp2_with fail
    go_loopw [24] (fun i wr => ∃ k : Nat, i = .int .i64 k ∧ k ≤ (wordsOf a0).length ∧ Below w2.heap.size w2 wr) (fun i _ => (wordsOf a0).length - (intOf i).toNat)
    case atStart => exact ⟨0, rfl, Nat.zero_le _, Below.refl _ _⟩
    case round =>
      obtain ⟨k, rfl, hk, hbr⟩ := hrel
      by_cases hlt : k < (wordsOf a0).length
      · obtain ⟨b, off, rfl, hat⟩ := hws.keep (fun a e => (HA.out a e).2) hbr (by simp; omega)
        obtain ⟨c0, c1, c2, c3⟩ := hat k (by simpa using hlt)
        obtain ⟨hp1, hp2⟩ := Hbd.out ((wordsOf a0)[k]) (List.getElem_mem _)
        simp only [List.getElem_map, wd] at c0 c1 c2 c3
        obtain ⟨o, ho⟩ : ∃ o, (wordsOf a0)[k].1 = o := ⟨_, rfl⟩
        obtain ⟨e, he⟩ : ∃ e, (wordsOf a0)[k].2 = e := ⟨_, rfl⟩
        rw [ho] at c0 c1 c2 c3 hp1
        rw [he] at c0 hp1 hp2
        clear ho he hat
        have hos : o ≤ a0.size := by omega
        obtain ⟨_, hq2, hq3, hq4, hq5⟩ := pl_bd a0.data.toList o (by simpa using hos)
        have hpos : posS a0 o = (pl a0.data.toList o).2 := by unfold posS; rw [if_pos ⟨by omega, by omega⟩]; rfl
        have hcnt := count_any a0 o hos
        have hlast := last_any a0 o hos (by omega)
        have Hpos := hide hpos
        have Hcnt := hide hcnt
        have Hlast := hide hlast
        clear hpos hcnt hlast
        have hzr := hbr.size
        go_wp2_with fail
        refine (Position_any a0 (by omega) o _).mono ?_
        rintro e w4 ⟨rfl, hb4⟩
        rw [Hpos.out]
        generalize (pl a0.data.toList o).2.1 = L at *
        generalize (pl a0.data.toList o).2.2 = K at *
        have hrx := (Row.new wr 35 #[.string (a0.extract o e), .int .i64 o, .int .i64 L, .int .i64 K]).below hb4 (by rw [World.size_alloc]; omega)
        have x1 : w4.cell? ⟨wr.heap.size, 1, none⟩ = some (.int .i64 o) := hrx.cell 1
        have x2 : w4.cell? ⟨wr.heap.size, 2, none⟩ = some (.int .i64 L) := hrx.cell 2
        have x3 : w4.cell? ⟨wr.heap.size, 3, none⟩ = some (.int .i64 K) := hrx.cell 3
        have hf : Below w2.heap.size w2 w4 := (hbr.alloc hzr _).trans (hb4.mono (by rw [World.size_alloc]; omega))
        have Hf := hide hf
        clear hf hrx hbr hb4
        go_wp2_with fail
        have hw1 : IntKind.i64.wrap (1 + (L - 1)) = L := by rw [IntWalk.i64_in _ (by omega)]; omega
        have hw2 : IntKind.i64.wrap ((o : Int) - ((o : Int) - K)) = K := by rw [IntWalk.i64_in _ (by omega)]; omega
        refine wp_still (by kernel_rfl) (by kernel_rfl) ?_
        repeat still_step
        still_call (Hcnt.out _)
        repeat still_step
        still_call (Hlast.out _)
        repeat still_step
        refine wpStill_nil ?_
        clear hw1 hw2
        go_wp2
        go_roundw
        case rel => exact ⟨k + 1, by go_num, by omega, Hf.out.drew⟩
        case measure => simp [intOf]; omega
      · obtain rfl : k = (wordsOf a0).length := by omega
        go_wp2
        go_ret
        exact ⟨rfl, hb.trans (hbr.mono hb.size)⟩
  · have h1 : (2000 : Int) < (a0.size : Int) := by omega
    go_enter Try.func7, Try.ntmps7
    go_wp2_with (go_at_call 9; refine (awake_any _).mono ?_; rintro e w1 ⟨rfl, hb1⟩)
    go_ret
    exact ⟨rfl, hb1⟩
end Go.Proofs.Ytbhmgooohhgpaaa.lexerLines
