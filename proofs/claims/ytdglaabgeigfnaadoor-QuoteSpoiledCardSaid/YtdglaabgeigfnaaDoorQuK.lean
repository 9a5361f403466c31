/- awake of the laws 16; Texts and Few. -/
import Derived.Test.YtdglaabgeigfnaaDoorQuJ
set_option linter.unusedVariables false
namespace Go.Proofs.YtdglaabgeigfnaaDoor
open Go.RowKit Go.Shelf

theorem ex_unq : unqRes [92, 120, 52, 49] = (⟨#[65]⟩, 0) := by decide +kernel
theorem ex_join : joinRes [⟨#[97]⟩, ⟨#[98]⟩] = (⟨#[97, 32, 98]⟩, 0) := by decide +kernel
theorem ex_quote : quoteL [97, 32, 98] = [97, 92, 120, 50, 48, 98] := by decide +kernel
theorem ex_valid : vwB ⟨#[74, 97, 110, 32, 49, 32, 50, 48, 50, 54]⟩ = true := by decide +kernel
theorem ex_words : (wordsRes ⟨#[74, 97, 110, 32, 49]⟩).length = 2 := by decide +kernel

set_option maxHeartbeats 2000000 in
theorem awake_any (w : World) : Calls Tryd.prog 10 #[] w fun e w' => e = .returned (.bool true) ∧ Below w.heap.size w w' := by
  have U := hide (fun W : World => Unquote_any ⟨#[92, 120, 52, 49]⟩ W (by decide))
  rw [show (⟨#[92, 120, 52, 49]⟩ : ByteArray).data.toList = [92, 120, 52, 49] from rfl, ex_unq] at U
  have Q := hide (fun W : World => Quote_any ⟨#[97, 32, 98]⟩ W (by decide))
  rw [show (⟨#[97, 32, 98]⟩ : ByteArray).data.toList = [97, 32, 98] from rfl, ex_quote] at Q
  have V := hide (fun W : World => ValidWords_any ⟨#[74, 97, 110, 32, 49, 32, 50, 48, 50, 54]⟩ W (by decide))
  rw [ex_valid] at V
  have X := hide (fun W : World => Words_any ⟨#[74, 97, 110, 32, 49]⟩ W (by decide))
  have hx := ex_words
  generalize wordsRes ⟨#[74, 97, 110, 32, 49]⟩ = L at X hx
  have HX := hide hx
  clear hx
  go_enter Tryd.func10, Tryd.ntmps10
  go_wp2_with fail
  refine (U.out _).mono ?_
  rintro e w1 ⟨rfl, hb1⟩
  have B1 := hide hb1
  clear hb1
  go_wp2_with fail
  refine (Join_any (some ⟨w1.heap.size, 0, none⟩) 2 2 [⟨#[97]⟩, ⟨#[98]⟩] _ rfl (fun _ => ⟨w1.heap.size, 0, rfl, fun i hi => ?_⟩) (Nat.le_refl _) (by decide) (by decide)).mono ?_
  · rw [Nat.zero_add, (Row.new w1 9 #[.string ⟨#[97]⟩, .string ⟨#[98]⟩]).cell i]
    have : i = 0 ∨ i = 1 := by simp at hi; omega
    rcases this with rfl | rfl <;> rfl
  rintro e w2 ⟨rfl, hb2⟩
  rw [ex_join]
  have B2 := hide hb2
  clear hb2
  go_wp2_with fail
  refine (Q.out _).mono ?_
  rintro e w3 ⟨rfl, hb3⟩
  have B3 := hide hb3
  clear hb3
  go_wp2_with fail
  refine (V.out _).mono ?_
  rintro e w4 ⟨rfl, hb4⟩
  have B4 := hide hb4
  clear hb4
  go_wp2_with fail
  refine (X.out _).mono ?_
  rintro e w5 ⟨A, cap, rfl, _, _, _, hb5⟩
  have B5 := hide hb5
  clear hb5
  rw [HX.out]
  go_wp2
  go_ret
  have z1 := B1.out.size
  have z2 := B2.out.size
  have z3 := B3.out.size
  have z4 := B4.out.size
  rw [World.size_alloc] at z2
  exact ⟨rfl, ((((B1.out.alloc z1 _).trans (B2.out.mono (by rw [World.size_alloc]; omega))).trans (B3.out.mono (by omega))).trans (B4.out.mono (by omega))).trans (B5.out.mono (by omega))⟩

set_option maxHeartbeats 2000000 in
/-- two lists that are the same -/
theorem Texts_eq (A A' : Option Addr) (n n' cap cap' : Nat) (L : List ByteArray) (w : World) (hn : n = L.length) (hn' : n' = L.length) (hl : L.length ≤ 1099511627776) (hw : Sl Value.string w A L) (hw' : Sl Value.string w A' L) :
    Calls Tryd.prog 20 #[.slice A n cap, .slice A' n' cap'] w fun e w' => e = .returned (.bool true) ∧ Below w.heap.size w w' := by
  subst hn hn'
  have Hw := hide hw
  have Hw' := hide hw'
  clear hw hw'
  go_enter Tryd.func20, Tryd.ntmps20
  go_wp2
  go_loopw [5] (fun v wr => ∃ i : Nat, v = .int .i64 i ∧ i ≤ L.length ∧ Below w.heap.size w wr) (fun v _ => L.length - (intOf v).toNat)
  case atStart => exact ⟨0, rfl, Nat.zero_le _, Below.refl _ _⟩
  case round =>
    obtain ⟨i, rfl, hi0, hbr⟩ := hrel
    have Hbr := hide hbr
    clear hbr
    by_cases hi : i < L.length
    · obtain ⟨b, off, rfl, hbz, hat⟩ := Hw.out.at hi
      obtain ⟨b', off', rfl, hbz', hat'⟩ := Hw'.out.at hi
      have hc := hat wr Hbr.out
      have hc' := hat' wr Hbr.out
      clear hat hat'
      generalize L[i]'hi = t at hc hc'
      have q1 : (0 : Int) ≤ (i : Int) := by omega
      have q2 : (i : Int) < (L.length : Int) := by omega
      go_wp2_with fail
      go_quiet (fail)
      go_wp2
      go_roundw
      case rel => exact ⟨i + 1, by go_num, by omega, Below_drewN Hbr.out _⟩
      case measure => simp [intOf]; omega
    · obtain rfl : i = L.length := Nat.le_antisymm hi0 (Nat.le_of_not_lt hi)
      go_wp2
      go_ret
      exact ⟨rfl, Hbr.out⟩

def fewB (L : List ByteArray) : Bool := (L.all fun s => decide (s.size ≤ 300)) && decide (L.length ≤ 60)
theorem fewB_spec {L : List ByteArray} (h : fewB L = true) : L.length ≤ 60 ∧ ∀ s ∈ L, s.size ≤ 300 := by
  unfold fewB at h
  rw [Bool.and_eq_true] at h
  exact ⟨of_decide_eq_true h.2, fun s hs => of_decide_eq_true (List.all_eq_true.1 h.1 s hs)⟩
set_option maxHeartbeats 2000000 in
theorem Few_any (A : Option Addr) (n cap : Nat) (L : List ByteArray) (w : World) (hn : n = L.length) (hl : L.length ≤ maxLen) (hw : Sl Value.string w A L) :
    Calls Tryd.prog 15 #[.slice A n cap, .int .i64 60, .int .i64 300] w fun e w' => e = .returned (.bool (fewB L)) ∧ w' = w := by
  subst hn
  unfold maxLen at hl
  have Hw := hide hw
  clear hw
  go_enter Tryd.func15, Tryd.ntmps15
  go_wp2
  go_loop [7] (fun v => ∃ i : Nat, v = .int .i64 i ∧ i ≤ L.length ∧ ∀ j, j < i → ∀ hj : j < L.length, (L[j]'hj).size ≤ 300) (fun v => L.length - (intOf v).toNat)
  case atStart => exact ⟨0, rfl, Nat.zero_le _, (fun j h => absurd h (by omega))⟩
  case round =>
    obtain ⟨i, rfl, hi0, hall⟩ := hrel
    have Hall := hide hall
    clear hall
    by_cases hi : i < L.length
    · obtain ⟨b, off, rfl, hbz, hat⟩ := Hw.out.at hi
      have hc := hat w (Below.refl _ _)
      clear hat
      by_cases hz : (300 : Int) < ((L[i]'hi).size : Int)
      · have Hf := hide (show fewB L = false by
          unfold fewB
          rw [show (L.all fun s => decide (s.size ≤ 300)) = false by rw [List.all_eq_false]; exact ⟨_, List.getElem_mem hi, by simp; omega⟩]; rfl)
        generalize L[i]'hi = t at hc hz
        go_wp2
        go_ret
        exact ⟨ret_b Hf.out, rfl⟩
      · have HZ := hide (show (L[i]'hi).size ≤ 300 by omega)
        generalize hLt : L[i]'hi = t at hc hz
        clear hLt
        go_wp2
        go_round
        case rel =>
          refine ⟨i + 1, by go_num, by omega, fun j hj hj' => ?_⟩
          rcases Nat.lt_or_ge j i with h | h
          · exact Hall.out j h hj'
          · obtain rfl : j = i := by omega
            exact HZ.out
        case measure => simp [intOf]; omega
    · obtain rfl : i = L.length := Nat.le_antisymm hi0 (Nat.le_of_not_lt hi)
      have Hf := hide (show fewB L = decide ((L.length : Int) ≤ 60) by
        unfold fewB
        rw [show (L.all fun s => decide (s.size ≤ 300)) = true by
          rw [List.all_eq_true]; intro s hs
          obtain ⟨j, hj, rfl⟩ := List.mem_iff_getElem.1 hs
          exact decide_eq_true (Hall.out j hj hj), Bool.true_and]
        rw [Bool.eq_iff_iff, decide_eq_true_iff, decide_eq_true_iff]; omega)
      go_wp2
      go_ret
      exact ⟨ret_b Hf.out, rfl⟩
end Go.Proofs.YtdglaabgeigfnaaDoor
