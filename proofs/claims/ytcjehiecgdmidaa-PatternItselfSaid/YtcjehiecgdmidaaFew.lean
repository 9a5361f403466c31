/- The reference's Few and Texts. -/
import Derived.Test.YtcjehiecgdmidaaDec
import Derived.Deep.QuietTactic
import Derived.BigQuiet
set_option linter.unusedVariables false
namespace Go.Proofs.Ytcjehiecgdmidaa
open Go.RowKit Go.Shelf

set_option maxHeartbeats 2000000 in
/-- two lists that are the same -/
theorem Texts_eq (A A' : Option Addr) (n n' cap cap' : Nat) (L : List ByteArray) (w : World) (hn : n = L.length) (hn' : n' = L.length) (hl : L.length ≤ 1099511627776) (hw : Sl Value.string w A L) (hw' : Sl Value.string w A' L) :
    Calls Try.prog 14 #[.slice A n cap, .slice A' n' cap'] w fun e w' => e = .returned (.bool true) ∧ Below w.heap.size w w' := by
  subst hn hn'
  have Hw := hide hw
  have Hw' := hide hw'
  clear hw hw'
  go_enter Try.func14, Try.ntmps14
  go_wp2
  go_loopw [5] (fun v wr => ∃ i : Nat, v = .int .i64 i ∧ i ≤ L.length ∧ Below w.heap.size w wr) (fun v _ => L.length - (intOf v).toNat)
  case atStart => exact ⟨0, rfl, Nat.zero_le _, Below.refl _ _⟩
  case round =>
    obtain ⟨i, rfl, hi0, hbr⟩ := hrel
    have Hbr := hide hbr
    clear hbr
    by_cases hi : i < L.length
    · obtain ⟨b, off, rfl, hbz, hat⟩ := Hw.out.at hi
      obtain ⟨b', off', rfl, hbz', hat'⟩ := Hw'.out.at hi
      have hc := hat wr Hbr.out
      have hc' := hat' wr Hbr.out
      clear hat hat'
      generalize L[i]'hi = t at hc hc'
      have q1 : (0 : Int) ≤ (i : Int) := by omega
      have q2 : (i : Int) < (L.length : Int) := by omega
      go_wp2_with fail
      go_quiet (fail)
      go_wp2
      go_roundw
      case rel => exact ⟨i + 1, by go_num, by omega, Below_drewN Hbr.out _⟩
      case measure => simp [intOf]; omega
    · obtain rfl : i = L.length := Nat.le_antisymm hi0 (Nat.le_of_not_lt hi)
      go_wp2
      go_ret
      exact ⟨rfl, Hbr.out⟩

def fewB (m z : Nat) (L : List ByteArray) : Bool := (L.all fun s => decide (s.size ≤ z)) && decide (L.length ≤ m)
theorem fewB_spec {m z : Nat} {L : List ByteArray} (h : fewB m z L = true) : L.length ≤ m ∧ ∀ s ∈ L, s.size ≤ z := by
  unfold fewB at h
  rw [Bool.and_eq_true] at h
  exact ⟨of_decide_eq_true h.2, fun s hs => of_decide_eq_true (List.all_eq_true.1 h.1 s hs)⟩
set_option maxHeartbeats 2000000 in
theorem Few_any (m z : Nat) (A : Option Addr) (n cap : Nat) (L : List ByteArray) (w : World) (hn : n = L.length) (hl : L.length ≤ maxLen) (hw : Sl Value.string w A L) :
    Calls Try.prog 9 #[.slice A n cap, .int .i64 (m : Int), .int .i64 (z : Int)] w fun e w' => e = .returned (.bool (fewB m z L)) ∧ w' = w := by
  subst hn
  unfold maxLen at hl
  have Hw := hide hw
  clear hw
  go_enter Try.func9, Try.ntmps9
  go_wp2
  go_loop [7] (fun v => ∃ i : Nat, v = .int .i64 i ∧ i ≤ L.length ∧ ∀ j, j < i → ∀ hj : j < L.length, (L[j]'hj).size ≤ z) (fun v => L.length - (intOf v).toNat)
  case atStart => exact ⟨0, rfl, Nat.zero_le _, (fun j h => absurd h (by omega))⟩
  case round =>
    obtain ⟨i, rfl, hi0, hall⟩ := hrel
    have Hall := hide hall
    clear hall
    by_cases hi : i < L.length
    · obtain ⟨b, off, rfl, hbz, hat⟩ := Hw.out.at hi
      have hc := hat w (Below.refl _ _)
      clear hat
      by_cases hz : (z : Int) < ((L[i]'hi).size : Int)
      · have Hf := hide (show fewB m z L = false by
          unfold fewB
          rw [show (L.all fun s => decide (s.size ≤ z)) = false by rw [List.all_eq_false]; exact ⟨_, List.getElem_mem hi, by simp; omega⟩]; rfl)
        generalize L[i]'hi = t at hc hz
        go_wp2
        go_ret
        exact ⟨ret_b Hf.out, rfl⟩
      · have HZ := hide (show (L[i]'hi).size ≤ z by omega)
        generalize hLt : L[i]'hi = t at hc hz
        clear hLt
        go_wp2
        go_round
        case rel =>
          refine ⟨i + 1, by go_num, by omega, fun j hj hj' => ?_⟩
          rcases Nat.lt_or_ge j i with h | h
          · exact Hall.out j h hj'
          · obtain rfl : j = i := by omega
            exact HZ.out
        case measure => simp [intOf]; omega
    · obtain rfl : i = L.length := Nat.le_antisymm hi0 (Nat.le_of_not_lt hi)
      have Hf := hide (show fewB m z L = decide ((L.length : Int) ≤ (m : Int)) by
        unfold fewB
        rw [show (L.all fun s => decide (s.size ≤ z)) = true by
          rw [List.all_eq_true]; intro s hs
          obtain ⟨j, hj, rfl⟩ := List.mem_iff_getElem.1 hs
          exact decide_eq_true (Hall.out j hj hj), Bool.true_and]
        rw [Bool.eq_iff_iff, decide_eq_true_iff, decide_eq_true_iff]; omega)
      go_wp2
      go_ret
      refine ⟨ret_b ?_, rfl⟩
      rw [Hf.out, Bool.eq_iff_iff, decide_eq_true_iff, decide_eq_true_iff]; omega
end Go.Proofs.Ytcjehiecgdmidaa
