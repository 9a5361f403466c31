/- The reference's Scan, Position, Printable; Section of both. -/
import Derived.Test.YtbhmgooohhgpaaaLexF
namespace Go.Proofs.Ytbhmgooohhgpaaa
open Go.RowKit Go.Shelf

theorem whiteB_ten : whiteB 10 = true := rfl

set_option maxHeartbeats 2000000 in
theorem refPosition_in (s : ByteArray) (hs : s.size ≤ 1099511627776) (m : Nat) (hm : m ≤ s.size) (w : World) :
    Calls Try.prog 16 #[.string s, .int .i64 m] w fun e w' => e = .returned (.tuple #[.int .i64 (pl s.data.toList m).2.1, .int .i64 (pl s.data.toList m).2.2]) ∧ w = w' := by
  have h1 : ¬ (s.size : Int) < (m : Int) := by omega
  go_enter Try.func16, Try.ntmps16
  go_wp2
  go_loop [6, 7, 8] (fun l c i => ∃ k : Nat, k ≤ m ∧ i = .int .i64 k ∧ l = .int .i64 (pl s.data.toList k).2.1 ∧ c = .int .i64 (pl s.data.toList k).2.2) (fun _ _ i => m - (intOf i).toNat)
  case atStart => exact ⟨0, by omega, rfl, rfl, rfl⟩
  case round =>
    obtain ⟨k, hk, rfl, rfl, rfl⟩ := hrel
    obtain ⟨_, hp2, hp3, hp4, hp5⟩ := pl_bd s.data.toList k (by simp; omega)
    by_cases hlt : k < m
    · have hks : k < s.size := by omega
      have hpl := pl_succ s.data.toList k (by simpa using hks)
      have e2 : (pl s.data.toList (k + 1)).2.1 = nextLine (pl s.data.toList k).2.1 s[k].toNat := by rw [hpl]; rfl
      have e3 : (pl s.data.toList (k + 1)).2.2 = nextCol (pl s.data.toList k).2.2 s[k].toNat := by rw [hpl]; rfl
      have E2 := hide e2
      have E3 := hide e3
      clear hpl e2 e3
      by_cases hc : (s[k].toNat : Int) = 10
      · have hc' : ((s[k].toNat : Int) == 10) = true := beq_iff_eq.2 hc
        have Hc := hide hc
        clear hc
        go_wp2
        go_round
        case rel => exact ⟨k + 1, by omega, by go_num, by rw [E2.out, Hc.out]; rfl, by rw [E3.out, Hc.out]; rfl⟩
        case measure => simp [intOf]; omega
      · have hc' : ((s[k].toNat : Int) == 10) = false := beq_eq_false_iff_ne.2 hc
        have Hc := hide hc
        clear hc
        go_wp2
        go_round
        case rel => exact ⟨k + 1, by omega, by go_num, by rw [E2.out, nextLine, if_neg Hc.out], by rw [E3.out, nextCol, if_neg Hc.out]⟩
        case measure => simp [intOf]; omega
    · obtain rfl : k = m := by omega
      go_wp2
      go_ret2
      exact ⟨rfl, rfl⟩

theorem refPosition_out (s : ByteArray) (o : Int) (ho : o < 0 ∨ (s.size : Int) < o) (w : World) :
    Calls Try.prog 16 #[.string s, .int .i64 o] w fun e w' => e = .returned (.tuple #[.int .i64 0, .int .i64 0]) ∧ w = w' := by
  by_cases h0 : o < 0
  · clear ho
    go_enter Try.func16, Try.ntmps16
    go_wp2
    go_ret2
    exact ⟨rfl, rfl⟩
  · have h1 : (s.size : Int) < o := by omega
    clear ho
    go_enter Try.func16, Try.ntmps16
    go_wp2
    go_ret2
    exact ⟨rfl, rfl⟩

theorem allPrint_of (s : ByteArray) (h : ∀ j, ∀ h : j < s.size, printB (s[j]'h).toNat = true) : allPrint s = true := by
  unfold allPrint
  rw [List.all_eq_true]
  intro c hc
  obtain ⟨j, hj, rfl⟩ := List.getElem_of_mem hc
  exact h j (by simpa using hj)
theorem allPrint_not (s : ByteArray) (j : Nat) (h : j < s.size) (hp : printB (s[j]'h).toNat = false) : allPrint s = false := by
  unfold allPrint
  rw [List.all_eq_false]
  exact ⟨s[j], (by rw [show s[j] = s.data.toList[j]'(by simpa using h) from rfl]; exact List.getElem_mem _), by simpa using hp⟩

set_option maxHeartbeats 1000000 in
theorem refWordPrintable_any (s : ByteArray) (hs : s.size ≤ 1099511627776) (w : World) :
    Calls Try.prog 14 #[.string s] w fun e w' => e = .returned (.bool (wordPrint s)) ∧ w = w' := by
  go_enter Try.func14, Try.ntmps14
  go_wp2
  go_loop [3] (fun i => ∃ k : Nat, k ≤ s.size ∧ i = .int .i64 k ∧ Hid (∀ j, j < k → ∀ h : j < s.size, printB (s[j]'h).toNat = true)) (fun i => s.size - (intOf i).toNat)
  case atStart => exact ⟨0, by omega, rfl, hide (fun j hj => by omega)⟩
  case round =>
    obtain ⟨k, hk, rfl, hall⟩ := hrel
    by_cases hlt : k < s.size
    · cases hp : printB (s[k].toNat : Int) with
      | true =>
        have hall' : ∀ j, j < k + 1 → ∀ h : j < s.size, printB (s[j]'h).toNat = true := by
          intro j hj h
          rcases Nat.lt_or_ge j k with hjk | hjk
          · exact hall.out j hjk h
          · obtain rfl : j = k := by omega
            exact hp
        have Hall := hide hall'
        clear hall' hall
        go_wp2_with (go_at_call 27; refine (refPrintable_any _ _).mono ?_; rintro e w' ⟨rfl, rfl⟩)
        go_round
        case rel => exact ⟨k + 1, by omega, by go_num, Hall⟩
        case measure => simp [intOf]; omega
      | false =>
        have hw : wordPrint s = false := by simp [wordPrint, allPrint_not s k hlt hp]
        have Hw := hide hw
        clear hall hw
        go_wp2_with (go_at_call 27; refine (refPrintable_any _ _).mono ?_; rintro e w' ⟨rfl, rfl⟩)
        go_ret
        exact ⟨by rw [Hw.out]; rfl, rfl⟩
    · obtain rfl : k = s.size := by omega
      have hw : wordPrint s = !s.toList.isEmpty := by rw [Lib.toList_data]; simp [wordPrint, allPrint_of s (fun j h => hall.out j h h)]
      have Hw := hide hw
      clear hall hw
      go_wp2
      go_ret
      exact ⟨by rw [Hw.out]; rfl, rfl⟩
end Go.Proofs.Ytbhmgooohhgpaaa
