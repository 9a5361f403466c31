/- Contracts of the reference's digit, value and Quote, and of quote.first. -/
import Derived.Test.YtpjikbfeegncbaaGreatDoorQuB
import Derived.Lib.QuietBelow
set_option linter.unusedVariables false
namespace Go.Proofs.YtpjikbfeegncbaaGreatDoor
open Go.RowKit Go.Shelf

theorem digits_cut (n : Nat) (h : n < 16) : (⟨#[48, 49, 50, 51, 52, 53, 54, 55, 56, 57, 97, 98, 99, 100, 101, 102]⟩ : ByteArray).extract n (n + 1) = ⟨#[hexD n]⟩ := by
  have : n = 0 ∨ n = 1 ∨ n = 2 ∨ n = 3 ∨ n = 4 ∨ n = 5 ∨ n = 6 ∨ n = 7 ∨ n = 8 ∨ n = 9 ∨ n = 10 ∨ n = 11 ∨ n = 12 ∨ n = 13 ∨ n = 14 ∨ n = 15 := by omega
  rcases this with rfl | rfl | rfl | rfl | rfl | rfl | rfl | rfl | rfl | rfl | rfl | rfl | rfl | rfl | rfl | rfl <;> decide +kernel

theorem refDigit_any (n : Nat) (h : n < 16) (w : World) :
    Calls Tryz.prog 66 #[.int .i64 n] w fun e w' => e = .returned (.string ⟨#[hexD n]⟩) ∧ w' = w := by
  have hcut := digits_cut n h
  have h1 : (0 : Int) ≤ (n : Int) := by omega
  have h2 : (n : Int) ≤ (n : Int) + 1 := by omega
  have h3 : (n : Int) + 1 ≤ 16 := by omega
  go_enter Tryz.func66, Tryz.ntmps66
  go_wp2
  go_ret
  exact ⟨rfl, rfl⟩

theorem refDigit_i (i : Int) (n : Nat) (hi : i = (n : Int)) (h : n < 16) (w : World) :
    Calls Tryz.prog 66 #[.int .i64 i] w fun e w' => e = .returned (.string ⟨#[hexD n]⟩) ∧ w' = w := hi ▸ refDigit_any n h w

def hexI (c : UInt8) : Int := match hexV c with
  | some v => v
  | none => -1
theorem hexI_lo (c : UInt8) (h1 : 48 ≤ c.toNat) (h2 : c.toNat ≤ 57) : hexI c = (c.toNat : Int) - 48 := by unfold hexI hexV; rw [if_pos ⟨h1, h2⟩]; simp only; omega
theorem hexI_hi (c : UInt8) (h1 : 97 ≤ c.toNat) (h2 : c.toNat ≤ 102) : hexI c = (c.toNat : Int) - 87 := by unfold hexI hexV; rw [if_neg (by omega), if_pos ⟨h1, h2⟩]; simp only; omega
theorem hexI_no (c : UInt8) (h1 : ¬ (48 ≤ c.toNat ∧ c.toNat ≤ 57)) (h2 : ¬ (97 ≤ c.toNat ∧ c.toNat ≤ 102)) : hexI c = -1 := by unfold hexI hexV; rw [if_neg h1, if_neg h2]
theorem ret_i {a b : Int} (h : a = b) : Ending.returned (.int .i64 a) = .returned (.int .i64 b) := by rw [h]

theorem refValue_any (c : UInt8) (w : World) :
    Calls Tryz.prog 65 #[.int .u8 c.toNat] w fun e w' => e = .returned (.int .i64 (hexI c)) ∧ w' = w := by
  have hlt := c.toNat_lt
  by_cases h1 : 48 ≤ c.toNat ∧ c.toNat ≤ 57
  · have hh := hexI_lo c h1.1 h1.2
    have q1 : (48 : Int) ≤ (c.toNat : Int) := by omega
    have q2 : (c.toNat : Int) ≤ 57 := by omega
    have HH := hide hh
    clear hh h1
    go_enter Tryz.func65, Tryz.ntmps65
    go_wp2
    go_ret
    exact ⟨ret_i (by rw [HH.out]), rfl⟩
  by_cases h2 : 97 ≤ c.toNat ∧ c.toNat ≤ 102
  · have hh := hexI_hi c h2.1 h2.2
    have q1 : (97 : Int) ≤ (c.toNat : Int) := by omega
    have q2 : (c.toNat : Int) ≤ 102 := by omega
    have q3 : ¬ (c.toNat : Int) ≤ 57 := by omega
    have HH := hide hh
    clear hh h1 h2
    go_enter Tryz.func65, Tryz.ntmps65
    go_wp2
    go_ret
    exact ⟨ret_i (by rw [HH.out]; omega), rfl⟩
  · have HH := hide (hexI_no c h1 h2)
    have h3 : (c.toNat : Int) < 48 ∨ (57 < (c.toNat : Int) ∧ (c.toNat : Int) < 97) ∨ 102 < (c.toNat : Int) := by omega
    clear h1 h2
    rcases h3 with h3 | ⟨h3, h4⟩ | h3
    · go_enter Tryz.func65, Tryz.ntmps65
      go_wp2
      go_ret
      exact ⟨ret_i (by rw [HH.out]), rfl⟩
    · go_enter Tryz.func65, Tryz.ntmps65
      go_wp2
      go_ret
      exact ⟨ret_i (by rw [HH.out]), rfl⟩
    · go_enter Tryz.func65, Tryz.ntmps65
      go_wp2
      go_ret
      exact ⟨ret_i (by rw [HH.out]), rfl⟩

theorem take_snoc (s : ByteArray) (k : Nat) (hlt : k < s.size) : s.data.toList.take (k + 1) = s.data.toList.take k ++ [s[k]'hlt] := by
  have h := Lib.data_getElem? s k hlt
  have h2 : k < s.data.toList.length := by rw [← Lib.size_eq]; exact hlt
  rw [List.take_succ_eq_append_getElem h2]
  rw [List.getElem?_eq_getElem h2] at h
  rw [Option.some.inj h]
theorem take_all (s : ByteArray) : s.data.toList.take s.size = s.data.toList := by rw [Lib.size_eq]; exact List.take_length
theorem extract_one (s : ByteArray) (k : Nat) (h : k < s.size) : s.extract k (k + 1) = ⟨#[s[k]'h]⟩ := by
  apply ByteArray.ext
  apply Array.toList_inj.1
  rw [Lib.extract_data]
  have h2 : k < s.data.toList.length := by rw [← Lib.size_eq]; exact h
  have h3 := Lib.data_getElem? s k h
  rw [List.getElem?_eq_getElem h2] at h3
  rw [List.drop_eq_getElem_cons h2, show k + 1 - k = 1 by omega, Option.some.inj h3]
  rfl
theorem run_cat {P : Program} (a b : List UInt8) (h : a.length + b.length ≤ 70368744177664) (w : World) : (Op.stringOp .add ⟨a.toArray⟩ ⟨b.toArray⟩).run P w = .ok (.string ⟨(a ++ b).toArray⟩) w := by
  rw [run_string_add_sum w _ _ (by show a.toArray.size + b.toArray.size ≤ _; simp only [List.size_toArray]; omega)]
  congr 2

set_option maxRecDepth 100000 in
set_option maxHeartbeats 4000000 in
theorem refQuote_any (s : ByteArray) (w : World) (hs : s.size ≤ 1099511627776) :
    Calls Tryz.prog 38 #[.string s] w fun e w' => e = .returned (.string ⟨(quoteL s.data.toList).toArray⟩) ∧ Below w.heap.size w w' := by
  go_enter Tryz.func38, Tryz.ntmps38
  go_wp2
  go_loopw [3, 4] (fun o i wr => ∃ k : Nat, i = .int .i64 k ∧ k ≤ s.size ∧ o = .string ⟨(quoteL (s.data.toList.take k)).toArray⟩ ∧ Below w.heap.size w wr) (fun _ i _ => s.size - (intOf i).toNat)
  case atStart => exact ⟨0, rfl, Nat.zero_le _, rfl, Below.refl _ _⟩
  case round =>
    obtain ⟨k, rfl, hk, rfl, hbr⟩ := hrel
    have Hbr := hide hbr
    clear hbr
    by_cases hlt : k < s.size
    · have hq : quoteL (s.data.toList.take (k + 1)) = quoteL (s.data.toList.take k) ++ quoteB (s[k]'hlt) := by rw [take_snoc s k hlt, quoteL_snoc]
      have hl4 := quoteL_len (s.data.toList.take k)
      rw [List.length_take] at hl4
      have hl5 : (quoteL (s.data.toList.take k)).length ≤ 4 * 1099511627776 := by omega
      have hx1 := extract_one s k hlt
      obtain ⟨c, hcc⟩ : ∃ c, s[k]'hlt = c := ⟨_, rfl⟩
      rw [hcc] at hq hx1
      have Hq := hide hq
      clear hq hl4
      generalize quoteL (s.data.toList.take k) = Q at Hq hl5 ⊢
      by_cases hc : c = 92
      · subst hc
        have hcat := fun W => run_cat (P := Tryz.prog) Q [92, 92] (by show Q.length + 2 ≤ _; omega) W
        go_wp2
        go_roundw
        case rel => exact ⟨k + 1, by go_num, by omega, by rw [Hq.out]; rfl, Hbr.out⟩
        case measure => simp [intOf]; omega
      have hc1 : ((c.toNat : Int) == 92) = false := beq_eq_false_iff_ne.2 (fun e => hc (UInt8.toNat_inj.1 (by have : ((92 : UInt8).toNat : Int) = 92 := rfl; omega)))
      cases hp : prB c with
      | true =>
        have Hb := hide (show quoteB c = [c] by unfold quoteB; rw [if_neg hc, if_pos hp])
        have Hp := hide hp
        clear hp hc
        have hcat := fun W => run_cat (P := Tryz.prog) Q [c] (by show Q.length + 1 ≤ _; omega) W
        go_wp2_with fail
        refine (refPrintable_u8 _ _).mono ?_
        rintro e w1 ⟨rfl, rfl⟩
        rw [Hp.out]
        go_wp2
        go_roundw
        case rel => exact ⟨k + 1, by go_num, by omega, by rw [Hq.out, Hb.out], Hbr.out⟩
        case measure => simp [intOf]; omega
      | false =>
        have Hb := hide (show quoteB c = [92, 120, hexD (c.toNat / 16), hexD (c.toNat % 16)] by unfold quoteB; rw [if_neg hc, if_neg (by rw [hp]; decide)])
        have Hp := hide hp
        clear hp hc
        have hlt8 := c.toNat_lt
        go_wp2_with fail
        refine (refPrintable_u8 _ _).mono ?_
        rintro e w1 ⟨rfl, rfl⟩
        rw [Hp.out]
        have hcat1 := fun W => run_cat (P := Tryz.prog) Q [92, 120] (by show Q.length + 2 ≤ _; omega) W
        have hcat2 := fun W => run_cat (P := Tryz.prog) (Q ++ [92, 120]) [hexD (c.toNat / 16)] (by simp; omega) W
        have hcat3 := fun W => run_cat (P := Tryz.prog) (Q ++ [92, 120, hexD (c.toNat / 16)]) [hexD (c.toNat % 16)] (by simp; omega) W
        have D1 := hide (fun W => refDigit_i ((c.toNat : Int) / 16) (c.toNat / 16) (by omega) (by omega) W)
        have D2 := hide (fun W => refDigit_i ((c.toNat : Int) % 16) (c.toNat % 16) (by omega) (by omega) W)
        go_wp2_with fail
        go_quiet ((first | exact Calls.quiet_of_same (D1.out _) | exact Calls.quiet_of_same (D2.out _)))
        go_wp2
        go_roundw
        case rel => exact ⟨k + 1, by go_num, by omega, by rw [Hq.out, Hb.out], Below_drewN Hbr.out _⟩
        case measure => simp [intOf]; omega
    · obtain rfl : k = s.size := Nat.le_antisymm hk (Nat.le_of_not_lt hlt)
      rw [take_all s]
      go_wp2
      go_ret
      exact ⟨rfl, Hbr.out⟩
end Go.Proofs.YtpjikbfeegncbaaGreatDoor
