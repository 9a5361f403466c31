/- Slices of words in memory; Section of the lexer and of the reference. -/
import Derived.Test.YtbhmgooohhgpaaaDoorLexH
import Derived.Handy
namespace Go.Proofs.YtbhmgooohhgpaaaDoor
open Go.RowKit Go.Shelf

/-- a word: text, offset, line, column -/
abbrev Wd := ByteArray × Int × Int × Int
/-- The address A begins a row of the words ws. -/
def WSl (W : World) (A : Option Addr) (ws : List Wd) : Prop :=
  0 < ws.length → ∃ b off, A = some ⟨b, off, none⟩ ∧ ∀ i (h : i < ws.length), W.cell? ⟨b, off + i * 4, none⟩ = some (.string (ws[i]'h).1) ∧
    W.cell? ⟨b, off + i * 4 + 1, none⟩ = some (.int .i64 (ws[i]'h).2.1) ∧ W.cell? ⟨b, off + i * 4 + 2, none⟩ = some (.int .i64 (ws[i]'h).2.2.1) ∧ W.cell? ⟨b, off + i * 4 + 3, none⟩ = some (.int .i64 (ws[i]'h).2.2.2)

/-- is it the word that ends a section? -/
def isEnd (t : ByteArray) : Bool := t.toList == [36, 101, 110, 100]
/-- the section's end, looked for from k on; f words are left -/
def secFrom (ws : List Wd) : Nat → Nat → Int × Bool
  | 0, _ => (ws.length, false)
  | f + 1, k => if isEnd (ws.getD k (⟨#[]⟩, 0, 0, 0)).1 then ((k : Int) + 1, true) else secFrom ws f (k + 1)
def secS (ws : List Wd) (i : Int) : Int × Bool := if 0 ≤ i ∧ i < ws.length then secFrom ws (ws.length - (i.toNat + 1)) (i.toNat + 1) else (ws.length, false)
theorem secFrom_hit (ws : List Wd) (k : Nat) (h : k < ws.length) (he : (ws[k].1.toList == [36, 101, 110, 100]) = true) : secFrom ws (ws.length - k) k = ((k : Int) + 1, true) := by
  obtain ⟨f, hf⟩ : ∃ f, ws.length - k = f + 1 := ⟨ws.length - k - 1, by omega⟩
  rw [hf, secFrom, if_pos (by simpa [isEnd, List.getD, h] using he)]
theorem secFrom_miss (ws : List Wd) (k : Nat) (h : k < ws.length) (he : (ws[k].1.toList == [36, 101, 110, 100]) = false) : secFrom ws (ws.length - k) k = secFrom ws (ws.length - (k + 1)) (k + 1) := by
  obtain ⟨f, hf⟩ : ∃ f, ws.length - k = f + 1 := ⟨ws.length - k - 1, by omega⟩
  rw [hf, secFrom, if_neg (by simpa [isEnd, List.getD, h] using he), show ws.length - (k + 1) = f by omega]
theorem ret_pair {a : Int} {c : Bool} (p : Int × Bool) (h : p = (a, c)) : Ending.returned (.tuple #[.int .i64 a, .bool c]) = .returned (.tuple #[.int .i64 p.1, .bool p.2]) := by rw [h]

set_option maxHeartbeats 1000000 in
theorem Section_in (A : Option Addr) (cap : Nat) (ws : List Wd) (m : Nat) (w : World) (hw : WSl w A ws) (hn : ws.length ≤ 1099511627776) (h1 : m < ws.length) :
    Calls Tryd.prog 8 #[.slice A ws.length cap, .int .i64 m] w fun e w' => e = .returned (.tuple #[.int .i64 (secS ws m).1, .bool (secS ws m).2]) ∧ w = w' := by
  have hsec : secS ws m = secFrom ws (ws.length - (m + 1)) (m + 1) := by unfold secS; rw [if_pos ⟨by omega, by omega⟩]; rfl
  rw [hsec]
  clear hsec
  obtain ⟨b, off, rfl, hat⟩ := hw (by omega)
  have Hat := hide hat
  clear hat
  go_enter Tryd.func8, Tryd.ntmps8
  go_wp2
  go_loop [6] (fun i => ∃ k : Nat, m + 1 ≤ k ∧ k ≤ ws.length ∧ i = .int .i64 k ∧ Hid (secFrom ws (ws.length - (m + 1)) (m + 1) = secFrom ws (ws.length - k) k)) (fun i => ws.length - (intOf i).toNat)
  case atStart => exact ⟨m + 1, by omega, by omega, by go_num, hide rfl⟩
  case round =>
    obtain ⟨k, hk1, hk, rfl, hsec⟩ := hrel
    by_cases hlt : k < ws.length
    · have hc := (Hat.out k hlt).1
      cases he : (ws[k].1.toList == [36, 101, 110, 100]) with
      | true =>
        have hs := hsec.out.trans (secFrom_hit ws k hlt he)
        have Hs := hide hs
        clear hs hsec
        go_wp2
        go_ret2
        exact ⟨ret_pair _ Hs.out, rfl⟩
      | false =>
        have Hs := hide (hsec.out.trans (secFrom_miss ws k hlt he))
        clear hsec
        go_wp2
        go_round
        case rel => exact ⟨k + 1, by omega, by omega, by go_num, Hs⟩
        case measure => simp [intOf]; omega
    · obtain rfl : k = ws.length := by omega
      have hs : secFrom ws (ws.length - (m + 1)) (m + 1) = ((ws.length : Int), false) := by rw [hsec.out, Nat.sub_self]; rfl
      have Hs := hide hs
      clear hs hsec
      go_wp2
      go_ret2
      exact ⟨ret_pair _ Hs.out, rfl⟩

theorem secS_out (ws : List Wd) (i : Int) (h : i < 0 ∨ (ws.length : Int) ≤ i) : secS ws i = ((ws.length : Int), false) := by
  unfold secS; rw [if_neg (by omega)]

theorem wrap_top : wrap64 9223372036854775808 ≤ 0 := by unfold wrap64; decide
theorem Section_out (A : Option Addr) (cap : Nat) (ws : List Wd) (i : Int) (w : World) (hi0 : -9223372036854775808 ≤ i) (hi1 : i ≤ 9223372036854775807) (h : i < 0 ∨ (ws.length : Int) ≤ i) :
    Calls Tryd.prog 8 #[.slice A ws.length cap, .int .i64 i] w fun e w' => e = .returned (.tuple #[.int .i64 (ws.length : Int), .bool false]) ∧ w = w' := by
  by_cases h0 : i < 0
  · clear h
    go_enter Tryd.func8, Tryd.ntmps8
    go_wp2
    go_rounds 1
    go_ret2
    exact ⟨rfl, rfl⟩
  · have h1 : (ws.length : Int) ≤ i := by omega
    clear h
    by_cases h2 : i = 9223372036854775807
    · subst h2
      have hq := wrap_top
      go_enter Tryd.func8, Tryd.ntmps8
      go_wp2
      go_rounds 1
      go_ret2
      exact ⟨rfl, rfl⟩
    · have h3 : i ≤ 9223372036854775806 := by omega
      clear h2 hi1
      have h4 : ¬ (i + 1 < (ws.length : Int)) := by omega
      have h5 : 0 < i + 1 := by omega
      go_enter Tryd.func8, Tryd.ntmps8
      go_wp2
      go_rounds 1
      go_ret2
      exact ⟨rfl, rfl⟩

theorem Section_any (A : Option Addr) (n cap : Nat) (ws : List Wd) (i : Int) (w : World) (hw : WSl w A ws) (hn : n = ws.length) (hb : ws.length ≤ 1099511627776) (hi0 : -9223372036854775808 ≤ i) (hi1 : i ≤ 9223372036854775807) :
    Calls Tryd.prog 8 #[.slice A n cap, .int .i64 i] w fun e w' => e = .returned (.tuple #[.int .i64 (secS ws i).1, .bool (secS ws i).2]) ∧ w = w' := by
  subst hn
  by_cases h : i < 0 ∨ (ws.length : Int) ≤ i
  · rw [secS_out ws i h]
    exact Section_out A cap ws i w hi0 hi1 h
  · obtain ⟨m, rfl⟩ := Int.eq_ofNat_of_zero_le (show 0 ≤ i by omega)
    exact Section_in A cap ws m w hw hb (by omega)
/-- the line and the column of a byte -/
def posS (s : ByteArray) (o : Int) : Int × Int := if 0 ≤ o ∧ o ≤ s.size then (pl s.data.toList o.toNat).2 else (0, 0)
theorem Position_any (s : ByteArray) (hs : s.size ≤ 1099511627776) (o : Int) (w : World) :
    Calls Tryd.prog 9 #[.string s, .int .i64 o] w fun e w' => e = .returned (.tuple #[.int .i64 (posS s o).1, .int .i64 (posS s o).2]) ∧ Below w.heap.size w w' := by
  unfold posS
  by_cases h : 0 ≤ o ∧ o ≤ s.size
  · obtain ⟨m, rfl⟩ := Int.eq_ofNat_of_zero_le h.1
    rw [if_pos h]
    exact Position_in s hs m (by omega) w
  · rw [if_neg h]
    exact Position_out s o (by omega) w
end Go.Proofs.YtbhmgooohhgpaaaDoor
