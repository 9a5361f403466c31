/- Contracts of bytes.TrimLeft and TrimRight at the digit 0, and of decimal's trim and first. -/
import Derived.Test.YtpjikbfeegncbaaGreatDoorVaC
set_option linter.unusedVariables false
set_option linter.unusedSimpArgs false
namespace Go.Proofs.YtpjikbfeegncbaaGreatDoor
open Go.RowKit Go.Shelf Go.Sort

def by8 (c : UInt8) : Value := .int .u8 (c.toNat : Int)
def dropR (l : List UInt8) : List UInt8 := (l.reverse.dropWhile (· == 48)).reverse
theorem Sl_drop {W : World} {b off : Nat} {l : List UInt8} (h : ∀ i (hi : i < l.length), W.cell? ⟨b, off + i, none⟩ = some (by8 (l[i]'hi))) (k : Nat) : Sl by8 W (some ⟨b, off + k, none⟩) (l.drop k) := fun hp =>
  ⟨b, off + k, rfl, fun i hi => by
    have hk : k + i < l.length := by rw [List.length_drop] at hi; omega
    rw [Nat.add_assoc, h (k + i) hk, List.getElem_drop]⟩
set_option maxRecDepth 20000 in
set_option maxHeartbeats 4000000 in
theorem trimLeftByte_any (A : Option Addr) (n cap : Nat) (l : List UInt8) (w : World) (hn : n = l.length) (hp : 0 < l.length) (hc : n ≤ cap) (hz : cap ≤ maxLen) (hs : Sl by8 w A l) :
    Calls Tryz.prog 143 #[.slice A n cap, .int .u8 48] w fun e w' => (∃ A' cap', e = .returned (.slice A' (l.dropWhile (· == 48)).length cap') ∧ (∀ W' : World, Sl by8 W' A l → Sl by8 W' A' (l.dropWhile (· == 48))) ∧ (l.dropWhile (· == 48)).length ≤ cap' ∧ cap' ≤ maxLen) ∧ w' = w := by
  subst hn
  obtain ⟨b, off, rfl, hat⟩ := hs hp
  unfold maxLen at hz ⊢
  have Hat := hide hat
  obtain ⟨R, hR⟩ : ∃ R, l.dropWhile (· == 48) = R := ⟨_, rfl⟩
  have HR := hide hR
  rw [hR]
  clear hat hR hs
  go_enter Tryz.func143, Tryz.ntmps143
  go_wp2
  go_loop [0] (fun v => ∃ (k : Nat) (A' : Option Addr), v = .slice A' (l.length - k) (cap - k) ∧ k ≤ l.length ∧ (l.drop k).dropWhile (· == 48) = R ∧ (k < l.length → A' = some ⟨b, off + k, none⟩)) (fun v => match v with | .slice _ m _ => m | _ => 0)
  case atStart => exact ⟨0, some ⟨b, off, none⟩, rfl, Nat.zero_le _, HR.out, fun _ => rfl⟩
  case round =>
    obtain ⟨k, A', rfl, hk, hrest, hA⟩ := hrel
    have HRest := hide hrest
    clear hrest
    by_cases hlt : k < l.length
    · obtain rfl := hA hlt
      have hcell := Hat.out k hlt
      have hdr : l.drop k = l[k] :: l.drop (k + 1) := List.drop_eq_getElem_cons hlt
      obtain ⟨c, hc0⟩ : ∃ c, l[k]'hlt = c := ⟨_, rfl⟩
      rw [hc0] at hcell hdr
      have hpos : (0 : Int) < ((l.length - k : Nat) : Int) := by omega
      have hpos' : 0 < l.length - k := by omega
      unfold by8 at hcell
      have h1c : (1 : Int) ≤ ((l.length - k : Nat) : Int) := by omega
      have h2c : ((l.length - k : Nat) : Int) ≤ ((cap - k : Nat) : Int) := by omega
      by_cases h48 : c = 48
      · have e48 : ((c.toNat : Int) == 48) = true := by rw [h48]; rfl
        have hr2 : (l.drop (k + 1)).dropWhile (· == 48) = R := by
          have := HRest.out
          rw [hdr, List.dropWhile_cons, h48] at this
          simpa using this
        have Hr2 := hide hr2
        clear hr2 hdr hc0 h48 hA
        go_wp2
        go_round
        case rel => exact ⟨k + 1, if cap - k = 1 then some ⟨b, off + k, none⟩ else some ⟨b, off + k + 1, none⟩, by rw [← Nat.sub_sub, ← Nat.sub_sub], by omega, Hr2.out, fun h => if_neg (by omega)⟩
        case measure => show l.length - k - 1 < l.length - k; omega
      · have e48 : ((c.toNat : Int) == 48) = false := beq_eq_false_iff_ne.2 (fun e => h48 ((u8i c 48).1 e))
        have hr2 : l.drop k = R := by
          have := HRest.out
          have h48' : (c == 48) = false := by simpa using h48
          rw [hdr, List.dropWhile_cons, h48'] at this
          rw [hdr]; simpa using this
        have hrl : R.length = l.length - k := by rw [← hr2, List.length_drop]
        have hsl : ∀ W' : World, Sl by8 W' (some ⟨b, off, none⟩) l → Sl by8 W' (some ⟨b, off + k, none⟩) R := fun W' h => by
          obtain ⟨b', off', hA', hat'⟩ := h hp
          cases hA'
          have := Sl_drop hat' k
          rw [hr2] at this
          exact this
        have Hsl := hide hsl
        have Hrl := hide hrl
        have hne0 : ((l.length - k : Nat) : Int) ≠ 0 := by omega
        have hne1 : l.length - k ≠ 0 := by omega
        clear hr2 hdr hc0 h48 hA hsl hrl
        go_wp2
        go_ret
        exact ⟨⟨some ⟨b, off + k, none⟩, cap - k, congrArg (fun m => Ending.returned (Value.slice (some ⟨b, off + k, none⟩) m (cap - k))) Hrl.out.symm, Hsl.out, by rw [Hrl.out]; omega, by omega⟩, rfl⟩
    · obtain rfl : k = l.length := by omega
      have hr0 : R = [] := by
        have := HRest.out
        rw [List.drop_length] at this
        exact this.symm
      subst hr0
      have hl0 : l.length - l.length = 0 := Nat.sub_self _
      rw [hl0]
      clear hA
      go_wp2
      go_ret
      exact ⟨⟨none, 0, rfl, fun W' _ => Sl.nil _ _ _, by omega⟩, rfl⟩
set_option maxRecDepth 20000 in
set_option maxHeartbeats 4000000 in
theorem TrimLeft_any (A : Option Addr) (n cap : Nat) (l : List UInt8) (w : World) (hn : n = l.length) (hc : n ≤ cap) (hz : cap ≤ maxLen) (hs : Sl by8 w A l) :
    Calls Tryz.prog 139 #[.slice A n cap, .string ⟨#[48]⟩] w fun e w' => (∃ A' cap', e = .returned (.slice A' (l.dropWhile (· == 48)).length cap') ∧ (∀ W' : World, Sl by8 W' A l → Sl by8 W' A' (l.dropWhile (· == 48))) ∧ (l.dropWhile (· == 48)).length ≤ cap' ∧ cap' ≤ maxLen) ∧ w' = w := by
  subst hn
  by_cases hp : 0 < l.length
  · have T := hide (fun (W : World) (h : Sl by8 W A l) => trimLeftByte_any A l.length cap l W rfl hp hc hz h)
    have Hs := hide hs
    have hn0 : ((l.length : Nat) : Int) ≠ 0 := by omega
    have hn1 : l.length ≠ 0 := by omega
    clear hs
    go_enter Tryz.func139, Tryz.ntmps139
    go_wp2_with fail
    refine (T.out _ Hs.out).mono ?_
    rintro e wx ⟨⟨A', cap', rfl, h1, h2, h3⟩, rfl⟩
    have H1 := hide h1
    clear h1
    go_wp2
    go_ret
    exact ⟨⟨A', cap', rfl, H1.out, h2, h3⟩, rfl⟩
  · obtain rfl : l = [] := List.eq_nil_of_length_eq_zero (by omega)
    go_enter Tryz.func139, Tryz.ntmps139
    go_wp2
    go_ret
    exact ⟨⟨none, 0, rfl, fun W' _ => Sl.nil _ _ _, Nat.le_refl _, by unfold maxLen; omega⟩, rfl⟩
theorem dropR_snoc (l : List UInt8) (k : Nat) (hk : k < l.length) : dropR (l.take (k + 1)) = if l[k] = 48 then dropR (l.take k) else l.take (k + 1) := by
  have e : l.take (k + 1) = l.take k ++ [l[k]] := List.take_succ_eq_append_getElem hk
  unfold dropR
  rw [e, List.reverse_append]
  show (List.dropWhile _ (l[k] :: (l.take k).reverse)).reverse = _
  rw [List.dropWhile_cons]
  by_cases h : l[k] = 48
  · rw [if_pos h]; simp [h]
  · have : (l[k] == 48) = false := by simpa using h
    rw [if_neg h, this]; simp
set_option maxRecDepth 20000 in
set_option maxHeartbeats 4000000 in
theorem trimRightByte_any (A : Option Addr) (n cap : Nat) (l : List UInt8) (w : World) (hn : n = l.length) (hp : 0 < l.length) (hc : n ≤ cap) (hz : cap ≤ maxLen) (hs : Sl by8 w A l) :
    Calls Tryz.prog 147 #[.slice A n cap, .int .u8 48] w fun e w' => (∃ A' cap', e = .returned (.slice A' (dropR l).length cap')) ∧ w' = w := by
  subst hn
  obtain ⟨b, off, rfl, hat⟩ := hs hp
  unfold maxLen at hz
  have Hat := hide hat
  obtain ⟨R, hR⟩ : ∃ R, dropR l = R := ⟨_, rfl⟩
  have HR := hide hR
  rw [hR]
  clear hat hR hs
  go_enter Tryz.func147, Tryz.ntmps147
  go_wp2
  go_loop [0] (fun v => ∃ k : Nat, v = .slice (some ⟨b, off, none⟩) k cap ∧ k ≤ l.length ∧ dropR (l.take k) = R) (fun v => match v with | .slice _ m _ => m | _ => 0)
  case atStart => exact ⟨l.length, rfl, Nat.le_refl _, by rw [List.take_length]; exact HR.out⟩
  case round =>
    obtain ⟨k, rfl, hk, hrest⟩ := hrel
    have HRest := hide hrest
    clear hrest
    by_cases hlt : 0 < k
    · obtain ⟨j, rfl⟩ : ∃ j, k = j + 1 := ⟨k - 1, by omega⟩
      have hjl : j < l.length := by omega
      have hcell := Hat.out j hjl
      have hst := dropR_snoc l j hjl
      rw [HRest.out] at hst
      obtain ⟨c, hc0⟩ : ∃ c, l[j]'hjl = c := ⟨_, rfl⟩
      rw [hc0] at hcell hst
      unfold by8 at hcell
      have hjc : ((j : Nat) : Int) ≤ (cap : Int) := by omega
      have hjm : (j : Int) ≤ 9223372036854775806 := by omega
      by_cases h48 : c = 48
      · have e48 : ((c.toNat : Int) == 48) = true := by rw [h48]; rfl
        rw [if_pos h48] at hst
        have Hst := hide hst
        clear hst hc0 h48
        go_wp2
        go_round
        case rel => exact ⟨j, by first | rfl | simp, by omega, Hst.out.symm⟩
        case measure => first | (show j < j + 1; omega) | (simp; omega)
      · have e48 : ((c.toNat : Int) == 48) = false := beq_eq_false_iff_ne.2 (fun e => h48 ((u8i c 48).1 e))
        rw [if_neg h48] at hst
        have hrl : R.length = j + 1 := by rw [hst, List.length_take]; omega
        have Hrl := hide hrl
        clear hst hc0 h48 hrl
        go_wp2
        go_ret
        exact ⟨⟨some ⟨b, off, none⟩, cap, congrArg (fun m => Ending.returned (Value.slice (some ⟨b, off, none⟩) m cap)) Hrl.out.symm⟩, rfl⟩
    · obtain rfl : k = 0 := by omega
      have hr0 : R = [] := by
        have := HRest.out
        exact this.symm
      subst hr0
      go_wp2
      go_ret
      exact ⟨⟨_, _, rfl⟩, rfl⟩
set_option maxRecDepth 20000 in
set_option maxHeartbeats 4000000 in
theorem TrimRight_any (A : Option Addr) (n cap : Nat) (l : List UInt8) (w : World) (hn : n = l.length) (hc : n ≤ cap) (hz : cap ≤ maxLen) (hs : Sl by8 w A l) :
    Calls Tryz.prog 140 #[.slice A n cap, .string ⟨#[48]⟩] w fun e w' => (∃ A' cap', e = .returned (.slice A' (dropR l).length cap')) ∧ w' = w := by
  subst hn
  by_cases hp : 0 < l.length
  · have T := hide (fun (W : World) (h : Sl by8 W A l) => trimRightByte_any A l.length cap l W rfl hp hc hz h)
    have Hs := hide hs
    have hn0 : ((l.length : Nat) : Int) ≠ 0 := by omega
    have hn1 : l.length ≠ 0 := by omega
    clear hs
    go_enter Tryz.func140, Tryz.ntmps140
    go_wp2_with fail
    refine (T.out _ Hs.out).mono ?_
    rintro e wx ⟨⟨A', cap', rfl⟩, rfl⟩
    go_wp2
    go_ret
    exact ⟨⟨A', cap', rfl⟩, rfl⟩
  · obtain rfl : l = [] := List.eq_nil_of_length_eq_zero (by omega)
    go_enter Tryz.func140, Tryz.ntmps140
    go_wp2
    go_ret
    exact ⟨⟨_, _, rfl⟩, rfl⟩
end Go.Proofs.YtpjikbfeegncbaaGreatDoor
