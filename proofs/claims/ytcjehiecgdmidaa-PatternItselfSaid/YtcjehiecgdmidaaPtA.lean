/- Contract of a wild part's matches. -/
import Derived.Test.YtcjehiecgdmidaaPtP
import Derived.Test.YtcjehiecgdmidaaSl
import Derived.Test.YtcjehiecgdmidaaProg
import Derived.Deep.QuietTactic
import Derived.Lib.IndexBytes
import Derived.BigQuiet
set_option linter.unusedVariables false
set_option linter.unusedSimpArgs false
namespace Go.Proofs.Ytcjehiecgdmidaa
open Go.RowKit Go.Shelf

theorem ret_b {a b : Bool} (h : a = b) : Ending.returned (.bool b) = .returned (.bool a) := by rw [h]
/-- the cells of items, as matches reads them -/
def Items (W : World) (b o : Nat) (w : List It) : Prop := ∀ i, ∀ h : i < w.length, W.cell? ⟨b, o + i * 259, none⟩ = some (.bool w[i].star) ∧ ∀ c : UInt8, W.cell? ⟨b, o + i * 259 + 1 + c.toNat, none⟩ = some (.bool (w[i].set c))
def starI : Option Nat → Int
  | none => -1
  | some st => st
def starN : Option Nat → Nat
  | none => 0
  | some st => st + 1
def measW (N M st frm i : Nat) : Nat := ((N - st) * (M + 1) + (M - frm)) * (N + 1) + (N - i)
theorem lex_lt {a a' n x x' : Nat} (h : a' < a) (hx : x' ≤ n) : a' * (n + 1) + x' < a * (n + 1) + x := by
  have := Nat.mul_le_mul_right (n + 1) (show a' + 1 ≤ a from h)
  rw [Nat.add_mul] at this
  omega

theorem starI_nat (st : Option Nat) : (starI st + 1).toNat = starN st := by
  cases st with
  | none => rfl
  | some n => show ((n : Int) + 1).toNat = n + 1; omega
theorem meas_star {N M st frm i k : Nat} (h : st ≤ i) (hi : i < N) : measW N M (i + 1) k (i + 1) < measW N M st frm i := by
  unfold measW
  exact lex_lt (lex_lt (by omega) (by omega)) (by omega)
theorem meas_byte {N M st frm i : Nat} (hi : i < N) : measW N M st frm (i + 1) < measW N M st frm i := by
  unfold measW; omega
theorem meas_again {N M st frm i : Nat} (h : frm < M) : measW N M st (frm + 1) st < measW N M st frm i := by
  unfold measW
  exact lex_lt (by omega) (by omega)

set_option maxRecDepth 20000 in
set_option maxHeartbeats 8000000 in
theorem wildMatches_any (W : World) (b o cap : Nat) (w : List It) (s : ByteArray) (hI : Items W b o w) (hw : w.length ≤ 1000) (hs : s.size ≤ 1000000) (hcap : w.length ≤ cap) :
    Calls Try.prog 70 #[.slice (some ⟨b, o, none⟩) w.length cap, .string s] W fun e w' => e = .returned (.bool (mW w s.data.toList)) ∧ ∃ n, w' = W.drewN n := by
  have HI := hide hI
  clear hI
  go_enter Try.func70, Try.ntmps70
  have hl : s.data.toList.length = s.size := (Lib.size_eq s).symm
  go_wp2
  go_step3
  go_wp2
  go_step3
  go_wp2
  go_loopw [5, 6, 7, 8] (fun v5 v6 v7 v8 wr => ∃ (i k frm : Nat) (st : Option Nat), v5 = .int .i64 (i : Int) ∧ v6 = .int .i64 (k : Int) ∧ v7 = .int .i64 (starI st) ∧ v8 = .int .i64 (frm : Int) ∧ Trail w s.data.toList i k st frm ∧ frm ≤ s.size ∧ ∃ n, wr = W.drewN n) (fun v5 _ v7 v8 _ => measW w.length s.size ((intOf v7 + 1).toNat) ((intOf v8).toNat) ((intOf v5).toNat))
  case atStart => exact ⟨0, 0, 0, none, rfl, rfl, rfl, rfl, Trail.start _ _, Nat.zero_le _, 0, rfl⟩
  case round =>
    obtain ⟨i, k, frm, st, rfl, rfl, rfl, rfl, T, hfrm, n, rfl⟩ := hrel
    have HT := hide T
    have hil := T.il
    have hkl := T.kl
    rw [hl] at hkl
    have hI' : Items (W.drewN n) b o w := fun i h => HI.out i h
    have HI2 := hide hI'
    clear T hI'
    by_cases hi : i < w.length
    · have hi' : (i : Int) < (w.length : Int) := by omega
      have hc0 := (HI2.out i hi).1
      cases hst : w[i].star with
      | true =>
        rw [hst] at hc0
        have HT2 := hide (HT.out.star hi hst)
        clear hst
        have hwr : IntKind.i64.wrap ((i : Int) + 1) = (i : Int) + 1 := IntWalk.i64_in _ (by omega)
        go_wp2
        go_roundw
        case rel => exact ⟨i + 1, k, k, some i, by go_num, rfl, rfl, rfl, HT2.out, hkl, _, rfl⟩
        case measure =>
          have hle : starN st ≤ i := by
            cases st with
            | none => exact Nat.zero_le _
            | some q => exact (HT.out.seg q rfl).1
          have := meas_star (N := w.length) (M := s.size) (frm := frm) (k := k) hle hi
          rw [← starI_nat] at this
          simpa [intOf] using this
      | false =>
        rw [hst] at hc0
        by_cases hk : k < s.size
        · have hk' : (k : Int) < (s.size : Int) := by omega
          have hkd : k < s.data.toList.length := by rw [hl]; exact hk
          have hget : s.data.toList[k]'hkd = s[k]'hk := by
            have h0 := Lib.data_getElem? s k hk
            rw [List.getElem?_eq_getElem hkd] at h0
            exact Option.some.inj h0
          obtain ⟨c, hc⟩ : ∃ c, s[k]'hk = c := ⟨_, rfl⟩
          have hcl : s.data.toList[k]'hkd = c := hget.trans hc
          have hc1 := (HI2.out i hi).2 c
          have hc256 : (c.toNat : Int) < 256 := by have := c.toNat_lt; omega
          cases hsb : w[i].set c with
          | true =>
            rw [hsb] at hc1
            have hc2 : W.cell? ⟨b, o + i * 259 + 1 + c.toNat, none⟩ = _ := hc1
            have HT2 := hide (HT.out.byte hi hst hkd (by rw [hcl]; exact hsb))
            clear hst hsb hget hcl
            have hw1 : IntKind.i64.wrap ((i : Int) + 1) = (i : Int) + 1 := IntWalk.i64_in _ (by omega)
            have hw2 : IntKind.i64.wrap ((k : Int) + 1) = (k : Int) + 1 := IntWalk.i64_in _ (by omega)
            go_wp2_with fail
            go_quiet (fail)
            go_wp2
            go_roundw
            case rel => exact ⟨i + 1, k + 1, frm, st, by go_num, by go_num, rfl, rfl, HT2.out, hfrm, _, rfl⟩
            case measure =>
              have := meas_byte (N := w.length) (M := s.size) (st := starN st) (frm := frm) hi
              rw [← starI_nat] at this
              simpa [intOf] using this
          | false =>
            rw [hsb] at hc1
            have hc2 : W.cell? ⟨b, o + i * 259 + 1 + c.toNat, none⟩ = _ := hc1
            have Hst := hide (Trail.stuck (w := w) (s := s.data.toList) (i := i) (k := k) (.inl hi) (fun _ => hst) (fun _ h2 => by rw [show s.data.toList[k]'h2 = c from hcl]; exact hsb))
            cases st with
            | none =>
              have Hno := hide (HT.out.no Hst.out (.inl rfl))
              have hneg : starI none = -1 := rfl
              rw [hneg]
              clear hst hsb hget hcl
              go_wp2_with fail
              go_quiet (fail)
              go_wp2
              rw [Exit.noGoto_ret]
              go_ret
              exact ⟨ret_b Hno.out, _, rfl⟩
            | some st0 =>
              have hpos : starI (some st0) = (st0 : Int) := rfl
              rw [hpos]
              have hn0 : ¬ (st0 : Int) < 0 := by omega
              by_cases hf : frm < s.size
              · have hf' : ¬ (s.size : Int) ≤ (frm : Int) := by omega
                have HT2 := hide (HT.out.again Hst.out (by rw [hl]; exact hf))
                have hw1 : IntKind.i64.wrap ((frm : Int) + 1) = (frm : Int) + 1 := IntWalk.i64_in _ (by omega)
                have hst0 : st0 < w.length := by have := HT2.out.il; omega
                have hw2 : IntKind.i64.wrap ((st0 : Int) + 1) = (st0 : Int) + 1 := IntWalk.i64_in _ (by omega)
                clear hst hsb hget hcl
                go_wp2_with fail
                go_quiet (fail)
                go_wp2
                go_roundw
                case rel => exact ⟨st0 + 1, frm + 1, frm + 1, some st0, by go_num, by go_num, rfl, by go_num, HT2.out, by omega, _, rfl⟩
                case measure =>
                  have := meas_again (N := w.length) (M := s.size) (st := st0 + 1) (frm := frm) (i := i) hf
                  simpa [intOf] using this
              · have hf' : (s.size : Int) ≤ (frm : Int) := by omega
                have Hno := hide (HT.out.no Hst.out (.inr (by rw [hl]; omega)))
                clear hst hsb hget hcl
                go_wp2_with fail
                go_quiet (fail)
                go_wp2
                rw [Exit.noGoto_ret]
                go_ret
                exact ⟨ret_b Hno.out, _, rfl⟩
        · have hk' : ¬ (k : Int) < (s.size : Int) := by omega
          have Hst := hide (Trail.stuck (w := w) (s := s.data.toList) (i := i) (k := k) (.inl hi) (fun _ => hst) (fun _ h2 => absurd (by rw [hl] at h2; exact h2) hk))
          cases st with
          | none =>
            have Hno := hide (HT.out.no Hst.out (.inl rfl))
            have hneg : starI none = -1 := rfl
            rw [hneg]
            clear hst
            go_wp2_with fail
            go_quiet (fail)
            go_wp2
            rw [Exit.noGoto_ret]
            go_ret
            exact ⟨ret_b Hno.out, _, rfl⟩
          | some st0 =>
            have hpos : starI (some st0) = (st0 : Int) := rfl
            rw [hpos]
            have hn0 : ¬ (st0 : Int) < 0 := by omega
            by_cases hf : frm < s.size
            · have hf' : ¬ (s.size : Int) ≤ (frm : Int) := by omega
              have HT2 := hide (HT.out.again Hst.out (by rw [hl]; exact hf))
              have hw1 : IntKind.i64.wrap ((frm : Int) + 1) = (frm : Int) + 1 := IntWalk.i64_in _ (by omega)
              have hst0 : st0 < w.length := by have := HT2.out.il; omega
              have hw2 : IntKind.i64.wrap ((st0 : Int) + 1) = (st0 : Int) + 1 := IntWalk.i64_in _ (by omega)
              clear hst
              go_wp2_with fail
              go_quiet (fail)
              go_wp2
              go_roundw
              case rel => exact ⟨st0 + 1, frm + 1, frm + 1, some st0, by go_num, by go_num, rfl, by go_num, HT2.out, by omega, _, rfl⟩
              case measure =>
                have := meas_again (N := w.length) (M := s.size) (st := st0 + 1) (frm := frm) (i := i) hf
                simpa [intOf] using this
            · have hf' : (s.size : Int) ≤ (frm : Int) := by omega
              have Hno := hide (HT.out.no Hst.out (.inr (by rw [hl]; omega)))
              clear hst
              go_wp2_with fail
              go_quiet (fail)
              go_wp2
              rw [Exit.noGoto_ret]
              go_ret
              exact ⟨ret_b Hno.out, _, rfl⟩
    · have hi' : ¬ (i : Int) < (w.length : Int) := by omega
      by_cases hk : k < s.size
      · have hk' : (k : Int) < (s.size : Int) := by omega
        have Hst := hide (Trail.stuck (w := w) (s := s.data.toList) (i := i) (k := k) (.inr (by rw [hl]; exact hk)) (fun h => absurd h hi) (fun h _ => absurd h hi))
        cases st with
        | none =>
          have Hno := hide (HT.out.no Hst.out (.inl rfl))
          have hneg : starI none = -1 := rfl
          rw [hneg]
          skip
          go_wp2_with fail
          go_quiet (fail)
          go_wp2
          rw [Exit.noGoto_ret]
          go_ret
          exact ⟨ret_b Hno.out, _, rfl⟩
        | some st0 =>
          have hpos : starI (some st0) = (st0 : Int) := rfl
          rw [hpos]
          have hn0 : ¬ (st0 : Int) < 0 := by omega
          by_cases hf : frm < s.size
          · have hf' : ¬ (s.size : Int) ≤ (frm : Int) := by omega
            have HT2 := hide (HT.out.again Hst.out (by rw [hl]; exact hf))
            have hw1 : IntKind.i64.wrap ((frm : Int) + 1) = (frm : Int) + 1 := IntWalk.i64_in _ (by omega)
            have hst0 : st0 < w.length := by have := HT2.out.il; omega
            have hw2 : IntKind.i64.wrap ((st0 : Int) + 1) = (st0 : Int) + 1 := IntWalk.i64_in _ (by omega)
            skip
            go_wp2_with fail
            go_quiet (fail)
            go_wp2
            go_roundw
            case rel => exact ⟨st0 + 1, frm + 1, frm + 1, some st0, by go_num, by go_num, rfl, by go_num, HT2.out, by omega, _, rfl⟩
            case measure =>
              have := meas_again (N := w.length) (M := s.size) (st := st0 + 1) (frm := frm) (i := i) hf
              simpa [intOf] using this
          · have hf' : (s.size : Int) ≤ (frm : Int) := by omega
            have Hno := hide (HT.out.no Hst.out (.inr (by rw [hl]; omega)))
            skip
            go_wp2_with fail
            go_quiet (fail)
            go_wp2
            rw [Exit.noGoto_ret]
            go_ret
            exact ⟨ret_b Hno.out, _, rfl⟩
      · have hk' : ¬ (k : Int) < (s.size : Int) := by omega
        obtain rfl : i = w.length := by omega
        obtain rfl : k = s.size := by omega
        have Hyes := hide (show mW w s.data.toList = true from by
          have := HT.out
          rw [← hl] at this
          exact this.yes)
        go_wp2
        go_ret
        exact ⟨ret_b Hyes.out, _, rfl⟩
end Go.Proofs.Ytcjehiecgdmidaa
