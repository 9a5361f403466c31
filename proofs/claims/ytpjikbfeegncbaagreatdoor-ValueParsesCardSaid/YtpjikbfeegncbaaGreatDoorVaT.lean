/- Contracts of the reference's characters, bit vectors and digits. -/
import Derived.Test.YtpjikbfeegncbaaGreatDoorVaS
set_option linter.unusedVariables false
set_option linter.unusedSimpArgs false
namespace Go.Proofs.YtpjikbfeegncbaaGreatDoor
open Go.RowKit Go.Shelf Go.Sort

theorem refChar_any (c : UInt8) (w : World) :
    Calls Tryz.prog 60 #[.int .u8 (c.toNat : Int)] w fun e w' => e = .returned (.bool (chB c)) ∧ w' = w := by
  rcases codeB_cases c with ⟨rfl, _⟩ | ⟨rfl, _⟩ | ⟨rfl, _⟩ | ⟨rfl, _⟩ | ⟨⟨h0, h1, h2, h3⟩, _⟩
  iterate 4
    · go_enter Tryz.func60, Tryz.ntmps60
      go_wp2
      go_ret
      exact ⟨rfl, rfl⟩
  · have hv : chB c = false := by unfold chB; simp [h0, h1, h2, h3]
    have e0 : ((c.toNat : Int) == 48) = false := beq_eq_false_iff_ne.2 fun e => h0 ((u8i c 48).1 e)
    have e1 : ((c.toNat : Int) == 49) = false := beq_eq_false_iff_ne.2 fun e => h1 ((u8i c 49).1 e)
    have e2 : ((c.toNat : Int) == 120) = false := beq_eq_false_iff_ne.2 fun e => h2 ((u8i c 120).1 e)
    have e3 : ((c.toNat : Int) == 122) = false := beq_eq_false_iff_ne.2 fun e => h3 ((u8i c 122).1 e)
    rw [hv]
    clear hv h0 h1 h2 h3
    go_enter Tryz.func60, Tryz.ntmps60
    go_wp2
    go_ret
    exact ⟨rfl, rfl⟩
theorem all_take {p : UInt8 → Bool} (l : List UInt8) (i : Nat) (h : i < l.length) : (l.take (i + 1)).all p = ((l.take i).all p && p l[i]) := by
  rw [List.take_add_one, List.getElem?_eq_getElem h, List.all_append]
  simp
theorem all_bad {p : UInt8 → Bool} {l : List UInt8} (i : Nat) (h : i < l.length) (hp : p l[i] = false) : l.all p = false := by
  rw [List.all_eq_false]
  exact ⟨l[i], List.getElem_mem h, by rw [hp]; decide⟩

set_option maxRecDepth 20000 in
set_option maxHeartbeats 4000000 in
theorem refIsValueL (l : List UInt8) (w : World) (hz : l.length ≤ 1000000) :
    Calls Tryz.prog 59 #[.string (bsV l)] w fun e w' => e = .returned (.bool (isV l)) ∧ w' = w := by
  have hsz := bs_size l
  go_enter Tryz.func59, Tryz.ntmps59
  go_wp2
  go_loopw [3] (fun v wr => ∃ i : Nat, v = .int .i64 i ∧ i ≤ l.length ∧ (l.take i).all chB = true ∧ wr = w) (fun v _ => l.length - (intOf v).toNat)
  case atStart => exact ⟨0, rfl, Nat.zero_le _, rfl, rfl⟩
  case round =>
    obtain ⟨i, rfl, hi, hp, rfl⟩ := hrel
    by_cases hlt : i < l.length
    · have hi2 : i < (bsV l).size := by rw [hsz]; exact hlt
      have hget := bs_get l i hi2
      obtain ⟨c, hc⟩ : ∃ c, (bsV l)[i]'hi2 = c := ⟨_, rfl⟩
      have hcl : l[i]'hlt = c := hget.symm.trans hc
      have Hc := hide hc
      have Hp := hide hp
      have CC := hide (fun W : World => refChar_any c W)
      clear hp hget hc
      cases hpr : chB c with
      | true =>
        have Hr := hide (show (l.take (i + 1)).all chB = true by rw [all_take l i hlt, Hp.out, hcl, hpr]; rfl)
        rw [hpr] at CC
        clear hpr hcl
        go_wp2_with fail
        rw [Hc.out]
        refine (CC.out _).mono ?_
        rintro e wx ⟨rfl, rfl⟩
        go_wp2
        go_roundw
        case rel => exact ⟨i + 1, by go_num, by omega, Hr.out, by trivial⟩
        case measure => simp [intOf]; omega
      | false =>
        have Hv := hide (show isV l = false by unfold isV; rw [all_bad i hlt (by rw [hcl]; exact hpr), Bool.and_false])
        rw [hpr] at CC
        clear hpr hcl
        go_wp2_with fail
        rw [Hc.out]
        refine (CC.out _).mono ?_
        rintro e wx ⟨rfl, rfl⟩
        go_wp2
        go_ret
        exact ⟨ret_b Hv.out, rfl⟩
    · obtain rfl : i = l.length := by omega
      rw [List.take_length] at hp
      have hv : isV l = decide (1 ≤ l.length ∧ l.length ≤ 128) := by unfold isV; rw [hp, Bool.and_true]
      by_cases h1 : 1 ≤ l.length
      · have h1' : (1 : Int) ≤ (l.length : Int) := by omega
        by_cases h8 : l.length ≤ 128
        · have h8' : ((l.length : Int) ≤ 128) := by omega
          have Hv := hide (show isV l = true by rw [hv]; exact decide_eq_true ⟨h1, h8⟩)
          clear hv hp
          go_wp2
          go_ret
          exact ⟨ret_b Hv.out, rfl⟩
        · have h8' : ¬ ((l.length : Int) ≤ 128) := by omega
          have Hv := hide (show isV l = false by rw [hv]; exact decide_eq_false fun h => h8 h.2)
          clear hv hp
          go_wp2
          go_ret
          exact ⟨ret_b Hv.out, rfl⟩
      · have h1' : ¬ (1 : Int) ≤ (l.length : Int) := by omega
        have Hv := hide (show isV l = false by rw [hv]; exact decide_eq_false fun h => h1 h.1)
        clear hv hp
        go_wp2
        go_ret
        exact ⟨ret_b Hv.out, rfl⟩
theorem refIsValue_any (s : ByteArray) (w : World) (hz : s.size ≤ 1000000) :
    Calls Tryz.prog 59 #[.string s] w fun e w' => e = .returned (.bool (isV s.data.toList)) ∧ Below w.heap.size w w' := by
  have := refIsValueL s.data.toList w (by rw [← Lib.size_eq]; exact hz)
  rw [← bs_of] at this
  exact this.mono fun e w' ⟨h1, h2⟩ => ⟨h1, h2 ▸ Below.refl _ _⟩
set_option maxHeartbeats 4000000 in
theorem refValid2_any (n : Int) (s : ByteArray) (w : World) (hz : s.size ≤ 1000000) :
    Calls Tryz.prog 30 #[.int .i64 n, .string s] w fun e w' => e = .returned (.bool (valV n s.data.toList)) ∧ Below w.heap.size w w' := by
  have C := hide (fun W : World => refIsValue_any s W hz)
  have hl : s.data.toList.length = s.size := (Lib.size_eq s).symm
  have hv : valV n s.data.toList = (isV s.data.toList && ((s.size : Int) == n)) := by
    unfold valV; rw [hl]
    congr 1
  rw [hv]
  generalize isV s.data.toList = R at *
  clear hl hv
  cases R with
  | false =>
    go_enter Tryz.func30, Tryz.ntmps30
    go_wp2_with fail
    refine (C.out _).mono ?_
    rintro e wx ⟨rfl, hb⟩
    have Hb := hide hb
    clear hb
    go_wp2
    go_ret
    exact ⟨rfl, Hb.out⟩
  | true =>
    go_enter Tryz.func30, Tryz.ntmps30
    go_wp2_with fail
    refine (C.out _).mono ?_
    rintro e wx ⟨rfl, hb⟩
    have Hb := hide hb
    clear hb
    go_wp2
    go_ret
    exact ⟨rfl, Hb.out⟩

theorem rep_snoc (c : UInt8) (i : Nat) : List.replicate i c ++ [c] = List.replicate (i + 1) c := by rw [List.replicate_succ']

set_option maxRecDepth 20000 in
set_option maxHeartbeats 4000000 in
theorem refAll_any (n : Int) (c : UInt8) (w : World) :
    Calls Tryz.prog 32 #[.int .i64 n, .int .u8 (c.toNat : Int)] w fun e w' => e = .returned (.string (bsV (allV n c))) ∧ Below w.heap.size w w' := by
  have V := hide (fun W : World => refChar_any c W)
  by_cases h1 : n < 1
  · have hR : bsV (allV n c) = ⟨#[]⟩ := by unfold allV; rw [if_pos (.inl h1)]; rfl
    rw [hR]
    clear hR
    go_enter Tryz.func32, Tryz.ntmps32
    go_wp2
    go_ret
    exact ⟨rfl, Below.refl _ _⟩
  · by_cases h2 : 128 < n
    · have hR : bsV (allV n c) = ⟨#[]⟩ := by unfold allV; rw [if_pos (.inr (.inl h2))]; rfl
      rw [hR]
      clear hR
      go_enter Tryz.func32, Tryz.ntmps32
      go_wp2
      go_ret
      exact ⟨rfl, Below.refl _ _⟩
    · cases hc : chB c with
      | false =>
        have hR : bsV (allV n c) = ⟨#[]⟩ := by unfold allV; rw [if_pos (.inr (.inr hc))]; rfl
        rw [hR]
        rw [hc] at V
        clear hR hc
        go_enter Tryz.func32, Tryz.ntmps32
        go_wp2_with fail
        refine (V.out _).mono ?_
        rintro e wx ⟨rfl, rfl⟩
        go_wp2
        go_ret
        exact ⟨rfl, Below.refl _ _⟩
      | true =>
        have hR : allV n c = List.replicate n.toNat c := by
          unfold allV; rw [if_neg]; rintro (h | h | h)
          · exact h1 h
          · exact h2 h
          · rw [hc] at h; cases h
        rw [hc] at V
        have HR := hide hR
        obtain ⟨m, rfl⟩ : ∃ m : Nat, n = m := ⟨n.toNat, by omega⟩
        have hm : m ≤ 128 := by omega
        clear hR hc
        go_enter Tryz.func32, Tryz.ntmps32
        go_wp2_with fail
        refine (V.out _).mono ?_
        rintro e wx ⟨rfl, rfl⟩
        go_wp2
        go_loopw [5] (fun v wr => ∃ i : Nat, v = .string (bsV (List.replicate i c)) ∧ i ≤ m ∧ Below wx.heap.size wx wr) (fun v _ => match v with | .string b => m - b.size | _ => 0)
        case atStart => exact ⟨0, rfl, Nat.zero_le _, Below.refl _ _⟩
        case round =>
          obtain ⟨i, rfl, hi, hb⟩ := hrel
          have Hb := hide hb
          have hsz : (bsV (List.replicate i c)).size = i := by rw [bs_size, List.length_replicate]
          clear hb
          by_cases hlt : i < m
          · have hlt' : (i : Int) < (m : Int) := by omega
            have hcv := conv1b wr c
            have hadd : ∀ W, (Op.stringOp .add (bsV (List.replicate i c)) ⟨#[c]⟩).run Tryz.prog W = .ok (.string (bsV (List.replicate (i + 1) c))) W := fun W => by
              have := run_add (List.replicate i c) [c] (by rw [List.length_replicate]; omega) (by simp) W
              rwa [rep_snoc] at this
            have hsz2 : (bsV (List.replicate (i + 1) c)).size = i + 1 := by rw [bs_size, List.length_replicate]
            have Hs := hide (And.intro hsz hsz2)
            generalize hX : bsV (List.replicate i c) = X at *
            generalize hY : bsV (List.replicate (i + 1) c) = Y at *
            have HY := hide hY
            clear hX hY hsz2
            go_wp2
            go_roundw
            case rel => exact ⟨i + 1, by rw [HY.out], by omega, Hb.out.alloc Hb.out.size _⟩
            case measure =>
              show m - Y.size < m - X.size
              rw [Hs.out.1, Hs.out.2]; omega
          · obtain rfl : i = m := by omega
            have hlt' : ¬ (i : Int) < (i : Int) := by omega
            have HS := hide (show bsV (List.replicate i c) = bsV (allV (i : Int) c) by rw [HR.out, Int.toNat_natCast])
            generalize bsV (List.replicate i c) = X at *
            go_wp2
            go_ret
            exact ⟨congrArg (fun b => Ending.returned (.string b)) HS.out, Hb.out⟩
end Go.Proofs.YtpjikbfeegncbaaGreatDoor
