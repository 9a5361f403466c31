/- Contracts of the reference's lower, front, Extend and Shorten. -/
import Derived.Test.YtpjikbfeegncbaaGreatDoorVaT
set_option linter.unusedVariables false
set_option linter.unusedSimpArgs false
namespace Go.Proofs.YtpjikbfeegncbaaGreatDoor
open Go.RowKit Go.Shelf Go.Sort

theorem bs_one (l : List UInt8) (i : Nat) (h : i < l.length) : (bsV l).extract i (i + 1) = bsV [l[i]] := by
  apply ByteArray.ext
  apply Array.toList_inj.1
  rw [Lib.extract_data]
  show (l.drop i).take (i + 1 - i) = [l[i]]
  rw [show i + 1 - i = 1 by omega, List.drop_eq_getElem_cons h]
  rfl
theorem map_take (l : List UInt8) (i : Nat) (h : i < l.length) : (l.take (i + 1)).map lowC = (l.take i).map lowC ++ [lowC l[i]] := by
  rw [List.take_add_one, List.getElem?_eq_getElem h, List.map_append]
  rfl

set_option maxRecDepth 20000 in
set_option maxHeartbeats 4000000 in
theorem refLower_any (l : List UInt8) (w : World) (hz : l.length ≤ 1000000) :
    Calls Tryz.prog 34 #[.string (bsV l)] w fun e w' => e = .returned (.string (bsV (l.map lowC))) ∧ w' = w := by
  have hsz := bs_size l
  go_enter Tryz.func34, Tryz.ntmps34
  go_wp2
  go_loopw [3, 4] (fun a v wr => ∃ i : Nat, v = .int .i64 i ∧ a = .string (bsV ((l.take i).map lowC)) ∧ i ≤ l.length ∧ wr = w) (fun _ v _ => l.length - (intOf v).toNat)
  case atStart => exact ⟨0, rfl, rfl, Nat.zero_le _, rfl⟩
  case round =>
    obtain ⟨i, rfl, rfl, hi, rfl⟩ := hrel
    by_cases hlt : i < l.length
    · have hi2 : i < (bsV l).size := by rw [hsz]; exact hlt
      have hget := bs_get l i hi2
      obtain ⟨c, hc⟩ : ∃ c, (bsV l)[i]'hi2 = c := ⟨_, rfl⟩
      have hcl : l[i]'hlt = c := hget.symm.trans hc
      have hwr : IntKind.i64.wrap ((i : Int) + 1) = (i : Int) + 1 := IntWalk.i64_in _ (by omega)
      have hs1 : (i : Int) ≤ (i : Int) + 1 := by omega
      have hs2 : (i : Int) + 1 ≤ (l.length : Int) := by omega
      have hs3 : (0 : Int) ≤ (i : Int) + 1 := by omega
      have hs4 : ((i : Int) + 1).toNat = i + 1 := by omega
      have hex := bs_one l i hlt
      rw [hcl] at hex
      have hmt := map_take l i hlt
      rw [hcl] at hmt
      have Hmt := hide hmt
      have hadd : ∀ W, (Op.stringOp .add (bsV ((l.take i).map lowC)) (bsV [lowC c])).run Tryz.prog W = .ok (.string (bsV ((l.take (i + 1)).map lowC))) W := fun W => by
        have := run_add ((l.take i).map lowC) [lowC c] (by rw [List.length_map, List.length_take]; omega) (by simp) W
        rwa [← hmt] at this
      obtain ⟨X, hX⟩ : ∃ X, bsV ((l.take i).map lowC) = X := ⟨_, rfl⟩
      obtain ⟨Y, hY⟩ : ∃ Y, bsV ((l.take (i + 1)).map lowC) = Y := ⟨_, rfl⟩
      rw [hX] at hadd ⊢
      rw [hY] at hadd
      have HY := hide hY
      clear hmt hget hX hY
      by_cases h88 : c = 88
      · subst h88
        rw [show bsV [lowC 88] = (⟨#[120]⟩ : ByteArray) from rfl] at hadd
        clear hcl hex
        go_wp2
        go_roundw
        case rel => exact ⟨i + 1, by go_num, by rw [HY.out], by omega, by trivial⟩
        case measure => simp [intOf]; omega
      · by_cases h90 : c = 90
        · subst h90
          rw [show bsV [lowC 90] = (⟨#[122]⟩ : ByteArray) from rfl] at hadd
          clear hcl hex h88
          go_wp2
          go_roundw
          case rel => exact ⟨i + 1, by go_num, by rw [HY.out], by omega, by trivial⟩
          case measure => simp [intOf]; omega
        · have hlc : lowC c = c := by unfold lowC; rw [if_neg h88, if_neg h90]
          rw [hlc] at hadd
          have e1 : ((c.toNat : Int) == 88) = false := beq_eq_false_iff_ne.2 fun e => h88 ((u8i c 88).1 e)
          have e2 : ((c.toNat : Int) == 90) = false := beq_eq_false_iff_ne.2 fun e => h90 ((u8i c 90).1 e)
          clear hcl h88 h90 hlc
          go_wp2
          go_roundw
          case rel => exact ⟨i + 1, by go_num, by rw [HY.out], by omega, by trivial⟩
          case measure => simp [intOf]; omega
    · obtain rfl : i = l.length := by omega
      have HS := hide (show bsV ((l.take l.length).map lowC) = bsV (l.map lowC) by rw [List.take_length])
      generalize bsV ((l.take l.length).map lowC) = X at *
      go_wp2
      go_ret
      exact ⟨congrArg (fun b => Ending.returned (.string b)) HS.out, rfl⟩
theorem refFront_any (c : UInt8) (t : List UInt8) (w : World) :
    Calls Tryz.prog 61 #[.string (bsV (c :: t))] w fun e w' => e = .returned (.int .u8 ((frC c).toNat : Int)) ∧ w' = w := by
  have hsz := bs_size (c :: t)
  have hi2 : 0 < (bsV (c :: t)).size := by rw [hsz]; simp
  have hget : (bsV (c :: t))[0]'hi2 = c := bs_get (c :: t) 0 hi2
  have hp : (0 : Int) < ((c :: t).length : Int) := by simp only [List.length_cons]; omega
  by_cases h : c = 49
  · have e1 : ((c.toNat : Int) == 49) = true := by rw [h]; rfl
    have HF := hide (show ((frC c).toNat : Int) = 48 by rw [h]; rfl)
    clear h
    generalize bsV (c :: t) = X at *
    go_enter Tryz.func61, Tryz.ntmps61
    go_wp2
    go_ret
    exact ⟨congrArg (fun b => Ending.returned (.int .u8 b)) HF.out.symm, rfl⟩
  · have e1 : ((c.toNat : Int) == 49) = false := beq_eq_false_iff_ne.2 fun e => h ((u8i c 49).1 e)
    have HF := hide (show ((frC c).toNat : Int) = c.toNat by unfold frC; rw [if_neg h])
    clear h
    generalize bsV (c :: t) = X at *
    go_enter Tryz.func61, Tryz.ntmps61
    go_wp2
    go_ret
    exact ⟨congrArg (fun b => Ending.returned (.int .u8 b)) HF.out.symm, rfl⟩

theorem extendV_bad {n : Int} {l : List UInt8} (h1 : 1 ≤ n) (h2 : n ≤ 128) (h : l = [] ∨ l.all chB = false) : extendV n l = ([], 3) := by
  unfold extendV; rw [if_neg (by omega), if_pos h]
theorem extendV_long {n : Int} {l : List UInt8} (h1 : 1 ≤ n) (h2 : n ≤ 128) (h3 : l ≠ []) (h4 : l.all chB = true) (h5 : n < l.length) : extendV n l = ([], 8) := by
  unfold extendV; rw [if_neg (by omega), if_neg (by rintro (h | h); exact h3 h; rw [h4] at h; cases h), if_pos h5]
theorem extendV_ok {n : Int} {l : List UInt8} (h1 : 1 ≤ n) (h2 : n ≤ 128) (h3 : l ≠ []) (h4 : l.all chB = true) (h5 : (l.length : Int) ≤ n) : extendV n l = (extL n.toNat l, 0) := by
  unfold extendV; rw [if_neg (by omega), if_neg (by rintro (h | h); exact h3 h; rw [h4] at h; cases h), if_neg (by omega)]

set_option maxRecDepth 20000 in
set_option maxHeartbeats 8000000 in
theorem refExtend_any (n : Int) (l : List UInt8) (w : World) (hz : l.length ≤ 1000000) :
    Calls Tryz.prog 33 #[.int .i64 n, .string (bsV l)] w fun e w' => e = .returned (.tuple #[.string (bsV (extendV n l).1), .int .i64 (extendV n l).2]) ∧ Below w.heap.size w w' := by
  have hsz := bs_size l
  by_cases h1 : n < 1
  · have hR : extendV n l = ([], 1) := by unfold extendV; rw [if_pos (.inl h1)]
    rw [hR]
    clear hR
    go_enter Tryz.func33, Tryz.ntmps33
    go_wp2
    go_ret2
    exact ⟨rfl, Below.refl _ _⟩
  by_cases h2 : 128 < n
  · have hR : extendV n l = ([], 1) := by unfold extendV; rw [if_pos (.inr h2)]
    rw [hR]
    clear hR
    go_enter Tryz.func33, Tryz.ntmps33
    go_wp2
    go_ret2
    exact ⟨rfl, Below.refl _ _⟩
  go_enter Tryz.func33, Tryz.ntmps33
  go_wp2
  go_loopw [6] (fun v wr => ∃ i : Nat, v = .int .i64 i ∧ i ≤ l.length ∧ (l.take i).all chB = true ∧ wr = w) (fun v _ => l.length - (intOf v).toNat)
  case atStart => exact ⟨0, rfl, Nat.zero_le _, rfl, rfl⟩
  case round =>
    obtain ⟨i, rfl, hi, hp, rfl⟩ := hrel
    by_cases hlt : i < l.length
    · have hi2 : i < (bsV l).size := by rw [hsz]; exact hlt
      have hget := bs_get l i hi2
      obtain ⟨c, hc⟩ : ∃ c, (bsV l)[i]'hi2 = c := ⟨_, rfl⟩
      have hcl : l[i]'hlt = c := hget.symm.trans hc
      have Hc := hide hc
      have Hp := hide hp
      have CC := hide (fun W : World => refChar_any c W)
      clear hp hget hc
      cases hpr : chB c with
      | true =>
        have Hr := hide (show (l.take (i + 1)).all chB = true by rw [all_take l i hlt, Hp.out, hcl, hpr]; rfl)
        rw [hpr] at CC
        clear hpr hcl
        go_wp2_with fail
        rw [Hc.out]
        refine (CC.out _).mono ?_
        rintro e wx ⟨rfl, rfl⟩
        go_wp2
        go_roundw
        case rel => exact ⟨i + 1, by go_num, by omega, Hr.out, by trivial⟩
        case measure => simp [intOf]; omega
      | false =>
        have Hv := hide (extendV_bad (n := n) (l := l) (by omega) (by omega) (.inr (all_bad i hlt (by rw [hcl]; exact hpr))))
        rw [hpr] at CC
        clear hpr hcl
        go_wp2_with fail
        rw [Hc.out]
        refine (CC.out _).mono ?_
        rintro e wx ⟨rfl, rfl⟩
        go_wp2
        go_ret2
        exact ⟨by rw [Hv.out]; rfl, Below.refl _ _⟩
    · obtain rfl : i = l.length := by omega
      rw [List.take_length] at hp
      cases l with
      | nil =>
        have Hv := hide (extendV_bad (n := n) (l := []) (by omega) (by omega) (.inl rfl))
        have hz0 : ((([] : List UInt8).length : Int) == 0) = true := rfl
        clear hp
        go_wp2
        go_ret2
        exact ⟨by rw [Hv.out]; rfl, Below.refl _ _⟩
      | cons c t =>
        obtain ⟨m, hm⟩ : ∃ m, (c :: t).length = m := ⟨_, rfl⟩
        have hm1 : 1 ≤ m := by rw [← hm]; simp
        have hz0 : ((m : Int) == 0) = false := beq_eq_false_iff_ne.2 (by omega)
        by_cases h5 : n < (c :: t).length
        · have Hv := hide (extendV_long (n := n) (l := c :: t) (by omega) (by omega) (by simp) hp h5)
          rw [hm] at h5 hsz ⊢
          clear hp hlt hi
          go_wp2
          go_ret2
          exact ⟨by rw [Hv.out]; rfl, Below.refl _ _⟩
        · have Hv := hide (extendV_ok (n := n) (l := c :: t) (by omega) (by omega) (by simp) hp (by omega))
          by_cases h6 : ((c :: t).length : Int) = n
          · have hx : extL n.toNat (c :: t) = c :: t := by
              unfold extL
              rw [show n.toNat - (c :: t).length = 0 by omega]; rfl
            rw [hx] at Hv
            rw [hm] at h5 h6 hsz ⊢
            have h6' : ((m : Int) == n) = true := by rw [beq_iff_eq]; exact h6
            clear hp hlt hi hx h6
            go_wp2
            go_ret2
            exact ⟨ret_pair (congrArg (fun p : List UInt8 × Int => bsV p.1) Hv.out).symm (congrArg Prod.snd Hv.out).symm, Below.refl _ _⟩
          · have hch : chB (frC c) = true := frC_ch (List.all_eq_true.1 hp c (List.mem_cons_self ..))
            have F := hide (fun W : World => refFront_any c t W)
            have A := hide (fun W : World => refAll_any (n - (m : Int)) (frC c) W)
            have ha : allV (n - (m : Int)) (frC c) = List.replicate (n.toNat - m) (frC c) := by
              unfold allV
              rw [if_neg (by rintro (h | h | h); omega; omega; rw [hch] at h; cases h), show (n - (m : Int)).toNat = n.toNat - m by omega]
            rw [ha] at A
            have hx : extL n.toNat (c :: t) = List.replicate (n.toNat - m) (frC c) ++ (c :: t) := by
              unfold extL frontC
              rw [hm]; rfl
            rw [hx] at Hv
            have hadd := fun W => run_add (List.replicate (n.toNat - m) (frC c)) (c :: t) (by rw [List.length_replicate]; omega) (by omega) W
            have hwr : IntKind.i64.wrap (n - (m : Int)) = n - (m : Int) := IntWalk.i64_in _ (by omega)
            have Hv2 := hide (show bsV (List.replicate (n.toNat - m) (frC c) ++ (c :: t)) = bsV (extendV n (c :: t)).1 ∧ (0 : Int) = (extendV n (c :: t)).2 by rw [Hv.out]; exact ⟨rfl, rfl⟩)
            rw [hm] at h5 h6 hsz ⊢
            have h6' : ((m : Int) == n) = false := beq_eq_false_iff_ne.2 h6
            generalize bsV (List.replicate (n.toNat - m) (frC c) ++ (c :: t)) = Y at *
            generalize bsV (List.replicate (n.toNat - m) (frC c)) = X at *
            clear hp hlt hi hx ha h6 hch Hv
            go_wp2_with fail
            refine (F.out _).mono ?_
            rintro e wx ⟨rfl, rfl⟩
            go_wp2_with fail
            refine (A.out _).mono ?_
            rintro e wy ⟨rfl, hb⟩
            have Hb := hide hb
            clear hb
            go_wp2
            go_ret2
            exact ⟨ret_pair Hv2.out.1 Hv2.out.2, Hb.out⟩

/-- no shorter text than n digits -/
theorem short_len {l : List UInt8} (hne : l ≠ []) (n : Nat) (h : ∀ j, 1 ≤ j → j < n → extL l.length (l.drop (l.length - j)) ≠ l) : n ≤ (shortV l).length := by
  obtain ⟨p, hp⟩ := shortV_suffix l
  have h1 : 1 ≤ (shortV l).length := List.length_pos_iff.2 (shortV_ne hne)
  have h2 : (shortV l).length ≤ l.length := (shortV_suffix l).length_le
  have hd : l.drop (l.length - (shortV l).length) = shortV l := by
    conv => lhs; rw [← hp]
    rw [List.length_append, show p.length + (shortV l).length - (shortV (p ++ shortV l)).length = p.length + (shortV l).length - (shortV l).length by rw [hp], Nat.add_sub_cancel, List.drop_left]
  rcases Nat.lt_or_ge (shortV l).length n with hlt | hge
  · exact absurd (by rw [hd]; exact (shortV_front l hne).2) (h _ h1 hlt)
  · exact hge
theorem short_is {l : List UInt8} (hne : l ≠ []) (n : Nat) (hn1 : 1 ≤ n) (hn2 : n ≤ l.length) (h : ∀ j, 1 ≤ j → j < n → extL l.length (l.drop (l.length - j)) ≠ l) (he : extL l.length (l.drop (l.length - n)) = l) : shortV l = l.drop (l.length - n) := by
  have h3 := short_len hne n h
  have hdn : (l.drop (l.length - n)).length = n := by rw [List.length_drop]; omega
  have hs := shortV_least l (l.drop (l.length - n)) (by intro e; rw [e] at hdn; simp at hdn; omega) (List.drop_suffix _ _) he
  exact hs.eq_of_length_le (by rw [hdn]; exact h3)
theorem short_all {l : List UInt8} (hne : l ≠ []) (h : ∀ j, 1 ≤ j → j < l.length → extL l.length (l.drop (l.length - j)) ≠ l) : shortV l = l :=
  (shortV_suffix l).eq_of_length_le (short_len hne l.length h)

set_option maxRecDepth 20000 in
set_option maxHeartbeats 8000000 in
theorem refShorten_any (l : List UInt8) (w : World) (hz : l.length ≤ 1000000) :
    Calls Tryz.prog 37 #[.string (bsV l)] w fun e w' => e = .returned (.string (bsV (if isV l then shortV l else []))) ∧ Below w.heap.size w w' := by
  have hsz := bs_size l
  have I := hide (refIsValueL l w hz)
  cases hv : isV l with
  | false =>
    rw [hv] at I
    rw [if_neg (by decide), show bsV [] = (⟨#[]⟩ : ByteArray) from rfl]
    clear hv
    go_enter Tryz.func37, Tryz.ntmps37
    go_wp2_with fail
    refine I.out.mono ?_
    rintro e wx ⟨rfl, rfl⟩
    go_wp2
    go_ret
    exact ⟨rfl, Below.refl _ _⟩
  | true =>
    rw [hv] at I
    rw [if_pos rfl]
    have hv2 := hv
    unfold isV at hv2
    rw [Bool.and_eq_true, decide_eq_true_eq] at hv2
    obtain ⟨⟨hn1, hn2⟩, hall⟩ := hv2
    have hne : l ≠ [] := fun e => by rw [e] at hn1; simp at hn1
    have Hall := hide hall
    have Hne := hide hne
    clear hv hall hne
    go_enter Tryz.func37, Tryz.ntmps37
    go_wp2_with fail
    refine I.out.mono ?_
    rintro e wx ⟨rfl, rfl⟩
    go_wp2
    go_loopw [3] (fun v wr => ∃ i : Nat, v = .int .i64 i ∧ 1 ≤ i ∧ i ≤ l.length ∧ (∀ j, 1 ≤ j → j < i → extL l.length (l.drop (l.length - j)) ≠ l) ∧ Below wx.heap.size wx wr) (fun v _ => l.length - (intOf v).toNat)
    case atStart => exact ⟨1, rfl, Nat.le_refl _, hn1, fun j h1 h2 => by omega, Below.refl _ _⟩
    case round =>
      obtain ⟨i, rfl, hi1, hi, hno, hb⟩ := hrel
      have Hno := hide hno
      have Hb := hide hb
      clear hno hb
      by_cases hlt : i < l.length
      · have hdl : (l.drop (l.length - i)).length = i := by rw [List.length_drop]; omega
        have E := hide (fun W : World => refExtend_any (l.length : Int) (l.drop (l.length - i)) W (by omega))
        have hxt : extendV (l.length : Int) (l.drop (l.length - i)) = (extL l.length (l.drop (l.length - i)), 0) := by
          have := extendV_ok (n := (l.length : Int)) (l := l.drop (l.length - i)) (by omega) (by omega) (by intro e; rw [e] at hdl; simp at hdl; omega)
            (List.all_eq_true.2 fun c hc => List.all_eq_true.1 Hall.out c (List.mem_of_mem_drop hc)) (by omega)
          rwa [Int.toNat_natCast] at this
        rw [hxt] at E
        have hex : (bsV l).extract (l.length - i) l.length = bsV (l.drop (l.length - i)) := by
          have := bs_drop l (l.length - i)
          rwa [hsz] at this
        have hwr : IntKind.i64.wrap ((l.length : Int) - (i : Int)) = (l.length : Int) - (i : Int) := IntWalk.i64_in _ (by omega)
        have hs1 : (0 : Int) ≤ (l.length : Int) - (i : Int) := by omega
        have hs2 : (l.length : Int) - (i : Int) ≤ (l.length : Int) := by omega
        have hs4 : ((l.length : Int) - (i : Int)).toNat = l.length - i := by omega
        have hbq : ((bsV (extL l.length (l.drop (l.length - i)))).toList == (bsV l).toList) = decide (extL l.length (l.drop (l.length - i)) = l) := by
          rw [toList_beq]
          congr 1
          rw [eq_iff_iff]
          exact ⟨fun h => by have := congrArg (fun b : ByteArray => b.data.toList) h; simpa [bsV_list] using this, fun h => by rw [h]⟩
        by_cases he : extL l.length (l.drop (l.length - i)) = l
        · rw [decide_eq_true he] at hbq
          have HS := hide (show bsV (l.drop (l.length - i)) = bsV (shortV l) by rw [short_is Hne.out i hi1 (by omega) Hno.out he])
          generalize extL l.length (l.drop (l.length - i)) = x at *
          generalize bsV (l.drop (l.length - i)) = D at *
          clear hxt hdl he
          go_wp2_with fail
          refine (E.out _).mono ?_
          rintro e wy ⟨rfl, hb⟩
          have Hb2 := hide (Hb.out.trans (hb.mono Hb.out.size))
          clear hb
          go_wp2
          go_ret
          exact ⟨congrArg (fun b => Ending.returned (.string b)) HS.out, Hb2.out⟩
        · rw [decide_eq_false he] at hbq
          have Hn := hide (show ∀ j, 1 ≤ j → j < i + 1 → extL l.length (l.drop (l.length - j)) ≠ l from fun j h1 h2 => by
            rcases Nat.lt_or_ge j i with h | h
            · exact Hno.out j h1 h
            · obtain rfl : j = i := by omega
              exact he)
          generalize extL l.length (l.drop (l.length - i)) = x at *
          generalize bsV (l.drop (l.length - i)) = D at *
          clear hxt hdl he
          go_wp2_with fail
          refine (E.out _).mono ?_
          rintro e wy ⟨rfl, hb⟩
          have Hb2 := hide (Hb.out.trans (hb.mono Hb.out.size))
          clear hb
          go_wp2
          go_roundw
          case rel => exact ⟨i + 1, by go_num, by omega, by omega, Hn.out, Hb2.out⟩
          case measure => simp [intOf]; omega
      · obtain rfl : i = l.length := by omega
        have HS := hide (show bsV l = bsV (shortV l) by rw [short_all Hne.out Hno.out])
        clear Hno
        generalize bsV l = X at *
        go_wp2
        go_ret
        exact ⟨congrArg (fun b => Ending.returned (.string b)) HS.out, Hb.out⟩
end Go.Proofs.YtpjikbfeegncbaaGreatDoor
