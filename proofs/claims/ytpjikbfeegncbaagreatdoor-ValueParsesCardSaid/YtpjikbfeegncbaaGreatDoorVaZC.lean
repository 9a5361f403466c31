/- Contracts of the reference's ValidCode and Command. -/
import Derived.Test.YtpjikbfeegncbaaGreatDoorVaZ
set_option linter.unusedVariables false
set_option linter.unusedSimpArgs false
namespace Go.Proofs.YtpjikbfeegncbaaGreatDoor
open Go.RowKit Go.Shelf Go.Sort
set_option maxRecDepth 20000 in
set_option maxHeartbeats 4000000 in
theorem refCode_any (l : List UInt8) (w : World) (hz : l.length ≤ 1000000) :
    Calls Tryz.prog 40 #[.string (bsV l)] w fun e w' => e = .returned (.bool (codeV l)) ∧ w' = w := by
  have hsz := bs_size l
  go_enter Tryz.func40, Tryz.ntmps40
  go_wp2
  go_loopw [3] (fun v wr => ∃ i : Nat, v = .int .i64 i ∧ i ≤ l.length ∧ allPr (l.take i) = true ∧ wr = w) (fun v _ => l.length - (intOf v).toNat)
  case atStart => exact ⟨0, rfl, Nat.zero_le _, rfl, rfl⟩
  case round =>
    obtain ⟨i, rfl, hi, hp, rfl⟩ := hrel
    by_cases hlt : i < l.length
    · have hi2 : i < (bsV l).size := by rw [hsz]; exact hlt
      have hget := bs_get l i hi2
      obtain ⟨c, hc⟩ : ∃ c, (bsV l)[i]'hi2 = c := ⟨_, rfl⟩
      have hcl : l[i]'hlt = c := hget.symm.trans hc
      have Hp := hide hp
      clear hp hget
      have PR := hide (fun W : World => refPrintable_u8 c W)
      cases hpr : prB c with
      | true =>
        have hpq := hpr
        have Hr := hide (show allPr (l.take (i + 1)) = true by rw [allPr_take l i hlt, Hp.out, hcl, hpr]; rfl)
        clear hpr hcl
        rw [hpq] at PR
        clear hpq
        have Hc := hide hc
        clear hc
        go_wp2_with fail
        rw [Hc.out]
        refine (PR.out _).mono ?_
        rintro e wx ⟨rfl, rfl⟩
        go_wp2
        go_roundw
        case rel => exact ⟨i + 1, by go_num, by omega, Hr.out, by trivial⟩
        case measure => simp [intOf]; omega
      | false =>
        have hpq := hpr
        have hh := prB_false hpr
        have Hv := hide (codeV_bad i hlt (by rw [hcl]; exact hpr))
        clear hpr hcl
        rw [hpq] at PR
        clear hpq hh
        have Hc := hide hc
        clear hc
        go_wp2_with fail
        rw [Hc.out]
        refine (PR.out _).mono ?_
        rintro e wx ⟨rfl, rfl⟩
        go_wp2
        go_ret
        exact ⟨ret_b Hv.out, rfl⟩
    · obtain rfl : i = l.length := by omega
      rw [List.take_length] at hp
      have hv : codeV l = (decide (l ≠ []) && decide (l.length ≤ 8) && decide (l ≠ [36, 101, 110, 100])) := by unfold codeV; rw [hp, Bool.true_and]
      by_cases hne : l = []
      · have Hv := hide (show codeV l = false by rw [hv, decide_eq_false (fun h => h hne)]; rfl)
        have e2 : (bsV l).toList.isEmpty = true := by rw [hne]; decide +kernel
        have e1 : (bsV l).toList = [] := List.isEmpty_iff.1 e2
        have hge : ¬ (1 : Int) ≤ (l.length : Int) := by rw [hne]; simp
        clear hp hv hne
        go_wp2
        go_ret
        exact ⟨ret_b Hv.out, rfl⟩
      · have hlen : 0 < l.length := List.length_pos_iff.2 hne
        have hge : (1 : Int) ≤ (l.length : Int) := by omega
        obtain ⟨e1, e2⟩ := toList_ne (s := bsV l) (by rw [hsz]; exact hlen)
        have hb4 : ((bsV l).toList == [36, 101, 110, 100]) = decide (l = [36, 101, 110, 100]) := by
          rw [show ([36, 101, 110, 100] : List UInt8) = (⟨#[36, 101, 110, 100]⟩ : ByteArray).toList from by decide +kernel, toList_beq]
          rw [show (⟨#[36, 101, 110, 100]⟩ : ByteArray).toList = [36, 101, 110, 100] from by decide +kernel]
          congr 1
          rw [eq_iff_iff]
          exact ⟨fun h => by have := congrArg (fun b : ByteArray => b.data.toList) h; simpa [bsV_list] using this, fun h => by rw [h]; rfl⟩
        by_cases h8 : l.length ≤ 8
        · have h8' : ((l.length : Int) ≤ 8) = True := by simp; omega
          cases h4 : decide (l = [36, 101, 110, 100]) with
          | true =>
            rw [h4] at hb4
            have Hv := hide (show codeV l = false by rw [hv, of_decide_eq_true h4]; rfl)
            clear hv h4 hp
            go_wp2
            go_ret
            exact ⟨ret_b Hv.out, rfl⟩
          | false =>
            rw [h4] at hb4
            have Hv := hide (show codeV l = true by rw [hv, decide_eq_true hne, decide_eq_true h8, decide_eq_true (of_decide_eq_false h4)]; rfl)
            clear hv h4 hp
            go_wp2
            go_ret
            exact ⟨ret_b Hv.out, rfl⟩
        · have Hv := hide (show codeV l = false by rw [hv, decide_eq_false h8, Bool.and_false, Bool.false_and])
          have h8' : ¬ ((l.length : Int) ≤ 8) := by omega
          clear hv hp
          go_wp2
          go_ret
          exact ⟨ret_b Hv.out, rfl⟩

set_option maxRecDepth 20000 in
set_option maxHeartbeats 8000000 in
theorem refCommand_bad (n wd : Int) (l id : List UInt8) (w : World) (hz : l.length ≤ 1000000) (hi : id.length ≤ 1000000) (hv : validN n wd l = false) :
    Calls Tryz.prog 21 #[.int .i64 n, .int .i64 wd, .string (bsV l), .string (bsV id)] w fun e w' => e = .returned (.string (bsV (commandN n wd l id))) ∧ Below w.heap.size w w' := by
  have V := hide (fun W : World => refValid17_any n wd l W hz)
  have CO := hide (fun W : World => refCode_any id W hi)
  have HV := hide (show bsV (commandN n wd l id) = ⟨#[]⟩ by unfold commandN; rw [hv]; rfl)
  rw [hv] at V
  clear hv
  go_enter Tryz.func21, Tryz.ntmps21
  go_wp2_with fail
  refine (V.out _).mono ?_
  rintro e w1 ⟨rfl, hb⟩
  have H1 := hide hb
  clear hb
  go_wp2
  go_ret
  exact ⟨congrArg (fun b => Ending.returned (.string b)) HV.out.symm, H1.out⟩
set_option maxRecDepth 20000 in
set_option maxHeartbeats 8000000 in
theorem refCommand_code (n wd : Int) (l id : List UInt8) (w : World) (hz : l.length ≤ 1000000) (hi : id.length ≤ 1000000) (hv : validN n wd l = true) (hc : codeV id = false) :
    Calls Tryz.prog 21 #[.int .i64 n, .int .i64 wd, .string (bsV l), .string (bsV id)] w fun e w' => e = .returned (.string (bsV (commandN n wd l id))) ∧ Below w.heap.size w w' := by
  have V := hide (fun W : World => refValid17_any n wd l W hz)
  have CO := hide (fun W : World => refCode_any id W hi)
  have HV := hide (show bsV (commandN n wd l id) = ⟨#[]⟩ by unfold commandN; rw [hv, hc]; rfl)
  rw [hv] at V
  rw [hc] at CO
  clear hv hc
  go_enter Tryz.func21, Tryz.ntmps21
  go_wp2_with fail
  refine (V.out _).mono ?_
  rintro e w1 ⟨rfl, hb⟩
  have H1 := hide hb
  clear hb
  go_wp2_with fail
  refine (CO.out _).mono ?_
  rintro e wz ⟨rfl, rfl⟩
  go_wp2
  go_ret
  exact ⟨congrArg (fun b => Ending.returned (.string b)) HV.out.symm, H1.out⟩
set_option maxRecDepth 20000 in
set_option maxHeartbeats 8000000 in
theorem refCommand_01 (l id : List UInt8) (w : World) (hz : l.length ≤ 1000000) (hi : id.length ≤ 1000000) (hv : validN 0 1 l = true) (hc : codeV id = true) :
    Calls Tryz.prog 21 #[.int .i64 0, .int .i64 1, .string (bsV l), .string (bsV id)] w fun e w' => e = .returned (.string (bsV (commandN 0 1 l id))) ∧ Below w.heap.size w w' := by
  have V := hide (fun W : World => refValid17_any 0 1 l W hz)
  have CO := hide (fun W : World => refCode_any id W hi)
  have hl1 : formatK 0 l = l := by
    have hvv : valV 1 l = true := (validN_k hv).2
    have := (valV_iff (w := 1) (l := l)).1 hvv
    show (if isV l then shortV l else []) = l
    rw [if_pos (isV_of_val hvv)]
    match l, this.2.2.2 with
    | [c], _ => rfl
  have HV := hide (show bsV (commandN 0 1 l id) = bsV (l ++ id) by
    unfold commandN
    rw [hv, hc, if_pos (by rfl), if_pos (.inr ⟨rfl, rfl⟩), show (0 : Int).toNat = 0 from rfl, hl1])
  have ha := fun W => run_add l id (by omega) (by omega) W
  rw [hv] at V
  rw [hc] at CO
  generalize bsV (l ++ id) = Y at *
  clear hl1 hv hc
  go_enter Tryz.func21, Tryz.ntmps21
  go_wp2_with fail
  refine (V.out _).mono ?_
  rintro e w1 ⟨rfl, hb⟩
  have H1 := hide hb
  clear hb
  go_wp2_with fail
  refine (CO.out _).mono ?_
  rintro e wz ⟨rfl, rfl⟩
  go_wp2
  go_ret
  exact ⟨congrArg (fun b => Ending.returned (.string b)) HV.out.symm, H1.out⟩
set_option maxRecDepth 20000 in
set_option maxHeartbeats 8000000 in
theorem refCommand_0 (wd : Int) (l id : List UInt8) (w : World) (hz : l.length ≤ 1000000) (hi : id.length ≤ 1000000) (hv : validN 0 wd l = true) (hc : codeV id = true) (h1 : wd ≠ 1) :
    Calls Tryz.prog 21 #[.int .i64 0, .int .i64 wd, .string (bsV l), .string (bsV id)] w fun e w' => e = .returned (.string (bsV (commandN 0 wd l id))) ∧ Below w.heap.size w w' := by
  have V := hide (fun W : World => refValid17_any 0 wd l W hz)
  have CO := hide (fun W : World => refCode_any id W hi)
  have FO := hide (fun W : World => refFormat17_any 0 wd l W hz)
  have hff : formatN 0 wd l = formatK 0 l := by unfold formatN; rw [hv, if_pos rfl]; rfl
  have hfl := formatK_len 0 l
  rw [hff] at FO
  have HV := hide (show bsV (commandN 0 wd l id) = bsV (98 :: formatK 0 l ++ [32] ++ id) by
    unfold commandN
    rw [hv, hc, if_pos (by rfl), if_neg (by rintro (h | h); omega; exact h1 h.2)]; rfl)
  rw [hv] at V
  rw [hc] at CO
  have h1 : (wd == 1) = false := beq_eq_false_iff_ne.2 h1
  generalize formatK 0 l = T at *
  have ha1 : ∀ W, (Op.stringOp .add ⟨#[98]⟩ (bsV T)).run Tryz.prog W = .ok (.string (bsV (98 :: T))) W := fun W => run_add [98] T (by simp) (by omega) W
  have ha2 : ∀ W, (Op.stringOp .add (bsV (98 :: T)) ⟨#[32]⟩).run Tryz.prog W = .ok (.string (bsV (98 :: T ++ [32]))) W := fun W => run_add (98 :: T) [32] (by simp only [List.length_cons]; omega) (by simp) W
  have ha3 : ∀ W, (Op.stringOp .add (bsV (98 :: T ++ [32])) (bsV id)).run Tryz.prog W = .ok (.string (bsV (98 :: T ++ [32] ++ id))) W := fun W => run_add (98 :: T ++ [32]) id (by simp only [List.length_append, List.length_cons, List.length_nil]; omega) (by omega) W
  generalize bsV (98 :: T ++ [32] ++ id) = Y at *
  generalize bsV (98 :: T ++ [32]) = Y2 at *
  generalize bsV (98 :: T) = Y3 at *
  generalize bsV T = Y4 at *
  clear hff hfl hv hc
  go_enter Tryz.func21, Tryz.ntmps21
  go_wp2_with fail
  refine (V.out _).mono ?_
  rintro e w1 ⟨rfl, hb⟩
  have H1 := hide hb
  clear hb
  go_wp2_with fail
  refine (CO.out _).mono ?_
  rintro e wz ⟨rfl, rfl⟩
  go_wp2_with fail
  refine (FO.out _).mono ?_
  rintro e w2 ⟨rfl, hb⟩
  have H2 := hide (H1.out.trans (hb.mono H1.out.size))
  clear hb
  go_wp2
  go_ret
  exact ⟨congrArg (fun b => Ending.returned (.string b)) HV.out.symm, H2.out⟩
set_option maxRecDepth 20000 in
set_option maxHeartbeats 8000000 in
theorem refCommand_1 (l id : List UInt8) (w : World) (hz : l.length ≤ 1000000) (hi : id.length ≤ 1000000) (hv : validN 1 0 l = true) (hc : codeV id = true)  :
    Calls Tryz.prog 21 #[.int .i64 1, .int .i64 0, .string (bsV l), .string (bsV id)] w fun e w' => e = .returned (.string (bsV (commandN 1 0 l id))) ∧ Below w.heap.size w w' := by
  have V := hide (fun W : World => refValid17_any 1 0 l W hz)
  have CO := hide (fun W : World => refCode_any id W hi)
  have FO := hide (fun W : World => refFormat17_any 1 0 l W hz)
  have hff : formatN 1 0 l = formatK 1 l := by unfold formatN; rw [hv, if_pos rfl]; rfl
  have hfl := formatK_len 1 l
  rw [hff] at FO
  have HV := hide (show bsV (commandN 1 0 l id) = bsV (114 :: formatK 1 l ++ [32] ++ id) by
    unfold commandN
    rw [hv, hc, if_pos (by rfl), if_neg (by omega)]; rfl)
  rw [hv] at V
  rw [hc] at CO
  skip
  generalize formatK 1 l = T at *
  have ha1 : ∀ W, (Op.stringOp .add ⟨#[114]⟩ (bsV T)).run Tryz.prog W = .ok (.string (bsV (114 :: T))) W := fun W => run_add [114] T (by simp) (by omega) W
  have ha2 : ∀ W, (Op.stringOp .add (bsV (114 :: T)) ⟨#[32]⟩).run Tryz.prog W = .ok (.string (bsV (114 :: T ++ [32]))) W := fun W => run_add (114 :: T) [32] (by simp only [List.length_cons]; omega) (by simp) W
  have ha3 : ∀ W, (Op.stringOp .add (bsV (114 :: T ++ [32])) (bsV id)).run Tryz.prog W = .ok (.string (bsV (114 :: T ++ [32] ++ id))) W := fun W => run_add (114 :: T ++ [32]) id (by simp only [List.length_append, List.length_cons, List.length_nil]; omega) (by omega) W
  generalize bsV (114 :: T ++ [32] ++ id) = Y at *
  generalize bsV (114 :: T ++ [32]) = Y2 at *
  generalize bsV (114 :: T) = Y3 at *
  generalize bsV T = Y4 at *
  clear hff hfl hv hc
  go_enter Tryz.func21, Tryz.ntmps21
  go_wp2_with fail
  refine (V.out _).mono ?_
  rintro e w1 ⟨rfl, hb⟩
  have H1 := hide hb
  clear hb
  go_wp2_with fail
  refine (CO.out _).mono ?_
  rintro e wz ⟨rfl, rfl⟩
  go_wp2_with fail
  refine (FO.out _).mono ?_
  rintro e w2 ⟨rfl, hb⟩
  have H2 := hide (H1.out.trans (hb.mono H1.out.size))
  clear hb
  go_wp2
  go_ret
  exact ⟨congrArg (fun b => Ending.returned (.string b)) HV.out.symm, H2.out⟩
set_option maxRecDepth 20000 in
set_option maxHeartbeats 8000000 in
theorem refCommand_2 (l id : List UInt8) (w : World) (hz : l.length ≤ 1000000) (hi : id.length ≤ 1000000) (hv : validN 2 0 l = true) (hc : codeV id = true)  :
    Calls Tryz.prog 21 #[.int .i64 2, .int .i64 0, .string (bsV l), .string (bsV id)] w fun e w' => e = .returned (.string (bsV (commandN 2 0 l id))) ∧ Below w.heap.size w w' := by
  have V := hide (fun W : World => refValid17_any 2 0 l W hz)
  have CO := hide (fun W : World => refCode_any id W hi)
  have FO := hide (fun W : World => refFormat17_any 2 0 l W hz)
  have hff : formatN 2 0 l = formatK 2 l := by unfold formatN; rw [hv, if_pos rfl]; rfl
  have hfl := formatK_len 2 l
  rw [hff] at FO
  have HV := hide (show bsV (commandN 2 0 l id) = bsV (115 :: formatK 2 l ++ [32] ++ id) by
    unfold commandN
    rw [hv, hc, if_pos (by rfl), if_neg (by omega)]; rfl)
  rw [hv] at V
  rw [hc] at CO
  skip
  generalize formatK 2 l = T at *
  have ha1 : ∀ W, (Op.stringOp .add ⟨#[115]⟩ (bsV T)).run Tryz.prog W = .ok (.string (bsV (115 :: T))) W := fun W => run_add [115] T (by simp) (by omega) W
  have ha2 : ∀ W, (Op.stringOp .add (bsV (115 :: T)) ⟨#[32]⟩).run Tryz.prog W = .ok (.string (bsV (115 :: T ++ [32]))) W := fun W => run_add (115 :: T) [32] (by simp only [List.length_cons]; omega) (by simp) W
  have ha3 : ∀ W, (Op.stringOp .add (bsV (115 :: T ++ [32])) (bsV id)).run Tryz.prog W = .ok (.string (bsV (115 :: T ++ [32] ++ id))) W := fun W => run_add (115 :: T ++ [32]) id (by simp only [List.length_append, List.length_cons, List.length_nil]; omega) (by omega) W
  generalize bsV (115 :: T ++ [32] ++ id) = Y at *
  generalize bsV (115 :: T ++ [32]) = Y2 at *
  generalize bsV (115 :: T) = Y3 at *
  generalize bsV T = Y4 at *
  clear hff hfl hv hc
  go_enter Tryz.func21, Tryz.ntmps21
  go_wp2_with fail
  refine (V.out _).mono ?_
  rintro e w1 ⟨rfl, hb⟩
  have H1 := hide hb
  clear hb
  go_wp2_with fail
  refine (CO.out _).mono ?_
  rintro e wz ⟨rfl, rfl⟩
  go_wp2_with fail
  refine (FO.out _).mono ?_
  rintro e w2 ⟨rfl, hb⟩
  have H2 := hide (H1.out.trans (hb.mono H1.out.size))
  clear hb
  go_wp2
  go_ret
  exact ⟨congrArg (fun b => Ending.returned (.string b)) HV.out.symm, H2.out⟩
set_option maxRecDepth 20000 in
set_option maxHeartbeats 8000000 in
theorem refCommand_3 (l id : List UInt8) (w : World) (hz : l.length ≤ 1000000) (hi : id.length ≤ 1000000) (hv : validN 3 0 l = true) (hc : codeV id = true) :
    Calls Tryz.prog 21 #[.int .i64 3, .int .i64 0, .string (bsV l), .string (bsV id)] w fun e w' => e = .returned (.string (bsV (commandN 3 0 l id))) ∧ Below w.heap.size w w' := by
  have V := hide (fun W : World => refValid17_any 3 0 l W hz)
  have CO := hide (fun W : World => refCode_any id W hi)
  have HV := hide (show bsV (commandN 3 0 l id) = bsV (49 :: id) by
    unfold commandN
    rw [hv, hc, if_pos (by rfl), if_pos (.inl rfl)]; rfl)
  have ha1 : ∀ W, (Op.stringOp .add ⟨#[49]⟩ (bsV id)).run Tryz.prog W = .ok (.string (bsV (49 :: id))) W := fun W => run_add [49] id (by simp) (by omega) W
  rw [hv] at V
  rw [hc] at CO
  generalize bsV (49 :: id) = Y at *
  clear hv hc
  go_enter Tryz.func21, Tryz.ntmps21
  go_wp2_with fail
  refine (V.out _).mono ?_
  rintro e w1 ⟨rfl, hb⟩
  have H1 := hide hb
  clear hb
  go_wp2_with fail
  refine (CO.out _).mono ?_
  rintro e wz ⟨rfl, rfl⟩
  go_wp2
  go_ret
  exact ⟨congrArg (fun b => Ending.returned (.string b)) HV.out.symm, H1.out⟩
theorem okW_other {k : Nat} {wd : Int} (h0 : k ≠ 0) (h : okW k wd = true) : wd = 0 := by
  unfold okW at h; rw [if_neg h0] at h; exact of_decide_eq_true h
theorem refCommand_any (n wd : Int) (l id : List UInt8) (w : World) (hz : l.length ≤ 1000000) (hi : id.length ≤ 1000000) :
    Calls Tryz.prog 21 #[.int .i64 n, .int .i64 wd, .string (bsV l), .string (bsV id)] w fun e w' => e = .returned (.string (bsV (commandN n wd l id))) ∧ Below w.heap.size w w' := by
  cases hv : validN n wd l with
  | false => exact refCommand_bad n wd l id w hz hi hv
  | true =>
    cases hc : codeV id with
    | false => exact refCommand_code n wd l id w hz hi hv hc
    | true =>
      obtain ⟨k, rfl, hk, ho⟩ := inK_k (validN_k hv).1
      have hk5 : k = 0 ∨ k = 1 ∨ k = 2 ∨ k = 3 := by omega
      rcases hk5 with rfl | rfl | rfl | rfl
      · by_cases h1 : wd = 1
        · subst h1; exact refCommand_01 l id w hz hi hv hc
        · exact refCommand_0 wd l id w hz hi hv hc h1
      · obtain rfl := okW_other (by decide) ho
        exact refCommand_1 l id w hz hi hv hc
      · obtain rfl := okW_other (by decide) ho
        exact refCommand_2 l id w hz hi hv hc
      · obtain rfl := okW_other (by decide) ho
        exact refCommand_3 l id w hz hi hv hc
end Go.Proofs.YtpjikbfeegncbaaGreatDoor
