/- Contracts of the reference's Parse and Valid of decimals, and of package 17's reference. -/
import Derived.Test.YtpjikbfeegncbaaGreatDoorVaY
set_option linter.unusedVariables false
set_option linter.unusedSimpArgs false
namespace Go.Proofs.YtpjikbfeegncbaaGreatDoor
open Go.RowKit Go.Shelf Go.Sort

theorem scan_ex {l : List UInt8} {p : Bool × List UInt8 × List UInt8 × Bool × List UInt8} (h : scanV l = some p) : (p.2.1 ++ p.2.2.1).length ≤ 128 ∧ -1000000000 ≤ (p.2.1.length : Int) - 1 + sgnV p.2.2.2.1 (esat 100000 p.2.2.2.2) ∧ (p.2.1.length : Int) - 1 + sgnV p.2.2.2.1 (esat 100000 p.2.2.2.2) ≤ 1000000000 := by
  have h1 := scanV_len h
  have h2 := esat_le p.2.2.2.2
  rw [List.length_append]
  refine ⟨by omega, ?_, ?_⟩
  all_goals
    unfold sgnV
    split <;> omega

set_option maxRecDepth 20000 in
set_option maxHeartbeats 8000000 in
theorem refParse3_any (l : List UInt8) (w : World) (hz : l.length ≤ 1000000) :
    Calls Tryz.prog 35 #[.string (bsV l)] w fun e w' => e = .returned (.tuple #[.string (parseV 100000 l).1, .int .i64 (parseV 100000 l).2]) ∧ Below w.heap.size w w' := by
  have R := hide (refRead_any l w hz)
  have TX := hide (fun (neg : Bool) (d : List UInt8) (e : Int) (W : World) (h : d.length ≤ 1000000) (h0 : -1000000000 ≤ e) (h1 : e ≤ 1000000000) => refText_any neg d e W h h0 h1)
  cases hs : scanV l with
  | none =>
    have hp : parseV 100000 l = (⟨#[]⟩, 3) := by unfold parseV; rw [hs]
    rw [hp]
    rw [hs] at R
    clear hp hs
    go_enter Tryz.func35, Tryz.ntmps35
    go_wp2_with fail
    refine R.out.mono ?_
    rintro e w1 ⟨ng, dg, ex, ok, rfl, _, hno, hb⟩
    obtain rfl := hno rfl
    have Hb := hide (fun o => hb.alloc hb.size o)
    clear hb hno
    go_wp2
    go_ret2
    exact ⟨rfl, Hb.out _⟩
  | some p =>
    have hp : parseV 100000 l = textV p.1 (stripV (p.2.1 ++ p.2.2.1)) ((p.2.1.length : Int) - 1 + sgnV p.2.2.2.1 (esat 100000 p.2.2.2.2) - leadV (p.2.1 ++ p.2.2.1)) := by
      unfold parseV; rw [hs]
      show resV 100000 p = _
      unfold resV
      congr 1
      omega
    obtain ⟨b1, b2, b3⟩ := scan_ex hs
    have T := hide (fun W : World => TX.out p.1 (p.2.1 ++ p.2.2.1) ((p.2.1.length : Int) - 1 + sgnV p.2.2.2.1 (esat 100000 p.2.2.2.2)) W (by omega) b2 b3)
    rw [← hp] at T
    rw [hs] at R
    obtain ⟨⟨r1, r2⟩, hr⟩ : ∃ r, parseV 100000 l = r := ⟨_, rfl⟩
    rw [hr] at T ⊢
    clear hp hs b1 b2 b3 TX hr
    go_enter Tryz.func35, Tryz.ntmps35
    go_wp2_with fail
    refine R.out.mono ?_
    rintro e w1 ⟨ng, dg, ex, ok, rfl, hyes, _, hb⟩
    obtain ⟨rfl, rfl, rfl, rfl⟩ := hyes p rfl
    have Hb := hide (fun o => hb.alloc hb.size o)
    clear hb hyes
    generalize (p.2.1.length : Int) - 1 + sgnV p.2.2.2.1 (esat 100000 p.2.2.2.2) = ex at *
    generalize bsV (p.2.1 ++ p.2.2.1) = dg at *
    go_wp2_with fail
    refine (T.out _).mono ?_
    rintro e w2 ⟨rfl, hb⟩
    have Hb2 := hide ((Hb.out _).trans (hb.mono (Hb.out _).size))
    clear hb
    go_wp2
    go_ret2
    exact ⟨rfl, Hb2.out⟩
set_option maxHeartbeats 4000000 in
theorem refValid3_any (l : List UInt8) (w : World) (hz : l.length ≤ 1000000) :
    Calls Tryz.prog 31 #[.string (bsV l)] w fun e w' => e = .returned (.bool (canV l)) ∧ Below w.heap.size w w' := by
  have P := hide (refParse3_any l w hz)
  have hc := canV_parts l
  obtain ⟨⟨r1, r2⟩, hr⟩ : ∃ r, parseV 100000 l = r := ⟨_, rfl⟩
  rw [hr] at P hc
  have hq := toList_beq r1 (bsV l)
  have HC := hide hc
  clear hr hc
  by_cases h0 : r2 = 0
  · subst h0
    have hv : canV l = (r1.toList == (bsV l).toList) := by rw [HC.out, hq]; rfl
    have HV := hide hv
    clear hv hq
    go_enter Tryz.func31, Tryz.ntmps31
    go_wp2_with fail
    refine P.out.mono ?_
    rintro e w1 ⟨rfl, hb⟩
    have Hb := hide hb
    clear hb
    go_wp2
    go_ret
    exact ⟨ret_b HV.out, Hb.out⟩
  · have h0' : (r2 == 0) = false := beq_eq_false_iff_ne.2 h0
    have HV := hide (show canV l = false by rw [HC.out, decide_eq_false h0]; rfl)
    clear hq h0
    go_enter Tryz.func31, Tryz.ntmps31
    go_wp2_with fail
    refine P.out.mono ?_
    rintro e w1 ⟨rfl, hb⟩
    have Hb := hide hb
    clear hb
    go_wp2
    go_ret
    exact ⟨ret_b HV.out, Hb.out⟩

theorem inK_iff (n wd : Int) : inK n wd = decide ((n = 0 ∧ 1 ≤ wd ∧ wd ≤ 128) ∨ (0 < n ∧ n ≤ 3 ∧ wd = 0)) := by
  unfold inK okW
  by_cases h : 0 ≤ n ∧ n < 4
  · rw [decide_eq_true h, Bool.true_and]
    by_cases h0 : n = 0
    · subst h0
      rw [if_pos (show (0 : Int).toNat = 0 from rfl), decide_eq_decide]; omega
    · rw [if_neg (by omega), decide_eq_decide]; omega
  · rw [decide_eq_false h, Bool.false_and]; symm; apply decide_eq_false; omega
theorem ev_is (l : List UInt8) : valV 1 (l.map lowC) = decide (l.length = 1 ∧ l.all dgB = true) := by
  unfold valV isV
  rw [List.length_map, all_low]
  by_cases h : l.length = 1 ∧ l.all dgB = true
  · rw [decide_eq_true h, h.1, h.2]; rfl
  · rw [decide_eq_false h]
    by_cases h1 : l.length = 1
    · have : l.all dgB = false := by
        cases hq : l.all dgB with
        | false => rfl
        | true => exact absurd ⟨h1, hq⟩ h
      rw [this, Bool.and_false, Bool.false_and]
    · rw [decide_eq_false (show ¬ ((l.length : Int) = 1) by omega), Bool.and_false]
theorem emp_is (l : List UInt8) : decide (l = []) = (bsV l).toList.isEmpty := by
  cases l with
  | nil => exact (show true = (⟨#[]⟩ : ByteArray).toList.isEmpty by decide +kernel)
  | cons c t => rw [(toList_ne (s := bsV (c :: t)) (by rw [bs_size]; simp)).2]; rfl
set_option maxRecDepth 20000 in
set_option maxHeartbeats 8000000 in
theorem refValidType_any (n wd : Int) (w : World) :
    Calls Tryz.prog 11 #[.int .i64 n, .int .i64 wd] w fun e w' => e = .returned (.bool (inK n wd)) ∧ w' = w := by
  have HI := hide (inK_iff n wd)
  by_cases h0 : n = 0
  · subst h0
    by_cases h1 : 1 ≤ wd
    · by_cases h2 : wd ≤ 128
      · have HV := hide (show inK 0 wd = true by rw [HI.out]; exact decide_eq_true (by omega))
        go_enter Tryz.func11, Tryz.ntmps11
        go_wp2
        go_ret
        exact ⟨ret_b HV.out, rfl⟩
      · have HV := hide (show inK 0 wd = false by rw [HI.out]; exact decide_eq_false (by omega))
        go_enter Tryz.func11, Tryz.ntmps11
        go_wp2
        go_ret
        exact ⟨ret_b HV.out, rfl⟩
    · have HV := hide (show inK 0 wd = false by rw [HI.out]; exact decide_eq_false (by omega))
      go_enter Tryz.func11, Tryz.ntmps11
      go_wp2
      go_ret
      exact ⟨ret_b HV.out, rfl⟩
  · have h0' : (n == 0) = false := beq_eq_false_iff_ne.2 h0
    by_cases h1 : 0 < n
    · by_cases h2 : n ≤ 3
      · by_cases h3 : wd = 0
        · have HV := hide (show inK n wd = true by rw [HI.out]; exact decide_eq_true (by omega))
          have h3' : (wd == 0) = true := by rw [h3]; rfl
          clear h3
          go_enter Tryz.func11, Tryz.ntmps11
          go_wp2
          go_ret
          exact ⟨ret_b HV.out, rfl⟩
        · have HV := hide (show inK n wd = false by rw [HI.out]; exact decide_eq_false (by omega))
          have h3' : (wd == 0) = false := beq_eq_false_iff_ne.2 h3
          go_enter Tryz.func11, Tryz.ntmps11
          go_wp2
          go_ret
          exact ⟨ret_b HV.out, rfl⟩
      · have HV := hide (show inK n wd = false by rw [HI.out]; exact decide_eq_false (by omega))
        go_enter Tryz.func11, Tryz.ntmps11
        go_wp2
        go_ret
        exact ⟨ret_b HV.out, rfl⟩
    · have HV := hide (show inK n wd = false by rw [HI.out]; exact decide_eq_false (by omega))
      go_enter Tryz.func11, Tryz.ntmps11
      go_wp2
      go_ret
      exact ⟨ret_b HV.out, rfl⟩
set_option maxRecDepth 20000 in
set_option maxHeartbeats 8000000 in
theorem refValid17_any (n wd : Int) (l : List UInt8) (w : World) (hz : l.length ≤ 1000000) :
    Calls Tryz.prog 13 #[.int .i64 n, .int .i64 wd, .string (bsV l)] w fun e w' => e = .returned (.bool (validN n wd l)) ∧ Below w.heap.size w w' := by
  have T := hide (fun W : World => refValidType_any n wd W)
  cases hk : inK n wd with
  | false =>
    have HV := hide (show validN n wd l = false by unfold validN; rw [hk]; rfl)
    rw [hk] at T
    clear hk
    go_enter Tryz.func13, Tryz.ntmps13
    go_wp2_with fail
    refine (T.out _).mono ?_
    rintro e wz ⟨rfl, rfl⟩
    go_wp2
    go_ret
    exact ⟨ret_b HV.out, Below.refl _ _⟩
  | true =>
    obtain ⟨k, rfl, hk4, ho⟩ := inK_k hk
    have hk5 : k = 0 ∨ k = 1 ∨ k = 2 ∨ k = 3 := by omega
    rw [hk] at T
    rcases hk5 with rfl | rfl | rfl | rfl
    · have HV := hide (show validN ((0 : Nat) : Int) wd l = valV wd l by unfold validN; rw [hk]; rfl)
      clear hk
      have V := hide (fun W : World => refValid2_any wd (bsV l) W (by rw [bs_size]; exact hz))
      rw [bsV_list] at V
      generalize valV wd l = v at *
      go_enter Tryz.func13, Tryz.ntmps13
      go_wp2_with fail
      refine (T.out _).mono ?_
      rintro e wz ⟨rfl, rfl⟩
      go_wp2_with fail
      refine (V.out _).mono ?_
      rintro e wy ⟨rfl, hb⟩
      have Hb := hide hb
      clear hb
      go_wp2
      go_ret
      exact ⟨ret_b HV.out, Hb.out⟩
    · have HV := hide (show validN ((1 : Nat) : Int) wd l = canV l by unfold validN; rw [hk]; rfl)
      clear hk
      have V := hide (fun W : World => refValid3_any l W hz)
      generalize canV l = v at *
      go_enter Tryz.func13, Tryz.ntmps13
      go_wp2_with fail
      refine (T.out _).mono ?_
      rintro e wz ⟨rfl, rfl⟩
      go_wp2_with fail
      refine (V.out _).mono ?_
      rintro e wy ⟨rfl, hb⟩
      have Hb := hide hb
      clear hb
      go_wp2
      go_ret
      exact ⟨ret_b HV.out, Hb.out⟩
    · have HV := hide (show validN ((2 : Nat) : Int) wd l = decide ((l.length : Int) ≤ 64) by unfold validN; rw [hk]; show decide (l.length ≤ 64) = _; rw [decide_eq_decide]; omega)
      clear hk
      have hs := bs_size l
      go_enter Tryz.func13, Tryz.ntmps13
      go_wp2_with fail
      refine (T.out _).mono ?_
      rintro e wz ⟨rfl, rfl⟩
      go_wp2
      go_ret
      exact ⟨ret_b HV.out, Below.refl _ _⟩
    · have HV := hide (show validN ((3 : Nat) : Int) wd l = (bsV l).toList.isEmpty by unfold validN; rw [hk]; exact emp_is l)
      clear hk
      go_enter Tryz.func13, Tryz.ntmps13
      go_wp2_with fail
      refine (T.out _).mono ?_
      rintro e wz ⟨rfl, rfl⟩
      go_wp2
      go_ret
      exact ⟨ret_b HV.out, Below.refl _ _⟩
set_option maxRecDepth 20000 in
set_option maxHeartbeats 8000000 in
theorem refInitial17_any (n wd : Int) (w : World) :
    Calls Tryz.prog 15 #[.int .i64 n, .int .i64 wd] w fun e w' => e = .returned (.string (initN n wd)) ∧ Below w.heap.size w w' := by
  have T := hide (fun W : World => refValidType_any n wd W)
  cases hk : inK n wd with
  | false =>
    have HV := hide (show initN n wd = ⟨#[]⟩ by unfold initN; rw [hk]; rfl)
    rw [hk] at T
    clear hk
    go_enter Tryz.func15, Tryz.ntmps15
    go_wp2_with fail
    refine (T.out _).mono ?_
    rintro e wz ⟨rfl, rfl⟩
    go_wp2
    go_ret
    exact ⟨congrArg (fun b => Ending.returned (.string b)) HV.out.symm, Below.refl _ _⟩
  | true =>
    obtain ⟨k, rfl, hk4, ho⟩ := inK_k hk
    have hk5 : k = 0 ∨ k = 1 ∨ k = 2 ∨ k = 3 := by omega
    rw [hk] at T
    rcases hk5 with rfl | rfl | rfl | rfl
    · have HV := hide (show initN ((0 : Nat) : Int) wd = bsV (allV wd 120) by unfold initN; rw [hk]; rfl)
      clear hk
      have V := hide (fun W : World => refAll_any wd 120 W)
      generalize bsV (allV wd 120) = v at *
      go_enter Tryz.func15, Tryz.ntmps15
      go_wp2_with fail
      refine (T.out _).mono ?_
      rintro e wz ⟨rfl, rfl⟩
      go_wp2_with fail
      refine (V.out _).mono ?_
      rintro e wy ⟨rfl, hb⟩
      have Hb := hide hb
      clear hb
      go_wp2
      go_ret
      exact ⟨congrArg (fun b => Ending.returned (.string b)) HV.out.symm, Hb.out⟩
    · have HV := hide (show initN ((1 : Nat) : Int) wd = ⟨#[48]⟩ by unfold initN; rw [hk]; rfl)
      clear hk
      go_enter Tryz.func15, Tryz.ntmps15
      go_wp2_with fail
      refine (T.out _).mono ?_
      rintro e wz ⟨rfl, rfl⟩
      go_wp2
      go_ret
      exact ⟨congrArg (fun b => Ending.returned (.string b)) HV.out.symm, Below.refl _ _⟩
    · have HV := hide (show initN ((2 : Nat) : Int) wd = ⟨#[]⟩ by unfold initN; rw [hk]; rfl)
      clear hk
      go_enter Tryz.func15, Tryz.ntmps15
      go_wp2_with fail
      refine (T.out _).mono ?_
      rintro e wz ⟨rfl, rfl⟩
      go_wp2
      go_ret
      exact ⟨congrArg (fun b => Ending.returned (.string b)) HV.out.symm, Below.refl _ _⟩
    · have HV := hide (show initN ((3 : Nat) : Int) wd = ⟨#[]⟩ by unfold initN; rw [hk]; rfl)
      clear hk
      go_enter Tryz.func15, Tryz.ntmps15
      go_wp2_with fail
      refine (T.out _).mono ?_
      rintro e wz ⟨rfl, rfl⟩
      go_wp2
      go_ret
      exact ⟨congrArg (fun b => Ending.returned (.string b)) HV.out.symm, Below.refl _ _⟩
set_option maxRecDepth 20000 in
set_option maxHeartbeats 8000000 in
theorem refParse17_any (n wd : Int) (l : List UInt8) (w : World) (hz : l.length ≤ 1000000) :
    Calls Tryz.prog 17 #[.int .i64 n, .int .i64 wd, .string (bsV l)] w fun e w' => e = .returned (.tuple #[.string (parseN n wd l).1, .int .i64 (parseN n wd l).2]) ∧ Below w.heap.size w w' := by
  have T := hide (fun W : World => refValidType_any n wd W)
  cases hk : inK n wd with
  | false =>
    have HV := hide (show parseN n wd l = (⟨#[]⟩, 7) by unfold parseN; rw [hk]; rfl)
    rw [hk] at T
    clear hk
    go_enter Tryz.func17, Tryz.ntmps17
    go_wp2_with fail
    refine (T.out _).mono ?_
    rintro e wz ⟨rfl, rfl⟩
    go_wp2
    go_ret2
    exact ⟨ret_pair (congrArg Prod.fst HV.out).symm (congrArg Prod.snd HV.out).symm, Below.refl _ _⟩
  | true =>
    obtain ⟨k, rfl, hk4, ho⟩ := inK_k hk
    have hk5 : k = 0 ∨ k = 1 ∨ k = 2 ∨ k = 3 := by omega
    rw [hk] at T
    rcases hk5 with rfl | rfl | rfl | rfl
    · have HV := hide (show parseN ((0 : Nat) : Int) wd l = (bsV (bitsV wd l).1, (bitsV wd l).2) by unfold parseN; rw [hk]; rfl)
      clear hk
      have L := hide (fun W : World => refLower_any l W hz)
      have V := hide (fun W : World => refExtend_any wd (l.map lowC) W (by rw [List.length_map]; exact hz))
      rw [show extendV wd (l.map lowC) = bitsV wd l from rfl] at V
      generalize bitsV wd l = r at *
      obtain ⟨r1, r2⟩ := r
      go_enter Tryz.func17, Tryz.ntmps17
      go_wp2_with fail
      refine (T.out _).mono ?_
      rintro e wz ⟨rfl, rfl⟩
      go_wp2_with fail
      refine (L.out _).mono ?_
      rintro e wz ⟨rfl, rfl⟩
      go_wp2_with fail
      refine (V.out _).mono ?_
      rintro e wy ⟨rfl, hb⟩
      have Hb := hide hb
      clear hb
      go_wp2
      go_ret2
      exact ⟨ret_pair (congrArg Prod.fst HV.out).symm (congrArg Prod.snd HV.out).symm, Hb.out⟩
    · have HV := hide (show parseN ((1 : Nat) : Int) wd l = parseV 100000 l by unfold parseN; rw [hk]; rfl)
      clear hk
      have V := hide (fun W : World => refParse3_any l W hz)
      generalize parseV 100000 l = r at *
      obtain ⟨r1, r2⟩ := r
      go_enter Tryz.func17, Tryz.ntmps17
      go_wp2_with fail
      refine (T.out _).mono ?_
      rintro e wz ⟨rfl, rfl⟩
      go_wp2_with fail
      refine (V.out _).mono ?_
      rintro e wy ⟨rfl, hb⟩
      have Hb := hide hb
      clear hb
      go_wp2
      go_ret2
      exact ⟨ret_pair (congrArg Prod.fst HV.out).symm (congrArg Prod.snd HV.out).symm, Hb.out⟩
    · have HV := hide (show parseN ((2 : Nat) : Int) wd l = unqRes l by unfold parseN; rw [hk]; rfl)
      clear hk
      have V := hide (fun W : World => refUnquote_any (bsV l) W (by rw [bs_size]; omega))
      rw [bsV_list] at V
      generalize unqRes l = r at *
      obtain ⟨r1, r2⟩ := r
      go_enter Tryz.func17, Tryz.ntmps17
      go_wp2_with fail
      refine (T.out _).mono ?_
      rintro e wz ⟨rfl, rfl⟩
      go_wp2_with fail
      refine (V.out _).mono ?_
      rintro e wy ⟨rfl, hb⟩
      have Hb := hide hb
      clear hb
      go_wp2
      go_ret2
      exact ⟨ret_pair (congrArg Prod.fst HV.out).symm (congrArg Prod.snd HV.out).symm, Hb.out⟩
    · skip
      have L := hide (fun W : World => refLower_any l W hz)
      have V := hide (fun W : World => refValid2_any 1 (bsV (l.map lowC)) W (by rw [bs_size, List.length_map]; exact hz))
      rw [bsV_list, ev_is l] at V
      by_cases hq : l.length = 1 ∧ l.all dgB = true
      · have HV := hide (show parseN ((3 : Nat) : Int) wd l = (⟨#[]⟩, 0) by unfold parseN; rw [hk]; show ((⟨#[]⟩ : ByteArray), if l.length = 1 ∧ l.all dgB = true then (0 : Int) else 3) = _; rw [if_pos hq])
        rw [decide_eq_true hq] at V
        clear hk hq
        go_enter Tryz.func17, Tryz.ntmps17
        go_wp2_with fail
        refine (T.out _).mono ?_
        rintro e wz ⟨rfl, rfl⟩
        go_wp2_with fail
        refine (L.out _).mono ?_
        rintro e wz ⟨rfl, rfl⟩
        go_wp2_with fail
        refine (V.out _).mono ?_
        rintro e wy ⟨rfl, hb⟩
        have Hb := hide hb
        clear hb
        go_wp2
        go_ret2
        exact ⟨ret_pair (congrArg Prod.fst HV.out).symm (congrArg Prod.snd HV.out).symm, Hb.out⟩
      · have HV := hide (show parseN ((3 : Nat) : Int) wd l = (⟨#[]⟩, 3) by unfold parseN; rw [hk]; show ((⟨#[]⟩ : ByteArray), if l.length = 1 ∧ l.all dgB = true then (0 : Int) else 3) = _; rw [if_neg hq])
        rw [decide_eq_false hq] at V
        clear hk hq
        go_enter Tryz.func17, Tryz.ntmps17
        go_wp2_with fail
        refine (T.out _).mono ?_
        rintro e wz ⟨rfl, rfl⟩
        go_wp2_with fail
        refine (L.out _).mono ?_
        rintro e wz ⟨rfl, rfl⟩
        go_wp2_with fail
        refine (V.out _).mono ?_
        rintro e wy ⟨rfl, hb⟩
        have Hb := hide hb
        clear hb
        go_wp2
        go_ret2
        exact ⟨ret_pair (congrArg Prod.fst HV.out).symm (congrArg Prod.snd HV.out).symm, Hb.out⟩
set_option maxRecDepth 20000 in
set_option maxHeartbeats 8000000 in
theorem refFormat17_any (n wd : Int) (l : List UInt8) (w : World) (hz : l.length ≤ 1000000) :
    Calls Tryz.prog 19 #[.int .i64 n, .int .i64 wd, .string (bsV l)] w fun e w' => e = .returned (.string (bsV (formatN n wd l))) ∧ Below w.heap.size w w' := by
  have T := hide (fun W : World => refValid17_any n wd l W hz)
  cases hk : validN n wd l with
  | false =>
    have HV := hide (show bsV (formatN n wd l) = ⟨#[]⟩ by unfold formatN; rw [hk]; rfl)
    rw [hk] at T
    clear hk
    go_enter Tryz.func19, Tryz.ntmps19
    go_wp2_with fail
    refine (T.out _).mono ?_
    rintro e wx ⟨rfl, hbx⟩
    have Hx := hide hbx
    clear hbx
    go_wp2
    go_ret
    exact ⟨congrArg (fun b => Ending.returned (.string b)) HV.out.symm, Hx.out⟩
  | true =>
    obtain ⟨k, rfl, hk4, ho⟩ := inK_k (validN_k hk).1
    have hk5 : k = 0 ∨ k = 1 ∨ k = 2 ∨ k = 3 := by omega
    rw [hk] at T
    rcases hk5 with rfl | rfl | rfl | rfl
    · have HV := hide (show bsV (formatN ((0 : Nat) : Int) wd l) = bsV (if isV l then shortV l else []) by unfold formatN; rw [hk]; rfl)
      clear hk
      have V := hide (fun W : World => refShorten_any l W hz)
      generalize bsV (if isV l then shortV l else []) = v at *
      go_enter Tryz.func19, Tryz.ntmps19
      go_wp2_with fail
      refine (T.out _).mono ?_
      rintro e wx ⟨rfl, hbx⟩
      have Hx := hide hbx
      clear hbx
      go_wp2_with fail
      refine (V.out _).mono ?_
      rintro e wy ⟨rfl, hb⟩
      have Hb := hide (Hx.out.trans (hb.mono Hx.out.size))
      clear hb
      go_wp2
      go_ret
      exact ⟨congrArg (fun b => Ending.returned (.string b)) HV.out.symm, Hb.out⟩
    · have HV := hide (show bsV (formatN ((1 : Nat) : Int) wd l) = bsV l by unfold formatN; rw [hk]; rfl)
      clear hk
      go_enter Tryz.func19, Tryz.ntmps19
      go_wp2_with fail
      refine (T.out _).mono ?_
      rintro e wx ⟨rfl, hbx⟩
      have Hx := hide hbx
      clear hbx
      go_wp2
      go_ret
      exact ⟨congrArg (fun b => Ending.returned (.string b)) HV.out.symm, Hx.out⟩
    · have HV := hide (show bsV (formatN ((2 : Nat) : Int) wd l) = bsV (quoteL l) by unfold formatN; rw [hk]; rfl)
      clear hk
      have V := hide (fun W : World => refQuote_any (bsV l) W (by rw [bs_size]; omega))
      rw [bsV_list, show (⟨(quoteL l).toArray⟩ : ByteArray) = bsV (quoteL l) from rfl] at V
      generalize bsV (quoteL l) = v at *
      go_enter Tryz.func19, Tryz.ntmps19
      go_wp2_with fail
      refine (T.out _).mono ?_
      rintro e wx ⟨rfl, hbx⟩
      have Hx := hide hbx
      clear hbx
      go_wp2_with fail
      refine (V.out _).mono ?_
      rintro e wy ⟨rfl, hb⟩
      have Hb := hide (Hx.out.trans (hb.mono Hx.out.size))
      clear hb
      go_wp2
      go_ret
      exact ⟨congrArg (fun b => Ending.returned (.string b)) HV.out.symm, Hb.out⟩
    · have HV := hide (show bsV (formatN ((3 : Nat) : Int) wd l) = ⟨#[49]⟩ by unfold formatN; rw [hk]; rfl)
      clear hk
      go_enter Tryz.func19, Tryz.ntmps19
      go_wp2_with fail
      refine (T.out _).mono ?_
      rintro e wx ⟨rfl, hbx⟩
      have Hx := hide hbx
      clear hbx
      go_wp2
      go_ret
      exact ⟨congrArg (fun b => Ending.returned (.string b)) HV.out.symm, Hx.out⟩
end Go.Proofs.YtpjikbfeegncbaaGreatDoor
