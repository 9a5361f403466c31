/- Contracts of value's code and Command. -/
import Derived.Test.YtpjikbfeegncbaaGreatDoorVaO
import Derived.Lib.QuietBelow
set_option linter.unusedVariables false
set_option linter.unusedSimpArgs false
namespace Go.Proofs.YtpjikbfeegncbaaGreatDoor
open Go.RowKit Go.Shelf Go.Sort

/-- is it an identifier code -/
def codeV (l : List UInt8) : Bool := allPr l && decide (l ≠ []) && decide (l.length ≤ 8) && decide (l ≠ [36, 101, 110, 100])
theorem allPr_take (l : List UInt8) (i : Nat) (h : i < l.length) : allPr (l.take (i + 1)) = (allPr (l.take i) && prB l[i]) := by
  unfold allPr
  rw [List.take_add_one, List.getElem?_eq_getElem h, List.all_append]
  simp
theorem codeV_bad {l : List UInt8} (i : Nat) (h : i < l.length) (hp : prB l[i] = false) : codeV l = false := by
  have : allPr l = false := by
    unfold allPr
    rw [List.all_eq_false]
    exact ⟨l[i], List.getElem_mem h, by rw [hp]; decide⟩
  unfold codeV; rw [this]; rfl

set_option maxRecDepth 20000 in
set_option maxHeartbeats 4000000 in
theorem code_any (l : List UInt8) (w : World) (hz : l.length ≤ 1000000) :
    Calls Tryz.prog 39 #[.string (bsV l)] w fun e w' => e = .returned (.bool (codeV l)) ∧ w' = w := by
  have hsz := bs_size l
  go_enter Tryz.func39, Tryz.ntmps39
  go_wp2
  go_loopw [6] (fun v wr => ∃ i : Nat, v = .int .i64 i ∧ i ≤ l.length ∧ allPr (l.take i) = true ∧ wr = w) (fun v _ => l.length - (intOf v).toNat)
  case atStart => exact ⟨0, rfl, Nat.zero_le _, rfl, rfl⟩
  case round =>
    obtain ⟨i, rfl, hi, hp, rfl⟩ := hrel
    by_cases hlt : i < l.length
    · have hi2 : i < (bsV l).size := by rw [hsz]; exact hlt
      have hget := bs_get l i hi2
      obtain ⟨c, hc⟩ : ∃ c, (bsV l)[i]'hi2 = c := ⟨_, rfl⟩
      have hcl : l[i]'hlt = c := hget.symm.trans hc
      have Hp := hide hp
      clear hp hget
      cases hpr : prB c with
      | true =>
        obtain ⟨p1, p2⟩ := prB_true hpr
        have Hr := hide (show allPr (l.take (i + 1)) = true by rw [allPr_take l i hlt, Hp.out, hcl, hpr]; rfl)
        clear hpr hcl
        have h1 : ((c.toNat : Int) < 33) = False := by simp; omega
        have h2 : ((126 : Int) < c.toNat) = False := by simp; omega
        go_wp2
        go_roundw
        case rel => exact ⟨i + 1, by go_num, by omega, Hr.out, by trivial⟩
        case measure => simp [intOf]; omega
      | false =>
        have hh := prB_false hpr
        have Hv := hide (codeV_bad i hlt (by rw [hcl]; exact hpr))
        clear hpr hcl
        rcases hh with hh | hh
        all_goals
          go_wp2
          go_ret
          exact ⟨ret_b Hv.out, rfl⟩
    · obtain rfl : i = l.length := by omega
      rw [List.take_length] at hp
      have hv : codeV l = (decide (l ≠ []) && decide (l.length ≤ 8) && decide (l ≠ [36, 101, 110, 100])) := by unfold codeV; rw [hp, Bool.true_and]
      by_cases hne : l = []
      · have Hv := hide (show codeV l = false by rw [hv, decide_eq_false (fun h => h hne)]; rfl)
        have e2 : (bsV l).toList.isEmpty = true := by rw [hne]; decide +kernel
        have e1 : (bsV l).toList = [] := List.isEmpty_iff.1 e2
        clear hp hv hne
        go_wp2
        go_ret
        exact ⟨ret_b Hv.out, rfl⟩
      · have hlen : 0 < l.length := List.length_pos_iff.2 hne
        obtain ⟨e1, e2⟩ := toList_ne (s := bsV l) (by rw [hsz]; exact hlen)
        have hb4 : ((bsV l).toList == [36, 101, 110, 100]) = decide (l = [36, 101, 110, 100]) := by
          rw [show ([36, 101, 110, 100] : List UInt8) = (⟨#[36, 101, 110, 100]⟩ : ByteArray).toList from by decide +kernel, toList_beq]
          rw [show (⟨#[36, 101, 110, 100]⟩ : ByteArray).toList = [36, 101, 110, 100] from by decide +kernel]
          congr 1
          rw [eq_iff_iff]
          exact ⟨fun h => by have := congrArg (fun b : ByteArray => b.data.toList) h; simpa [bsV_list] using this, fun h => by rw [h]; rfl⟩
        by_cases h8 : l.length ≤ 8
        · have h8' : ((l.length : Int) ≤ 8) = True := by simp; omega
          cases h4 : decide (l = [36, 101, 110, 100]) with
          | true =>
            rw [h4] at hb4
            have Hv := hide (show codeV l = false by rw [hv, of_decide_eq_true h4]; rfl)
            clear hv h4 hp
            go_wp2
            go_ret
            exact ⟨ret_b Hv.out, rfl⟩
          | false =>
            rw [h4] at hb4
            have Hv := hide (show codeV l = true by rw [hv, decide_eq_true hne, decide_eq_true h8, decide_eq_true (of_decide_eq_false h4)]; rfl)
            clear hv h4 hp
            go_wp2
            go_ret
            exact ⟨ret_b Hv.out, rfl⟩
        · have Hv := hide (show codeV l = false by rw [hv, decide_eq_false h8, Bool.and_false, Bool.false_and])
          have h8' : ¬ ((l.length : Int) ≤ 8) := by omega
          clear hv hp
          go_wp2
          go_ret
          exact ⟨ret_b Hv.out, rfl⟩

theorem bsV_append (a b : List UInt8) : bsV a ++ bsV b = bsV (a ++ b) := by
  apply ByteArray.ext
  apply Array.toList_inj.1
  rw [bsV_app, bsV_list, bsV_list, bsV_list]
theorem formatK_len (k : Nat) (l : List UInt8) : (formatK k l).length ≤ 4 * l.length + 1 := by
  match k with
  | 0 =>
    show (if isV l then shortV l else []).length ≤ _
    split
    · have := (shortV_suffix l).length_le; omega
    · simp
  | 1 => show l.length ≤ _; omega
  | 2 => have := quoteL_len l; show (quoteL l).length ≤ _; omega
  | _ + 3 => show (1 : Nat) ≤ _; omega
theorem run_add (a b : List UInt8) (ha : a.length ≤ 10000000) (hb : b.length ≤ 10000000) (W : World) : (Op.stringOp .add (bsV a) (bsV b)).run Tryz.prog W = .ok (.string (bsV (a ++ b))) W := by
  rw [run_string_add_sum W _ _ (by rw [bs_size, bs_size]; omega), bsV_append]
/-- the letter of a kind -/
def letL (k : Nat) : List UInt8 := (letK k).data.toList
theorem letL_len (k : Nat) : (letL k).length ≤ 1 := by
  match k with
  | 0 => decide
  | 1 => decide
  | 2 => decide
  | _ + 3 => exact Nat.zero_le _
def commandN (n wd : Int) (l id : List UInt8) : List UInt8 :=
  if validN n wd l && codeV id then (if n = 3 ∨ (n = 0 ∧ wd = 1) then formatK n.toNat l ++ id else letL n.toNat ++ formatK n.toNat l ++ [32] ++ id) else []

set_option maxRecDepth 20000 in
set_option maxHeartbeats 8000000 in
theorem Command_any (n wd : Int) (l id : List UInt8) (w : World) (hz : l.length ≤ 1000000) (hi : id.length ≤ 1000000) (hg : Gl w) :
    Calls Tryz.prog 20 #[.int .i64 n, .int .i64 wd, .string (bsV l), .string (bsV id)] w fun e w' => e = .returned (.string (bsV (commandN n wd l id))) ∧ Below w.heap.size w w' := by
  have OF := hide (of_kind n wd w)
  have hcv := fun (k : Nat) (args : Array Value) (W : World) => validF_run k args W
  have VK := hide (fun (k : Nat) (W : World) (h : Gl W) => validK_any k wd l W hz h)
  have hcf := fun (k : Nat) (args : Array Value) (W : World) => formatF_run k args W
  have FK := hide (fun (k : Nat) (W : World) => formatK_any k l W hz)
  have CO := hide (fun W : World => code_any id W hi)
  have G := hide hg
  clear hg
  go_enter Tryz.func20, Tryz.ntmps20
  go_wp2_with fail
  refine OF.out.mono ?_
  rintro e w1 ⟨hb, ⟨k, p, rfl, hk, rfl, hr, hp⟩ | ⟨hn, rfl⟩⟩
  · have G1 := hide (fun o => G.out.below (hb.alloc hb.size o))
    have Hb := hide (fun o => hb.alloc hb.size o)
    clear hb hr hp
    cases ho : okW k wd with
    | false =>
      have HV := hide (show commandN (k : Int) wd l id = [] by unfold commandN validN; rw [inK_nat k wd hk, ho]; rfl)
      clear ho
      go_wp2
      go_ret
      exact ⟨congrArg (fun b => Ending.returned (.string (bsV b))) HV.out.symm, Hb.out _⟩
    | true =>
      have hV : validN (k : Int) wd l = validK k wd l := by unfold validN; rw [inK_nat k wd hk, ho, Int.toNat_natCast]; rfl
      have HV := hide hV
      clear ho hV
      go_wp2_with fail
      refine (VK.out k _ (G1.out _)).mono ?_
      rintro e w2 ⟨rfl, hb⟩
      have Hb2 := hide ((Hb.out _).trans (hb.mono (Hb.out _).size))
      have hrow := (Row.new w1 45 _).below hb (by rw [World.size_alloc]; omega)
      have c5 : w2.cell? ⟨w1.heap.size, 5, none⟩ = some (.func (.func (formatF k)) #[] #[]) := hrow.cell 5
      have c6 : w2.cell? ⟨w1.heap.size, 6, none⟩ = some (.string (letK k)) := hrow.cell 6
      clear hb hrow
      cases hv : validK k wd l with
      | false =>
        have HC := hide (show commandN (k : Int) wd l id = [] by unfold commandN; rw [HV.out, hv]; rfl)
        clear hv
        go_wp2
        go_ret
        exact ⟨congrArg (fun b => Ending.returned (.string (bsV b))) HC.out.symm, Hb2.out⟩
      | true =>
        cases hc : codeV id with
        | false =>
          have HC := hide (show commandN (k : Int) wd l id = [] by unfold commandN; rw [HV.out, hv, hc]; rfl)
          rw [hc] at CO
          clear hv hc
          go_wp2_with fail
          refine (CO.out _).mono ?_
          rintro e wx ⟨rfl, rfl⟩
          go_wp2
          go_ret
          exact ⟨congrArg (fun b => Ending.returned (.string (bsV b))) HC.out.symm, Hb2.out⟩
        | true =>
          rw [hc] at CO
          have hfl := formatK_len k l
          have hll := letL_len k
          by_cases h31 : (k : Int) = 3 ∨ ((k : Int) = 0 ∧ wd = 1)
          · have HC := hide (show commandN (k : Int) wd l id = formatK k l ++ id by unfold commandN; rw [HV.out, hv, hc, if_pos (by rfl), if_pos h31, Int.toNat_natCast])
            have ha := fun W => run_add (formatK k l) id (by omega) (by omega) W
            clear hv hc
            rcases h31 with h3 | ⟨h0, h1⟩
            · have h3' : ((k : Int) == 3) = true := by rw [h3]; rfl
              go_wp2_with fail
              refine (CO.out _).mono ?_
              rintro e wx ⟨rfl, rfl⟩
              go_wp2_with fail
              refine (FK.out k _).mono ?_
              rintro e w3 ⟨rfl, hb⟩
              have Hb3 := hide (Hb2.out.trans (hb.mono Hb2.out.size))
              clear hb
              go_wp2
              go_ret
              exact ⟨congrArg (fun b => Ending.returned (.string (bsV b))) HC.out.symm, Hb3.out⟩
            · have h3' : ((k : Int) == 3) = false := by rw [h0]; rfl
              have h0' : ((k : Int) == 0) = true := by rw [h0]; rfl
              have h1' : (wd == 1) = true := by rw [h1]; rfl
              clear h0 h1
              go_wp2_with fail
              refine (CO.out _).mono ?_
              rintro e wx ⟨rfl, rfl⟩
              go_wp2_with fail
              refine (FK.out k _).mono ?_
              rintro e w3 ⟨rfl, hb⟩
              have Hb3 := hide (Hb2.out.trans (hb.mono Hb2.out.size))
              clear hb
              go_wp2
              go_ret
              exact ⟨congrArg (fun b => Ending.returned (.string (bsV b))) HC.out.symm, Hb3.out⟩
          · have HC := hide (show commandN (k : Int) wd l id = letL k ++ formatK k l ++ [32] ++ id by unfold commandN; rw [HV.out, hv, hc, if_pos (by rfl), if_neg h31, Int.toNat_natCast])
            have ha1 : ∀ W, (Op.stringOp .add (letK k) (bsV (formatK k l))).run Tryz.prog W = .ok (.string (bsV (letL k ++ formatK k l))) W := fun W => run_add (letL k) (formatK k l) (by omega) (by omega) W
            have ha2 : ∀ W, (Op.stringOp .add (bsV (letL k ++ formatK k l)) ⟨#[32]⟩).run Tryz.prog W = .ok (.string (bsV (letL k ++ formatK k l ++ [32]))) W := fun W => run_add (letL k ++ formatK k l) [32] (by rw [List.length_append]; omega) (by decide) W
            have ha3 : ∀ W, (Op.stringOp .add (bsV (letL k ++ formatK k l ++ [32])) (bsV id)).run Tryz.prog W = .ok (.string (bsV (letL k ++ formatK k l ++ [32] ++ id))) W := fun W => run_add (letL k ++ formatK k l ++ [32]) id (by simp only [List.length_append, List.length_cons, List.length_nil]; omega) (by omega) W
            obtain ⟨A, hA⟩ : ∃ A, letL k ++ formatK k l = A := ⟨_, rfl⟩
            simp only [hA] at HC ha1 ha2 ha3
            obtain ⟨B, hB⟩ : ∃ B, A ++ [32] = B := ⟨_, rfl⟩
            simp only [hB] at HC ha2 ha3
            obtain ⟨C, hC⟩ : ∃ C, B ++ id = C := ⟨_, rfl⟩
            simp only [hC] at HC ha3
            clear hA hB hC
            have CF := hide (fun (W : World) d os => Calls.regrown_of (d := d) (os := os) (w := W) (FK.out k _))
            have r5 := fun d os => cell_regrown c5 d os
            have r6 := fun d os => cell_regrown c6 d os
            clear hv hc hfl hll
            have h3' : ((k : Int) == 3) = false := beq_eq_false_iff_ne.2 fun h => h31 (.inl h)
            have tail : ((k : Int) == 0) = false ∨ (((k : Int) == 0) = true ∧ (wd == 1) = false) := by
              by_cases h0 : (k : Int) = 0
              · exact .inr ⟨by rw [h0]; rfl, beq_eq_false_iff_ne.2 fun h => h31 (.inr ⟨h0, h⟩)⟩
              · exact .inl (beq_eq_false_iff_ne.2 h0)
            clear h31
            rcases tail with h0' | ⟨h0', h1'⟩
            all_goals
              go_wp2_with fail
              refine (CO.out _).mono ?_
              rintro e wx ⟨rfl, rfl⟩
              go_wp2_with fail
              refine wp_region_quiet_below (by kernel_rfl) (by kernel_rfl) ?_
              repeat (go_big_quiet_step (exact CF.out _ _ _))
              refine wpQuiet_nil ?_
              intro _ hw'
              obtain ⟨⟨dq, osq⟩, hw''⟩ := hw'
              subst hw''
              go_wp2
              go_ret
              exact ⟨congrArg (fun b => Ending.returned (.string (bsV b))) HC.out.symm, Hb2.out.trans ((below_regrown _ dq osq).mono Hb2.out.size)⟩
  · have HV := hide (show commandN n wd l id = [] by unfold commandN validN; rw [inK_out wd hn]; rfl)
    have Hb := hide (fun o => hb.alloc hb.size o)
    clear hb hn
    go_wp2
    go_ret
    exact ⟨congrArg (fun b => Ending.returned (.string (bsV b))) HV.out.symm, Hb.out _⟩
end Go.Proofs.YtpjikbfeegncbaaGreatDoor
