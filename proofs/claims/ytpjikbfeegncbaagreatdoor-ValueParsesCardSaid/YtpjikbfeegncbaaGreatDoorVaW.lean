/- Contracts of the reference's strip and Text. -/
import Derived.Test.YtpjikbfeegncbaaGreatDoorVaV
set_option linter.unusedVariables false
set_option linter.unusedSimpArgs false
namespace Go.Proofs.YtpjikbfeegncbaaGreatDoor
open Go.RowKit Go.Shelf Go.Sort

theorem lead_stop (d : List UInt8) (i : Nat) (hi : i ≤ d.length) (h : (d.take i).all (· == 48) = true) (he : ∀ c, d[i]? = some c → c ≠ 48) : d.dropWhile (· == 48) = d.drop i ∧ leadV d = i := by
  have hd : d = d.take i ++ d.drop i := (List.take_append_drop i d).symm
  have h2 : ∀ a ∈ d.take i, (a == 48) = true := fun a ha => List.all_eq_true.1 h a ha
  have hx : (d.drop i).dropWhile (· == 48) = d.drop i ∧ (d.drop i).takeWhile (· == 48) = [] := by
    cases hc : d.drop i with
    | nil => exact ⟨rfl, rfl⟩
    | cons c t =>
      have : c ≠ 48 := he c (by rw [← List.head?_drop, hc]; rfl)
      exact ⟨List.dropWhile_cons_of_neg (by simpa using this), List.takeWhile_cons_of_neg (by simpa using this)⟩
  constructor
  · conv => lhs; rw [hd]
    rw [List.dropWhile_append_of_pos h2, hx.1]
  · unfold leadV
    conv => lhs; rw [hd]
    rw [List.takeWhile_append_of_pos h2, hx.2, List.append_nil, List.length_take]; omega
theorem tail_stop (D : List UInt8) (j : Nat) (hj : j ≤ D.length) (h : (D.drop j).all (· == 48) = true) (he : ∀ c, 0 < j → D[j - 1]? = some c → c ≠ 48) : (D.reverse.dropWhile (· == 48)).reverse = D.take j := by
  have hr : D.reverse = (D.drop j).reverse ++ (D.take j).reverse := by
    rw [← List.reverse_append, List.take_append_drop]
  have h2 : ∀ a ∈ (D.drop j).reverse, (a == 48) = true := fun a ha => List.all_eq_true.1 h a (List.mem_reverse.1 ha)
  rw [hr, List.dropWhile_append_of_pos h2]
  have hx : (D.take j).reverse.dropWhile (· == 48) = (D.take j).reverse := by
    cases hc : (D.take j).reverse with
    | nil => rfl
    | cons c t =>
      have hh : (D.take j).getLast? = some c := by rw [← List.head?_reverse, hc]; rfl
      have hl : (D.take j).length = j := by rw [List.length_take]; omega
      have hj0 : 0 < j := by
        rcases Nat.eq_zero_or_pos j with h0 | h0
        · subst h0; simp at hc
        · exact h0
      have hg : D[j - 1]? = some c := by
        rw [List.getLast?_eq_getElem?, hl, List.getElem?_take] at hh
        rwa [if_pos (by omega)] at hh
      exact List.dropWhile_cons_of_neg (by simpa using he c hj0 hg)
  rw [hx, List.reverse_reverse]
/-- the parts without zeros at both ends -/
def stripR (neg : Bool) (d : List UInt8) (e : Int) : Array Value :=
  if stripV d = [] then #[.bool false, .string ⟨#[]⟩, .int .i64 0] else #[.bool neg, .string (bsV (stripV d)), .int .i64 (e - leadV d)]

set_option maxRecDepth 20000 in
set_option maxHeartbeats 8000000 in
theorem refStrip_any (neg : Bool) (d : List UInt8) (e : Int) (w : World) (hz : d.length ≤ 1000000) (he0 : -1000000000 ≤ e) (he1 : e ≤ 1000000000) :
    Calls Tryz.prog 97 #[.agg #[.bool neg, .string (bsV d), .int .i64 e]] w fun x w' => x = .returned (.agg (stripR neg d e)) ∧ Below w.heap.size w w' := by
  have R0 := hide (Row.new w 77 #[.bool neg, .string (bsV d), .int .i64 e])
  have R1 := hide (fun W : World => Row.new W 77 #[.bool false, .string ⟨#[]⟩, .int .i64 0])
  have B0 := hide (((Below.refl w.heap.size w).alloc (Nat.le_refl _) (.cells #[.bool neg, .string (bsV d), .int .i64 e] 77)).alloc (by rw [World.size_alloc]; omega) (.cells #[.bool false, .string ⟨#[]⟩, .int .i64 0] 77))
  go_enter Tryz.func97, Tryz.ntmps97
  go_wp2
  go_loopg [3] d.length (fun g _ wr => ∃ i : Nat, i + g = d.length ∧ (d.take i).all (· == 48) = true ∧ Row wr w.heap.size 77 #[.bool neg, .string (bsV (d.drop i)), .int .i64 (e - i)] ∧ Row wr (w.heap.size + 1) 77 #[.bool false, .string ⟨#[]⟩, .int .i64 0] ∧ Below w.heap.size w wr)
  case atStart =>
    refine ⟨0, by omega, rfl, ?_, ?_, B0.out⟩
    · have := R0.out.alloc (.cells #[.bool false, .string ⟨#[]⟩, .int .i64 0] 77)
      rw [List.drop_zero, show e - ((0 : Nat) : Int) = e by omega]
      exact this
    · have := R1.out (w.alloc (.cells #[.bool neg, .string (bsV d), .int .i64 e] 77))
      rw [World.size_alloc] at this
      exact this
  case round =>
    obtain ⟨i, hig, hp, hr0, hr1, hb⟩ := hrel
    have H0 := hide hr0
    have H1 := hide hr1
    have Hb := hide hb
    have c0 : wr.cell? ⟨w.heap.size, 0, none⟩ = some (.bool neg) := hr0.cell 0
    have c1 : wr.cell? ⟨w.heap.size, 1, none⟩ = some (.string (bsV (d.drop i))) := hr0.cell 1
    have c2 : wr.cell? ⟨w.heap.size, 2, none⟩ = some (.int .i64 (e - i)) := hr0.cell 2
    have f1 : wr.frozen? ⟨w.heap.size, 1, none⟩ = false := hr0.frozen 1
    have f2 : wr.frozen? ⟨w.heap.size, 2, none⟩ = false := hr0.frozen 2
    clear hr0 hr1 hb
    have hsz := bs_size (d.drop i)
    have hdl : (d.drop i).length = d.length - i := List.length_drop ..
    cases gk with
    | zero =>
      have hstop : ∀ c, d[i]? = some c → c ≠ 48 := fun c h => by rw [List.getElem?_eq_none (by omega)] at h; cases h
      have hl00 : d.drop i = [] := List.drop_eq_nil_of_le (by omega)
      obtain ⟨D, hD⟩ : ∃ D, d.drop i = D := ⟨_, rfl⟩
      obtain ⟨E, hE⟩ : ∃ E, e - (i : Int) = E := ⟨_, rfl⟩
      obtain ⟨hdw, hld⟩ := lead_stop d i (by omega) hp hstop
      have hsv : stripV d = (D.reverse.dropWhile (· == 48)).reverse := by unfold stripV; rw [hdw, hD]
      have HSV := hide hsv
      have HLD := hide (show e - (leadV d : Int) = E by rw [hld]; exact hE)
      rw [hD] at H0 c1 hsz
      rw [hE] at H0 c2
      have hDz : D.length ≤ 1000000 := by rw [← hD, List.length_drop]; omega
      clear hdw hld hsv hstop hp hig
      have hl0 : D = [] := by rw [← hD]; exact hl00
      have hl1 : (D.length : Int) = 0 := by rw [hl0]; rfl
      clear hl0 hl00 hdl hD hE
      go_wp2
      clear hl1
      clear c0 c1 c2 f1 f2
      go_loopg [21] D.length (fun g _ wr => g ≤ D.length ∧ (D.drop g).all (· == 48) = true ∧ Row wr w.heap.size 77 #[.bool neg, .string (bsV (D.take g)), .int .i64 E] ∧ Row wr (w.heap.size + 1) 77 #[.bool false, .string ⟨#[]⟩, .int .i64 0] ∧ Below w.heap.size w wr)
      case atStart => exact ⟨Nat.le_refl _, by rw [List.drop_length]; rfl, by rw [List.take_length]; exact H0.out, H1.out, Hb.out⟩
      case round =>
        obtain ⟨hj, hq, hr0, hr1, hb⟩ := hrel
        have K0 := hide hr0
        have K1 := hide hr1
        have Kb := hide hb
        have c0 : wr.cell? ⟨w.heap.size, 0, none⟩ = some (.bool neg) := hr0.cell 0
        have c1 : wr.cell? ⟨w.heap.size, 1, none⟩ = some (.string (bsV (D.take gk))) := hr0.cell 1
        have c2 : wr.cell? ⟨w.heap.size, 2, none⟩ = some (.int .i64 E) := hr0.cell 2
        have f1 : wr.frozen? ⟨w.heap.size, 1, none⟩ = false := hr0.frozen 1
        have z0 : wr.cell? ⟨w.heap.size + 1, 0, none⟩ = some (.bool false) := hr1.cell 0
        have z1 : wr.cell? ⟨w.heap.size + 1, 1, none⟩ = some (.string ⟨#[]⟩) := hr1.cell 1
        have z2 : wr.cell? ⟨w.heap.size + 1, 2, none⟩ = some (.int .i64 0) := hr1.cell 2
        have g0 : wr.frozen? ⟨w.heap.size + 1, 0, none⟩ = false := hr1.frozen 0
        have g1 : wr.frozen? ⟨w.heap.size + 1, 1, none⟩ = false := hr1.frozen 1
        have g2 : wr.frozen? ⟨w.heap.size + 1, 2, none⟩ = false := hr1.frozen 2
        clear hr0 hr1 hb
        have hsz2 : (bsV (D.take gk)).size = gk := by rw [bs_size, List.length_take]; omega
        cases gk with
        | zero =>
          have hs0 : stripV d = [] := by rw [HSV.out, tail_stop D 0 (Nat.zero_le _) hq (fun c h => by omega)]; rfl
          have HV := hide (show stripR neg d e = #[.bool false, .string ⟨#[]⟩, .int .i64 0] by unfold stripR; rw [if_pos hs0])
          rw [List.take_zero, show bsV [] = (⟨#[]⟩ : ByteArray) from rfl] at c1
          clear hs0 hq hsz2
          have Hrow := hide (show Row (((wr.setCell ⟨w.heap.size + 1, 0, none⟩ (.bool false)).setCell ⟨w.heap.size + 1, 1, none⟩ (.string ⟨#[]⟩)).setCell ⟨w.heap.size + 1, 2, none⟩ (.int .i64 0)) (w.heap.size + 1) 77 #[.bool false, .string ⟨#[]⟩, .int .i64 0] from ((K1.out.set_ 0 (.bool false)).set_ 1 (.string ⟨#[]⟩)).set_ 2 (.int .i64 0))
          have HB2 := hide (((Kb.out.setCell (p := ⟨w.heap.size + 1, 0, none⟩) (Nat.le_succ _) (.bool false)).setCell (p := ⟨w.heap.size + 1, 1, none⟩) (Nat.le_succ _) (.string ⟨#[]⟩)).setCell (p := ⟨w.heap.size + 1, 2, none⟩) (Nat.le_succ _) (.int .i64 0))
          go_wp2
          exact bodyPost_ret (v := .agg #[.bool false, .string ⟨#[]⟩, .int .i64 0]) (results_cell_row rfl _ _ (w.heap.size + 1) 77 _ _ _ rfl Hrow.out Tryz.underlying77 rfl (by kernel_rfl)) rfl ⟨congrArg (fun a => Ending.returned (.agg a)) HV.out.symm, HB2.out⟩
        | succ g =>
          have hgl : g < D.length := by omega
          obtain ⟨c, hc⟩ : ∃ c, D[g]'hgl = c := ⟨_, rfl⟩
          have hi2 : g < (bsV (D.take (g + 1))).size := by omega
          have hget : (bsV (D.take (g + 1)))[g]'hi2 = c := by rw [bs_get, List.getElem_take]; exact hc
          have hex : (bsV (D.take (g + 1))).extract 0 g = bsV (D.take g) := by rw [bs_take, List.take_take, Nat.min_eq_left (Nat.le_succ g)]
          have hp1 : (0 : Int) < ((g + 1 : Nat) : Int) := by omega
          have hsub : ((g + 1 : Nat) : Int) - 1 = (g : Int) := by omega
          have hwr : IntKind.i64.wrap (((g + 1 : Nat) : Int) - 1) = (g : Int) := by rw [hsub]; exact IntWalk.i64_in _ (by omega)
          have hs1 : (0 : Int) ≤ (g : Int) := by omega
          have hs2 : (g : Int) ≤ ((g + 1 : Nat) : Int) := by omega
          have hs3 : (g : Int) < ((g + 1 : Nat) : Int) := by omega
          obtain ⟨e1, e2⟩ := toList_ne (s := bsV (D.take (g + 1))) (by omega)
          by_cases h48 : c = 48
          · have hcq : ((c.toNat : Int) == 48) = true := by rw [h48]; rfl
            have Hq := hide (show (D.drop g).all (· == 48) = true by
              rw [List.drop_eq_getElem_cons hgl, List.all_cons, hq, hc, h48]; rfl)
            clear h48 hq hc
            obtain ⟨m, hm⟩ : ∃ m : Int, ((g + 1 : Nat) : Int) = m := ⟨_, rfl⟩
            rw [hm] at hp1 hwr hs2 hs3 hsub
            have hsz3 : ((bsV (D.take (g + 1))).size : Int) = m := by rw [hsz2]; exact hm
            clear hsz2
            generalize hX : bsV (D.take (g + 1)) = X at *
            clear hX
            go_wp2
            go_roundg g
            case measure => omega
            case rel => exact ⟨by omega, Hq.out, K0.out.set_ 1 (.string (bsV (D.take g))), K1.out.off (by omega) _ _, Kb.out.setCell (p := ⟨w.heap.size, 1, none⟩) (Nat.le_refl _) _⟩
          · have hcq : ((c.toNat : Int) == 48) = false := beq_eq_false_iff_ne.2 fun e => h48 ((u8i c 48).1 e)
            have hs0 : stripV d = D.take (g + 1) := by
              rw [HSV.out]
              refine tail_stop D (g + 1) hj hq (fun x _ hx => ?_)
              rw [Nat.add_sub_cancel, List.getElem?_eq_getElem hgl, hc] at hx
              rw [← Option.some.inj hx]; exact h48
            have HV := hide (show stripR neg d e = #[.bool neg, .string (bsV (D.take (g + 1))), .int .i64 E] by
              unfold stripR
              rw [hs0, if_neg (by intro h; rw [h] at hsz2; cases hsz2), HLD.out])
            clear h48 hq hc hs0
            obtain ⟨m, hm⟩ : ∃ m : Int, ((g + 1 : Nat) : Int) = m := ⟨_, rfl⟩
            rw [hm] at hp1 hwr hs2 hs3 hsub
            have hsz3 : ((bsV (D.take (g + 1))).size : Int) = m := by rw [hsz2]; exact hm
            clear hsz2 hm
            generalize bsV (D.take (g + 1)) = X at *
            have Hrow := hide (show Row (((wr.setCell ⟨w.heap.size + 1, 0, none⟩ (.bool neg)).setCell ⟨w.heap.size + 1, 1, none⟩ (.string X)).setCell ⟨w.heap.size + 1, 2, none⟩ (.int .i64 E)) (w.heap.size + 1) 77 #[.bool neg, .string X, .int .i64 E] from ((K1.out.set_ 0 (.bool neg)).set_ 1 (.string X)).set_ 2 (.int .i64 E))
            have HB2 := hide (((Kb.out.setCell (p := ⟨w.heap.size + 1, 0, none⟩) (Nat.le_succ _) (.bool neg)).setCell (p := ⟨w.heap.size + 1, 1, none⟩) (Nat.le_succ _) (.string X)).setCell (p := ⟨w.heap.size + 1, 2, none⟩) (Nat.le_succ _) (.int .i64 E))
            go_wp2
            exact bodyPost_ret (v := .agg #[.bool neg, .string X, .int .i64 E]) (results_cell_row rfl _ _ (w.heap.size + 1) 77 _ _ _ rfl Hrow.out Tryz.underlying77 rfl (by kernel_rfl)) rfl ⟨congrArg (fun a => Ending.returned (.agg a)) HV.out.symm, HB2.out⟩
    | succ g =>
      have hil : i < d.length := by omega
      have hi2 : 0 < (bsV (d.drop i)).size := by rw [hsz, hdl]; omega
      obtain ⟨c, hc⟩ : ∃ c, d[i]'hil = c := ⟨_, rfl⟩
      have hget : (bsV (d.drop i))[0]'hi2 = c := by rw [bs_get]; rw [← hc]; simp
      have hp0 : (0 : Int) < ((d.drop i).length : Int) := by rw [hdl]; omega
      by_cases h48 : c = 48
      · have hcq : ((c.toNat : Int) == 48) = true := by rw [h48]; rfl
        have Hp := hide (show (d.take (i + 1)).all (· == 48) = true by rw [all_take d i hil, hp, hc, h48]; rfl)
        have hex : (bsV (d.drop i)).extract 1 (bsV (d.drop i)).size = bsV (d.drop (i + 1)) := by rw [bs_drop, List.drop_drop]
        have hs1 : (1 : Int) ≤ ((bsV (d.drop i)).size : Int) := by rw [hsz, hdl]; omega
        have hwr : IntKind.i64.wrap (e - (i : Int) - 1) = e - ((i + 1 : Nat) : Int) := by rw [IntWalk.i64_in _ (by omega)]; omega
        obtain ⟨E, hE⟩ : ∃ E, e - (i : Int) = E := ⟨_, rfl⟩
        obtain ⟨E2, hE2⟩ : ∃ E2, e - ((i + 1 : Nat) : Int) = E2 := ⟨_, rfl⟩
        rw [hE] at H0 c2 hwr
        rw [hE2] at hwr
        have HE2 := hide hE2
        have HI := hide (And.intro hig hil)
        generalize hX : bsV (d.drop i) = X at *
        obtain ⟨Y, hY⟩ : ∃ Y, bsV (d.drop (i + 1)) = Y := ⟨_, rfl⟩
        rw [hY] at hex
        have HY := hide hY
        rw [hsz, hdl] at hs1 hex
        rw [hdl] at hsz hp0
        clear hE hE2 hX hY h48 hp hc hil hig hdl
        go_wp2_with fail
        go_region
        all_goals
          go_wp2
          go_roundg g
          case measure => omega
          case rel => exact ⟨i + 1, by have := HI.out.1; omega, Hp.out, by rw [HY.out, HE2.out]; exact ((H0.out.set_ 1 (.string Y)).set_ 2 (.int .i64 E2)).drew, ((H1.out.off (by omega) _ _).off (by omega) _ _).drew, ((Hb.out.setCell (p := ⟨w.heap.size, 1, none⟩) (Nat.le_refl _) _).setCell (p := ⟨w.heap.size, 2, none⟩) (Nat.le_refl _) _).drew⟩
      · have hcq : ((c.toNat : Int) == 48) = false := beq_eq_false_iff_ne.2 fun e => h48 ((u8i c 48).1 e)
        have hstop : ∀ c, d[i]? = some c → c ≠ 48 := fun x hx => by
          rw [List.getElem?_eq_getElem hil, hc] at hx
          rw [← Option.some.inj hx]; exact h48
        obtain ⟨D, hD⟩ : ∃ D, d.drop i = D := ⟨_, rfl⟩
        obtain ⟨E, hE⟩ : ∃ E, e - (i : Int) = E := ⟨_, rfl⟩
        obtain ⟨hdw, hld⟩ := lead_stop d i (by omega) hp hstop
        have hsv : stripV d = (D.reverse.dropWhile (· == 48)).reverse := by unfold stripV; rw [hdw, hD]
        have HSV := hide hsv
        have HLD := hide (show e - (leadV d : Int) = E by rw [hld]; exact hE)
        rw [hD] at H0 c1 hsz
        rw [hE] at H0 c2
        have hDz : D.length ≤ 1000000 := by rw [← hD, List.length_drop]; omega
        clear hdw hld hsv hstop hp hig
        rw [hD] at hp0
        have hi3 : 0 < (bsV D).size := by rw [← hD]; exact hi2
        have hget2 : (bsV D)[0]'hi3 = c := by subst hD; exact hget
        clear h48 hdl hc hil hget hE hi2 hD
        go_wp2
        clear c0 c1 c2 f1 f2
        go_loopg [21] D.length (fun g _ wr => g ≤ D.length ∧ (D.drop g).all (· == 48) = true ∧ Row wr w.heap.size 77 #[.bool neg, .string (bsV (D.take g)), .int .i64 E] ∧ Row wr (w.heap.size + 1) 77 #[.bool false, .string ⟨#[]⟩, .int .i64 0] ∧ Below w.heap.size w wr)
        case atStart => exact ⟨Nat.le_refl _, by rw [List.drop_length]; rfl, by rw [List.take_length]; exact H0.out, H1.out, Hb.out⟩
        case round =>
          obtain ⟨hj, hq, hr0, hr1, hb⟩ := hrel
          have K0 := hide hr0
          have K1 := hide hr1
          have Kb := hide hb
          have c0 : wr.cell? ⟨w.heap.size, 0, none⟩ = some (.bool neg) := hr0.cell 0
          have c1 : wr.cell? ⟨w.heap.size, 1, none⟩ = some (.string (bsV (D.take gk))) := hr0.cell 1
          have c2 : wr.cell? ⟨w.heap.size, 2, none⟩ = some (.int .i64 E) := hr0.cell 2
          have f1 : wr.frozen? ⟨w.heap.size, 1, none⟩ = false := hr0.frozen 1
          have z0 : wr.cell? ⟨w.heap.size + 1, 0, none⟩ = some (.bool false) := hr1.cell 0
          have z1 : wr.cell? ⟨w.heap.size + 1, 1, none⟩ = some (.string ⟨#[]⟩) := hr1.cell 1
          have z2 : wr.cell? ⟨w.heap.size + 1, 2, none⟩ = some (.int .i64 0) := hr1.cell 2
          have g0 : wr.frozen? ⟨w.heap.size + 1, 0, none⟩ = false := hr1.frozen 0
          have g1 : wr.frozen? ⟨w.heap.size + 1, 1, none⟩ = false := hr1.frozen 1
          have g2 : wr.frozen? ⟨w.heap.size + 1, 2, none⟩ = false := hr1.frozen 2
          clear hr0 hr1 hb
          have hsz2 : (bsV (D.take gk)).size = gk := by rw [bs_size, List.length_take]; omega
          cases gk with
          | zero =>
            have hs0 : stripV d = [] := by rw [HSV.out, tail_stop D 0 (Nat.zero_le _) hq (fun c h => by omega)]; rfl
            have HV := hide (show stripR neg d e = #[.bool false, .string ⟨#[]⟩, .int .i64 0] by unfold stripR; rw [if_pos hs0])
            rw [List.take_zero, show bsV [] = (⟨#[]⟩ : ByteArray) from rfl] at c1
            clear hs0 hq hsz2
            have Hrow := hide (show Row (((wr.setCell ⟨w.heap.size + 1, 0, none⟩ (.bool false)).setCell ⟨w.heap.size + 1, 1, none⟩ (.string ⟨#[]⟩)).setCell ⟨w.heap.size + 1, 2, none⟩ (.int .i64 0)) (w.heap.size + 1) 77 #[.bool false, .string ⟨#[]⟩, .int .i64 0] from ((K1.out.set_ 0 (.bool false)).set_ 1 (.string ⟨#[]⟩)).set_ 2 (.int .i64 0))
            have HB2 := hide (((Kb.out.setCell (p := ⟨w.heap.size + 1, 0, none⟩) (Nat.le_succ _) (.bool false)).setCell (p := ⟨w.heap.size + 1, 1, none⟩) (Nat.le_succ _) (.string ⟨#[]⟩)).setCell (p := ⟨w.heap.size + 1, 2, none⟩) (Nat.le_succ _) (.int .i64 0))
            go_wp2
            exact bodyPost_ret (v := .agg #[.bool false, .string ⟨#[]⟩, .int .i64 0]) (results_cell_row rfl _ _ (w.heap.size + 1) 77 _ _ _ rfl Hrow.out Tryz.underlying77 rfl (by kernel_rfl)) rfl ⟨congrArg (fun a => Ending.returned (.agg a)) HV.out.symm, HB2.out⟩
          | succ g =>
            have hgl : g < D.length := by omega
            obtain ⟨c, hc⟩ : ∃ c, D[g]'hgl = c := ⟨_, rfl⟩
            have hi2 : g < (bsV (D.take (g + 1))).size := by omega
            have hget : (bsV (D.take (g + 1)))[g]'hi2 = c := by rw [bs_get, List.getElem_take]; exact hc
            have hex : (bsV (D.take (g + 1))).extract 0 g = bsV (D.take g) := by rw [bs_take, List.take_take, Nat.min_eq_left (Nat.le_succ g)]
            have hp1 : (0 : Int) < ((g + 1 : Nat) : Int) := by omega
            have hsub : ((g + 1 : Nat) : Int) - 1 = (g : Int) := by omega
            have hwr : IntKind.i64.wrap (((g + 1 : Nat) : Int) - 1) = (g : Int) := by rw [hsub]; exact IntWalk.i64_in _ (by omega)
            have hs1 : (0 : Int) ≤ (g : Int) := by omega
            have hs2 : (g : Int) ≤ ((g + 1 : Nat) : Int) := by omega
            have hs3 : (g : Int) < ((g + 1 : Nat) : Int) := by omega
            obtain ⟨e1, e2⟩ := toList_ne (s := bsV (D.take (g + 1))) (by omega)
            by_cases h48 : c = 48
            · have hcq : ((c.toNat : Int) == 48) = true := by rw [h48]; rfl
              have Hq := hide (show (D.drop g).all (· == 48) = true by
                rw [List.drop_eq_getElem_cons hgl, List.all_cons, hq, hc, h48]; rfl)
              clear h48 hq hc
              obtain ⟨m, hm⟩ : ∃ m : Int, ((g + 1 : Nat) : Int) = m := ⟨_, rfl⟩
              rw [hm] at hp1 hwr hs2 hs3 hsub
              have hsz3 : ((bsV (D.take (g + 1))).size : Int) = m := by rw [hsz2]; exact hm
              clear hsz2
              generalize hX : bsV (D.take (g + 1)) = X at *
              clear hX
              go_wp2
              go_roundg g
              case measure => omega
              case rel => exact ⟨by omega, Hq.out, K0.out.set_ 1 (.string (bsV (D.take g))), K1.out.off (by omega) _ _, Kb.out.setCell (p := ⟨w.heap.size, 1, none⟩) (Nat.le_refl _) _⟩
            · have hcq : ((c.toNat : Int) == 48) = false := beq_eq_false_iff_ne.2 fun e => h48 ((u8i c 48).1 e)
              have hs0 : stripV d = D.take (g + 1) := by
                rw [HSV.out]
                refine tail_stop D (g + 1) hj hq (fun x _ hx => ?_)
                rw [Nat.add_sub_cancel, List.getElem?_eq_getElem hgl, hc] at hx
                rw [← Option.some.inj hx]; exact h48
              have HV := hide (show stripR neg d e = #[.bool neg, .string (bsV (D.take (g + 1))), .int .i64 E] by
                unfold stripR
                rw [hs0, if_neg (by intro h; rw [h] at hsz2; cases hsz2), HLD.out])
              clear h48 hq hc hs0
              obtain ⟨m, hm⟩ : ∃ m : Int, ((g + 1 : Nat) : Int) = m := ⟨_, rfl⟩
              rw [hm] at hp1 hwr hs2 hs3 hsub
              have hsz3 : ((bsV (D.take (g + 1))).size : Int) = m := by rw [hsz2]; exact hm
              clear hsz2 hm
              generalize bsV (D.take (g + 1)) = X at *
              have Hrow := hide (show Row (((wr.setCell ⟨w.heap.size + 1, 0, none⟩ (.bool neg)).setCell ⟨w.heap.size + 1, 1, none⟩ (.string X)).setCell ⟨w.heap.size + 1, 2, none⟩ (.int .i64 E)) (w.heap.size + 1) 77 #[.bool neg, .string X, .int .i64 E] from ((K1.out.set_ 0 (.bool neg)).set_ 1 (.string X)).set_ 2 (.int .i64 E))
              have HB2 := hide (((Kb.out.setCell (p := ⟨w.heap.size + 1, 0, none⟩) (Nat.le_succ _) (.bool neg)).setCell (p := ⟨w.heap.size + 1, 1, none⟩) (Nat.le_succ _) (.string X)).setCell (p := ⟨w.heap.size + 1, 2, none⟩) (Nat.le_succ _) (.int .i64 E))
              go_wp2
              exact bodyPost_ret (v := .agg #[.bool neg, .string X, .int .i64 E]) (results_cell_row rfl _ _ (w.heap.size + 1) 77 _ _ _ rfl Hrow.out Tryz.underlying77 rfl (by kernel_rfl)) rfl ⟨congrArg (fun a => Ending.returned (.agg a)) HV.out.symm, HB2.out⟩
end Go.Proofs.YtpjikbfeegncbaaGreatDoor
