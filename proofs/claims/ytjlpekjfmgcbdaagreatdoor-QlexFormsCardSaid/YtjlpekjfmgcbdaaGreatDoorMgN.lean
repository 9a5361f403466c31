/- MgN: the texts QrY QrZ in one. -/
import Derived.Test.YtjlpekjfmgcbdaaGreatDoorMgM
import Derived.Deep.DeepCutAuto
import Derived.Deep.CutBlock
import Derived.BigQuiet
/- Contract of the reference's real. -/
set_option linter.unusedVariables false
set_option linter.unusedSimpArgs false
namespace Go.Proofs.YtjlpekjfmgcbdaaGreatDoor
open Go.RowKit Go.Shelf
/-- the end of a real, 0: none -/
def rlR (l : List UInt8) (n : Nat) : Nat := if n < expQ l (dotQ l n) then expQ l (dotQ l n) else 0
theorem low_e (c : UInt8) : lowR c = 101 ↔ lowQ c = 101 := all_bytes (p := fun c => lowR c = 101 ↔ lowQ c = 101) (by decide +kernel) c
set_option maxRecDepth 20000 in
set_option maxHeartbeats 8000000 in
theorem refReal_any (l : List UInt8) (n : Nat) (w : World) (hl : l.length ≤ 50000) (hn : n ≤ l.length) :
    Calls Tryz.prog 88 #[.string (bsQ l), .int .i64 (n : Int)] w fun e w' => e = .returned (.int .i64 (rlR l n : Int)) ∧ w' = w := by
  have hz := bsQ_size l
  have hg : ∀ (i : Nat) (h : i < (bsQ l).size) (h2 : i < l.length), (bsQ l)[i]'h = l[i] := fun i h h2 => bsQ_get l i h
  have DG := hide refDigitQ_any
  have LW := hide refLowerQ_any
  have RD := hide (fun (k : Nat) (W : World) (h : k ≤ 1000000) => refDigitsQ_any l k W (by omega) h)
  have Hz := hide hz
  have Hg := hide (fun (i : Nat) (h : i < (bsQ l).size) (h2 : i < l.length) => hg i h h2)
  clear hg hz
  generalize bsQ l = s at *
  obtain ⟨dt, hdt⟩ : ∃ b, dotB l n = b := ⟨_, rfl⟩
  have Hdt := hide hdt
  have hdq := dotQ_B l n
  rw [hdt] at hdq
  have Hdq := hide hdq
  clear hdt hdq
  have wn : IntKind.i64.wrap ((n : Int) + 1) = (n : Int) + 1 := IntWalk.i64_in _ (by omega)
  have hn0 : (0 : Int) ≤ (n : Int) := by omega
  go_enter Tryz.func88, Tryz.ntmps88
  go_upto_region 2 with fail
  go_cut [26] (fun v wx => v = .bool dt ∧ wx = w)
  case first =>
    by_cases h1 : n + 1 < l.length
    · have q1 : (n : Int) + 1 < (s.size : Int) := by have := Hz.out; omega
      have q2 : (n : Int) < (s.size : Int) := by omega
      have q3 : (0 : Int) ≤ (n : Int) + 1 := by omega
      have hns : n < s.size := by have := Hz.out; omega
      have hns1 : n + 1 < s.size := by have := Hz.out; omega
      have q4 : ((n : Int) + 1).toNat = n + 1 := by omega
      obtain ⟨c, hc⟩ : ∃ c, l[n]'(by omega) = c := ⟨_, rfl⟩
      obtain ⟨d, hd⟩ : ∃ d, l[n+1]'h1 = d := ⟨_, rfl⟩
      have hsc : s[n]'hns = c := by rw [Hg.out n hns (by omega), hc]
      have hsd : s[n+1]'hns1 = d := by rw [Hg.out (n+1) hns1 h1, hd]
      by_cases h46 : c = 46
      · subst h46
        have HB := hide (show dgQ d = dt by rw [← Hdt.out, dotB_dot h1 hc, hd])
        have D := hide (DG.out d)
        rw [HB.out] at D
        clear hc hd
        go_wp2_with fail
        refine (D.out _).mono ?_
        rintro e w1 ⟨rfl, rfl⟩
        go_wp2_with fail
        go_meet
        exact ⟨rfl, rfl⟩
      · have e1 : ((c.toNat : Int) == 46) = false := toNat_neQ (d := 46) h46
        have HB := hide (show false = dt by rw [← Hdt.out, dotB_no (by omega) (by rw [hc]; exact h46)])
        clear hc hd h46
        go_wp2_with fail
        go_meet
        exact ⟨congrArg Value.bool HB.out, rfl⟩
    · have q1 : ¬ (n : Int) + 1 < (s.size : Int) := by have := Hz.out; omega
      have HB := hide (show false = dt by rw [← Hdt.out, dotB_end (by omega)])
      go_wp2_with fail
      go_meet
      exact ⟨congrArg Value.bool HB.out, rfl⟩
  case rest =>
  obtain ⟨rfl, rfl⟩ := hcut
  cases dt with
  | true =>
    obtain ⟨e1, he1⟩ : ∃ e1, n + 1 + spn dgQ (l.drop (n + 1)) = e1 := ⟨_, rfl⟩
    have RD1 := hide (fun W : World => show Calls Tryz.prog 40 #[.string s, .int .i64 ((n : Int) + 1)] W fun e w' => e = .returned (.int .i64 (e1 : Int)) ∧ w' = W by rw [← he1]; exact RD.out (n + 1) W (by omega))
    have Hq := hide (show dotQ l n = e1 by rw [Hdq.out, if_pos rfl]; exact he1)
    have hen : n < e1 := by omega
    have hel : e1 ≤ l.length ∨ e1 = n + 1 := by have := spn_le dgQ (l.drop (n + 1)); rw [List.length_drop] at this; omega
    have q9 : (n : Int) < (e1 : Int) := by omega
    clear he1
    go_wp2_with fail
    refine (RD1.out _).mono ?_
    rintro e w1 ⟨rfl, rfl⟩
    go_upto_region 5 with fail
    have HZ := hide (fun (h : expQ l e1 = e1) => show Ending.returned (.int .i64 (e1 : Int)) = .returned (.int .i64 (rlR l n : Int)) by unfold rlR; rw [Hq.out, h, if_pos (by omega)])
    have HW := hide (fun (M : Nat) (h : expQ l e1 = M) (h2 : n < M) => show Ending.returned (.int .i64 (M : Int)) = .returned (.int .i64 (rlR l n : Int)) by unfold rlR; rw [Hq.out, h, if_pos h2])
    have q0 : (0 : Int) ≤ (e1 : Int) := by omega
    have w1e : IntKind.i64.wrap ((e1 : Int) + 1) = (e1 : Int) + 1 := IntWalk.i64_in _ (by omega)
    by_cases h1 : e1 < l.length
    · have q1 : (e1 : Int) < (s.size : Int) := by have := Hz.out; omega
      have hes : e1 < s.size := by have := Hz.out; omega
      obtain ⟨c, hc⟩ : ∃ c, l[e1]'h1 = c := ⟨_, rfl⟩
      have hsc : s[e1]'hes = c := by rw [Hg.out e1 hes h1, hc]
      have L := hide (LW.out c)
      by_cases h101 : lowR c = 101
      · have hy := fun m hm => expQ_yes h1 (by rw [hc]; exact (low_e c).1 h101) m hm
        have HY := hide (fun m hm => hy m hm)
        rw [h101] at L
        clear hy
        by_cases h2 : e1 + 1 < l.length
        · have q2 : (e1 : Int) + 1 < (s.size : Int) := by have := Hz.out; omega
          have q3 : (0 : Int) ≤ (e1 : Int) + 1 := by omega
          have hes1 : e1 + 1 < s.size := by have := Hz.out; omega
          have q4 : ((e1 : Int) + 1).toNat = e1 + 1 := by omega
          obtain ⟨d, hd⟩ : ∃ d, l[e1+1]'h2 = d := ⟨_, rfl⟩
          have hsd : s[e1+1]'hes1 = d := by rw [Hg.out (e1+1) hes1 h2, hd]
          have hhd : (l.drop (e1 + 1)).head? = some d := by rw [List.drop_eq_getElem_cons h2, hd]; rfl
          by_cases h43 : d = 43 ∨ d = 45
          · have HM := hide (HY.out (e1 + 2) (by rw [hhd, if_pos (by rcases h43 with h | h; exact .inl (congrArg some h); exact .inr (congrArg some h))]))
            have w2e : IntKind.i64.wrap ((e1 : Int) + 1 + 1) = (e1 : Int) + 2 := by rw [show (e1 : Int) + 1 + 1 = (e1 : Int) + 2 by omega]; exact IntWalk.i64_in _ (by omega)
            have RD2 := hide (fun W : World => show Calls Tryz.prog 40 #[.string s, .int .i64 ((e1 : Int) + 2)] W fun e w' => e = .returned (.int .i64 ((e1 + 2 + spn dgQ (l.drop (e1 + 2)) : Nat) : Int)) ∧ w' = W from RD.out (e1 + 2) W (by omega))
            obtain ⟨sp, hsp⟩ : ∃ sp, spn dgQ (l.drop (e1 + 2)) = sp := ⟨_, rfl⟩
            rw [hsp] at RD2 HM
            clear hsp hc hd hhd
            by_cases h0 : 0 < sp
            · obtain ⟨M, hM⟩ : ∃ M, e1 + 2 + sp = M := ⟨_, rfl⟩
              rw [hM] at RD2
              have HF := hide (HW.out M (by rw [HM.out, if_pos h0, hM]) (by omega))
              have q5 : (e1 : Int) + 2 < (M : Int) := by omega
              clear h0 hM
              rcases h43 with rfl | rfl
              all_goals
                go_wp2_with fail
                refine (L.out _).mono ?_
                rintro e w1 ⟨rfl, rfl⟩
                go_wp2_with fail
                refine (RD2.out _).mono ?_
                rintro e w1 ⟨rfl, rfl⟩
                go_wp2
                go_ret
                exact ⟨HF.out, rfl⟩
            · obtain rfl : sp = 0 := by omega
              have hx := HM.out
              rw [if_neg (by omega)] at hx
              have HX := hide hx
              have RD2 := hide (fun W : World => show Calls Tryz.prog 40 #[.string s, .int .i64 ((e1 : Int) + 2)] W fun e w' => e = .returned (.int .i64 ((e1 : Int) + 2)) ∧ w' = W from RD2.out W)
              clear hx h0
              rcases h43 with rfl | rfl
              all_goals
                go_wp2_with fail
                refine (L.out _).mono ?_
                rintro e w1 ⟨rfl, rfl⟩
                go_wp2_with fail
                refine (RD2.out _).mono ?_
                rintro e w1 ⟨rfl, rfl⟩
                go_wp2
                go_ret
                exact ⟨HZ.out HX.out, rfl⟩
          · have HM := hide (HY.out (e1 + 1) (by rw [hhd, if_neg (by rintro (h | h); exact h43 (.inl (Option.some.inj h)); exact h43 (.inr (Option.some.inj h)))]))
            have RD2 := hide (fun W : World => show Calls Tryz.prog 40 #[.string s, .int .i64 ((e1 : Int) + 1)] W fun e w' => e = .returned (.int .i64 ((e1 + 1 + spn dgQ (l.drop (e1 + 1)) : Nat) : Int)) ∧ w' = W from RD.out (e1 + 1) W (by omega))
            have e43 : ((d.toNat : Int) == 43) = false := toNat_neQ (d := 43) (fun h => h43 (.inl h))
            have e45 : ((d.toNat : Int) == 45) = false := toNat_neQ (d := 45) (fun h => h43 (.inr h))
            obtain ⟨sp, hsp⟩ : ∃ sp, spn dgQ (l.drop (e1 + 1)) = sp := ⟨_, rfl⟩
            rw [hsp] at RD2 HM
            clear hsp hc hd hhd h43
            by_cases h0 : 0 < sp
            · obtain ⟨M, hM⟩ : ∃ M, e1 + 1 + sp = M := ⟨_, rfl⟩
              rw [hM] at RD2
              have HF := hide (HW.out M (by rw [HM.out, if_pos h0, hM]) (by omega))
              have q5 : (e1 : Int) + 1 < (M : Int) := by omega
              clear h0 hM
              go_wp2_with fail
              refine (L.out _).mono ?_
              rintro e w1 ⟨rfl, rfl⟩
              go_wp2_with fail
              refine (RD2.out _).mono ?_
              rintro e w1 ⟨rfl, rfl⟩
              go_wp2
              go_ret
              exact ⟨HF.out, rfl⟩
            · obtain rfl : sp = 0 := by omega
              have hx := HM.out
              rw [if_neg (by omega)] at hx
              have HX := hide hx
              have RD2 := hide (fun W : World => show Calls Tryz.prog 40 #[.string s, .int .i64 ((e1 : Int) + 1)] W fun e w' => e = .returned (.int .i64 ((e1 : Int) + 1)) ∧ w' = W from RD2.out W)
              clear hx h0
              go_wp2_with fail
              refine (L.out _).mono ?_
              rintro e w1 ⟨rfl, rfl⟩
              go_wp2_with fail
              refine (RD2.out _).mono ?_
              rintro e w1 ⟨rfl, rfl⟩
              go_wp2
              go_ret
              exact ⟨HZ.out HX.out, rfl⟩
        · have q2 : ¬ (e1 : Int) + 1 < (s.size : Int) := by have := Hz.out; omega
          have hx : expQ l e1 = e1 := by
            rw [HY.out (e1 + 1) (by rw [List.drop_eq_nil_of_le (by omega)]; rfl), List.drop_eq_nil_of_le (by omega)]; rfl
          have RD2 := hide (fun W : World => show Calls Tryz.prog 40 #[.string s, .int .i64 ((e1 : Int) + 1)] W fun e w' => e = .returned (.int .i64 ((e1 : Int) + 1)) ∧ w' = W by
            have h := RD.out (e1 + 1) W (by omega)
            rw [List.drop_eq_nil_of_le (by omega)] at h
            exact h)
          have HX := hide hx
          clear hx hc
          go_wp2_with fail
          refine (L.out _).mono ?_
          rintro e w1 ⟨rfl, rfl⟩
          go_wp2_with fail
          refine (RD2.out _).mono ?_
          rintro e w1 ⟨rfl, rfl⟩
          go_wp2
          go_ret
          exact ⟨HZ.out HX.out, rfl⟩
      · have HX := hide (expQ_no h1 (by rw [hc]; exact fun h => h101 ((low_e c).2 h)))
        have e101 : (((lowR c).toNat : Int) == 101) = false := toNat_neQ (d := 101) h101
        generalize lowR c = lc at *
        clear hc h101
        go_wp2_with fail
        refine (L.out _).mono ?_
        rintro e w1 ⟨rfl, rfl⟩
        go_wp2
        go_ret
        exact ⟨HZ.out HX.out, rfl⟩
    · have q1 : ¬ (e1 : Int) < (s.size : Int) := by have := Hz.out; omega
      have HX := hide (expQ_nil (l := l) (n := e1) (by omega))
      go_wp2
      go_ret
      exact ⟨HZ.out HX.out, rfl⟩
  | false =>
    have Hq := hide (show dotQ l n = n by rw [Hdq.out, if_neg (by decide)])
    go_upto_region 5 with fail
    have HZ := hide (fun (h : expQ l n = n) => show Ending.returned (.int .i64 0) = .returned (.int .i64 (rlR l n : Int)) by unfold rlR; rw [Hq.out, h, if_neg (by omega)]; rfl)
    have HW := hide (fun (M : Nat) (h : expQ l n = M) (h2 : n < M) => show Ending.returned (.int .i64 (M : Int)) = .returned (.int .i64 (rlR l n : Int)) by unfold rlR; rw [Hq.out, h, if_pos h2])
    have q0 : (0 : Int) ≤ (n : Int) := by omega
    have w1e : IntKind.i64.wrap ((n : Int) + 1) = (n : Int) + 1 := IntWalk.i64_in _ (by omega)
    by_cases h1 : n < l.length
    · have q1 : (n : Int) < (s.size : Int) := by have := Hz.out; omega
      have hes : n < s.size := by have := Hz.out; omega
      obtain ⟨c, hc⟩ : ∃ c, l[n]'h1 = c := ⟨_, rfl⟩
      have hsc : s[n]'hes = c := by rw [Hg.out n hes h1, hc]
      have L := hide (LW.out c)
      by_cases h101 : lowR c = 101
      · have hy := fun m hm => expQ_yes h1 (by rw [hc]; exact (low_e c).1 h101) m hm
        have HY := hide (fun m hm => hy m hm)
        rw [h101] at L
        clear hy
        by_cases h2 : n + 1 < l.length
        · have q2 : (n : Int) + 1 < (s.size : Int) := by have := Hz.out; omega
          have q3 : (0 : Int) ≤ (n : Int) + 1 := by omega
          have hes1 : n + 1 < s.size := by have := Hz.out; omega
          have q4 : ((n : Int) + 1).toNat = n + 1 := by omega
          obtain ⟨d, hd⟩ : ∃ d, l[n+1]'h2 = d := ⟨_, rfl⟩
          have hsd : s[n+1]'hes1 = d := by rw [Hg.out (n+1) hes1 h2, hd]
          have hhd : (l.drop (n + 1)).head? = some d := by rw [List.drop_eq_getElem_cons h2, hd]; rfl
          by_cases h43 : d = 43 ∨ d = 45
          · have HM := hide (HY.out (n + 2) (by rw [hhd, if_pos (by rcases h43 with h | h; exact .inl (congrArg some h); exact .inr (congrArg some h))]))
            have w2e : IntKind.i64.wrap ((n : Int) + 1 + 1) = (n : Int) + 2 := by rw [show (n : Int) + 1 + 1 = (n : Int) + 2 by omega]; exact IntWalk.i64_in _ (by omega)
            have RD2 := hide (fun W : World => show Calls Tryz.prog 40 #[.string s, .int .i64 ((n : Int) + 2)] W fun e w' => e = .returned (.int .i64 ((n + 2 + spn dgQ (l.drop (n + 2)) : Nat) : Int)) ∧ w' = W from RD.out (n + 2) W (by omega))
            obtain ⟨sp, hsp⟩ : ∃ sp, spn dgQ (l.drop (n + 2)) = sp := ⟨_, rfl⟩
            rw [hsp] at RD2 HM
            clear hsp hc hd hhd
            by_cases h0 : 0 < sp
            · obtain ⟨M, hM⟩ : ∃ M, n + 2 + sp = M := ⟨_, rfl⟩
              rw [hM] at RD2
              have HF := hide (HW.out M (by rw [HM.out, if_pos h0, hM]) (by omega))
              have q5 : (n : Int) + 2 < (M : Int) := by omega
              clear h0 hM
              rcases h43 with rfl | rfl
              all_goals
                go_wp2_with fail
                refine (L.out _).mono ?_
                rintro e w1 ⟨rfl, rfl⟩
                go_wp2_with fail
                refine (RD2.out _).mono ?_
                rintro e w1 ⟨rfl, rfl⟩
                go_wp2
                go_ret
                exact ⟨HF.out, rfl⟩
            · obtain rfl : sp = 0 := by omega
              have hx := HM.out
              rw [if_neg (by omega)] at hx
              have HX := hide hx
              have RD2 := hide (fun W : World => show Calls Tryz.prog 40 #[.string s, .int .i64 ((n : Int) + 2)] W fun e w' => e = .returned (.int .i64 ((n : Int) + 2)) ∧ w' = W from RD2.out W)
              clear hx h0
              rcases h43 with rfl | rfl
              all_goals
                go_wp2_with fail
                refine (L.out _).mono ?_
                rintro e w1 ⟨rfl, rfl⟩
                go_wp2_with fail
                refine (RD2.out _).mono ?_
                rintro e w1 ⟨rfl, rfl⟩
                go_wp2
                go_ret
                exact ⟨HZ.out HX.out, rfl⟩
          · have HM := hide (HY.out (n + 1) (by rw [hhd, if_neg (by rintro (h | h); exact h43 (.inl (Option.some.inj h)); exact h43 (.inr (Option.some.inj h)))]))
            have RD2 := hide (fun W : World => show Calls Tryz.prog 40 #[.string s, .int .i64 ((n : Int) + 1)] W fun e w' => e = .returned (.int .i64 ((n + 1 + spn dgQ (l.drop (n + 1)) : Nat) : Int)) ∧ w' = W from RD.out (n + 1) W (by omega))
            have e43 : ((d.toNat : Int) == 43) = false := toNat_neQ (d := 43) (fun h => h43 (.inl h))
            have e45 : ((d.toNat : Int) == 45) = false := toNat_neQ (d := 45) (fun h => h43 (.inr h))
            obtain ⟨sp, hsp⟩ : ∃ sp, spn dgQ (l.drop (n + 1)) = sp := ⟨_, rfl⟩
            rw [hsp] at RD2 HM
            clear hsp hc hd hhd h43
            by_cases h0 : 0 < sp
            · obtain ⟨M, hM⟩ : ∃ M, n + 1 + sp = M := ⟨_, rfl⟩
              rw [hM] at RD2
              have HF := hide (HW.out M (by rw [HM.out, if_pos h0, hM]) (by omega))
              have q5 : (n : Int) + 1 < (M : Int) := by omega
              clear h0 hM
              go_wp2_with fail
              refine (L.out _).mono ?_
              rintro e w1 ⟨rfl, rfl⟩
              go_wp2_with fail
              refine (RD2.out _).mono ?_
              rintro e w1 ⟨rfl, rfl⟩
              go_wp2
              go_ret
              exact ⟨HF.out, rfl⟩
            · obtain rfl : sp = 0 := by omega
              have hx := HM.out
              rw [if_neg (by omega)] at hx
              have HX := hide hx
              have RD2 := hide (fun W : World => show Calls Tryz.prog 40 #[.string s, .int .i64 ((n : Int) + 1)] W fun e w' => e = .returned (.int .i64 ((n : Int) + 1)) ∧ w' = W from RD2.out W)
              clear hx h0
              go_wp2_with fail
              refine (L.out _).mono ?_
              rintro e w1 ⟨rfl, rfl⟩
              go_wp2_with fail
              refine (RD2.out _).mono ?_
              rintro e w1 ⟨rfl, rfl⟩
              go_wp2
              go_ret
              exact ⟨HZ.out HX.out, rfl⟩
        · have q2 : ¬ (n : Int) + 1 < (s.size : Int) := by have := Hz.out; omega
          have hx : expQ l n = n := by
            rw [HY.out (n + 1) (by rw [List.drop_eq_nil_of_le (by omega)]; rfl), List.drop_eq_nil_of_le (by omega)]; rfl
          have RD2 := hide (fun W : World => show Calls Tryz.prog 40 #[.string s, .int .i64 ((n : Int) + 1)] W fun e w' => e = .returned (.int .i64 ((n : Int) + 1)) ∧ w' = W by
            have h := RD.out (n + 1) W (by omega)
            rw [List.drop_eq_nil_of_le (by omega)] at h
            exact h)
          have HX := hide hx
          clear hx hc
          go_wp2_with fail
          refine (L.out _).mono ?_
          rintro e w1 ⟨rfl, rfl⟩
          go_wp2_with fail
          refine (RD2.out _).mono ?_
          rintro e w1 ⟨rfl, rfl⟩
          go_wp2
          go_ret
          exact ⟨HZ.out HX.out, rfl⟩
      · have HX := hide (expQ_no h1 (by rw [hc]; exact fun h => h101 ((low_e c).2 h)))
        have e101 : (((lowR c).toNat : Int) == 101) = false := toNat_neQ (d := 101) h101
        generalize lowR c = lc at *
        clear hc h101
        go_wp2_with fail
        refine (L.out _).mono ?_
        rintro e w1 ⟨rfl, rfl⟩
        go_wp2
        go_ret
        exact ⟨HZ.out HX.out, rfl⟩
    · have q1 : ¬ (n : Int) < (s.size : Int) := by have := Hz.out; omega
      have HX := hide (expQ_nil (l := l) (n := n) (by omega))
      go_wp2
      go_ret
      exact ⟨HZ.out HX.out, rfl⟩
end Go.Proofs.YtjlpekjfmgcbdaaGreatDoor

/- Contracts of the reference's Has, units, symbols, Same. -/
set_option linter.unusedVariables false
set_option linter.unusedSimpArgs false
namespace Go.Proofs.YtjlpekjfmgcbdaaGreatDoor
open Go.RowKit Go.Shelf
def strQ (t : List UInt8) : Value := .string (bsQ t)
theorem slQ_new {W : World} {g : Nat} {t : TypeId} {xs : List (List UInt8)} (h : Row W g t (xs.map strQ).toArray) : Sl strQ W (some ⟨g, 0, none⟩) xs := fun hp =>
  ⟨g, 0, rfl, fun i hi => by rw [Nat.zero_add, h.cell, List.getElem?_toArray, List.getElem?_map, List.getElem?_eq_getElem hi]; rfl⟩
theorem refHas_any (A : Option Addr) (cap : Nat) (xs : List (List UInt8)) (x : List UInt8) (w : World) (hx : Sl strQ w A xs) (hl : xs.length ≤ 1000000) :
    Calls Tryz.prog 26 #[.slice A xs.length cap, .string (bsQ x)] w fun e w' => e = .returned (.bool (decide (x ∈ xs))) ∧ w' = w := by
  obtain ⟨n, hn⟩ : ∃ n, xs.length = n := ⟨_, rfl⟩
  obtain ⟨R, hR⟩ : ∃ R, decide (x ∈ xs) = R := ⟨_, rfl⟩
  rw [hn, hR]
  have HN := hide hn
  have HR := hide hR
  have Hx := hide hx
  have hnl : n ≤ 1000000 := by omega
  obtain ⟨sx, hsx⟩ : ∃ sx, bsQ x = sx := ⟨_, rfl⟩
  have Hsx := hide hsx
  rw [hsx]
  clear hn hR hx hsx
  go_enter Tryz.func26, Tryz.ntmps26
  go_wp2_with fail
  go_loop [5] (fun v => ∃ i : Nat, v = .int .i64 (i : Int) ∧ i ≤ n ∧ Hid (decide (x ∈ xs.drop i) = R)) (fun v => n - (intOf v).toNat)
  case atStart => exact ⟨0, rfl, Nat.zero_le _, hide (by rw [List.drop_zero]; exact HR.out)⟩
  case round =>
    obtain ⟨i, rfl, hi, HI⟩ := hrel
    by_cases hlt : i < n
    · have hi' : (i : Int) < (n : Int) := by omega
      have hi0 : (0 : Int) ≤ (i : Int) := by omega
      have hix : i < xs.length := by rw [HN.out]; exact hlt
      obtain ⟨bA, oA, rfl, hzA, hcA⟩ := Hx.out.at hix
      have ca := hcA w (Below.refl _ _)
      have hd := HI.out
      rw [List.drop_eq_getElem_cons hix] at hd
      obtain ⟨y, hy⟩ : ∃ y, xs[i]'hix = y := ⟨_, rfl⟩
      rw [hy] at ca hd
      replace ca : w.cell? ⟨bA, oA + i, none⟩ = some (.string (bsQ y)) := ca
      have hq : ((bsQ y).toList == sx.toList) = (y == x) := by rw [← Hsx.out]; exact bsQ_beq y x
      have hw : IntKind.i64.wrap ((i : Int) + 1) = (i : Int) + 1 := IntWalk.i64_in _ (by omega)
      clear hy hcA
      cases hk : (y == x) with
      | true =>
        rw [hk] at hq
        have hyx : y = x := eq_of_beq hk
        have HV := hide (show true = R by rw [← hd, hyx]; exact (decide_eq_true List.mem_cons_self).symm)
        generalize bsQ y = sy at *
        clear hd hk hyx
        go_wp2
        go_ret
        exact ⟨retQ_b HV.out.symm, rfl⟩
      | false =>
        rw [hk] at hq
        have hyx : ¬ y = x := fun e => by rw [e, beq_self_eq_true] at hk; cases hk
        have HN2 := hide (show decide (x ∈ xs.drop (i + 1)) = R by
          rw [← hd]
          apply decide_eq_decide.2
          exact ⟨fun h => List.mem_cons_of_mem _ h, fun h => (List.mem_cons.1 h).resolve_left (fun e => hyx e.symm)⟩)
        generalize bsQ y = sy at *
        clear hd hk hyx
        go_wp2
        go_round
        case rel => exact ⟨i + 1, by go_num, by omega, HN2⟩
        case measure => simp [intOf]; omega
    · have hi' : ¬ (i : Int) < (n : Int) := by omega
      have HV := hide (show false = R by rw [← HI.out, List.drop_eq_nil_of_le (by rw [HN.out]; omega)]; exact (decide_eq_false (by simp)).symm)
      go_wp2
      go_ret
      exact ⟨retQ_b HV.out.symm, rfl⟩
def unitsS : List (List UInt8) := [[115], [109, 115], [117, 115], [110, 115], [112, 115], [102, 115]]
theorem unitsS_mem (x : List UInt8) : x ∈ unitsS ↔ x ∈ unitsQ := by
  unfold unitsS unitsQ
  simp only [List.mem_cons, List.not_mem_nil, or_false]
  constructor
  · rintro (h | h | h | h | h | h) <;> simp [h]
  · rintro (h | h | h | h | h | h) <;> simp [h]
theorem refUnits_any (w : World) : Calls Tryz.prog 90 #[] w fun e w' => e = .returned (.slice (some ⟨w.heap.size, 0, none⟩) 6 6) ∧ Sl strQ w' (some ⟨w.heap.size, 0, none⟩) unitsS ∧ Below w.heap.size w w' := by
  go_enter Tryz.func90, Tryz.ntmps90
  go_wp2
  go_ret
  exact ⟨rfl, slQ_new (xs := unitsS) (Row.new w 9 _), (Below.refl _ _).alloc (Nat.le_refl _) _⟩
theorem refSymbols_any (w : World) : Calls Tryz.prog 60 #[] w fun e w' => e = .returned (.slice (some ⟨w.heap.size, 0, none⟩) 26 26) ∧ Sl strQ w' (some ⟨w.heap.size, 0, none⟩) symsQ ∧ Below w.heap.size w w' := by
  go_enter Tryz.func60, Tryz.ntmps60
  go_wp2
  go_ret
  exact ⟨rfl, slQ_new (xs := symsQ) (Row.new w 9 _), (Below.refl _ _).alloc (Nat.le_refl _) _⟩
set_option maxRecDepth 20000 in
set_option maxHeartbeats 4000000 in
theorem Same_self (A A' : Option Addr) (cap cap' : Nat) (xs : List Lx) (w : World) (hx : LxSl w A xs) (hy : LxSl w A' xs) (hl : xs.length ≤ 1000000) :
    Calls Tryz.prog 12 #[.slice A xs.length cap, .slice A' xs.length cap'] w fun e w' => e = .returned (.bool true) ∧ Below w.heap.size w w' := by
  obtain ⟨n, hn⟩ : ∃ n, xs.length = n := ⟨_, rfl⟩
  rw [hn]
  have Hx := hide hx
  have Hy := hide hy
  have Hn := hide hn
  have hnl : n ≤ 1000000 := by omega
  have e1 : ((n : Int) == (n : Int)) = true := beq_self_eq_true _
  clear hx hy hn hl
  go_enter Tryz.func12, Tryz.ntmps12
  go_wp2_with fail
  go_loopw [5] (fun v wr => ∃ i : Nat, v = .int .i64 (i : Int) ∧ i ≤ n ∧ Below w.heap.size w wr) (fun v _ => n - (intOf v).toNat)
  case atStart => exact ⟨0, rfl, Nat.zero_le _, Below.refl _ _⟩
  case round =>
    obtain ⟨i, rfl, hi, hb⟩ := hrel
    have Hb := hide hb
    by_cases hlt : i < n
    · have hi' : (i : Int) < (n : Int) := by omega
      have hi0 : (0 : Int) ≤ (i : Int) := by omega
      have hix : i < xs.length := by rw [Hn.out]; exact hlt
      obtain ⟨bA, oA, rfl, hzA, hcA⟩ := Hx.out.at hix
      obtain ⟨bB, oB, rfl, hzB, hcB⟩ := Hy.out.at hix
      obtain ⟨ca0, ca1, ca2⟩ := hcA wr hb
      obtain ⟨cb0, cb1, cb2⟩ := hcB wr hb
      obtain ⟨x, hx⟩ : ∃ x, xs[i]'hix = x := ⟨_, rfl⟩
      rw [hx] at ca0 ca1 ca2 cb0 cb1 cb2
      clear hx hcA hcB hb
      have hw : IntKind.i64.wrap ((i : Int) + 1) = (i : Int) + 1 := IntWalk.i64_in _ (by omega)
      generalize bsQ x.text = sx at *
      have k1 : (x.kind == x.kind) = true := beq_self_eq_true _
      have k2 : (sx.toList == sx.toList) = true := beq_self_eq_true _
      have k3 : ((x.at0 : Int) == (x.at0 : Int)) = true := beq_self_eq_true _
      generalize x.kind = xk at *
      generalize x.at0 = xa at *
      go_wp2_with fail
      go_quiet (fail)
      go_wp2
      go_roundw
      case rel => exact ⟨i + 1, by go_num, by omega, Below_drewN Hb.out _⟩
      case measure => simp [intOf]; omega
    · have hi' : ¬ (i : Int) < (n : Int) := by omega
      clear hb
      go_wp2
      go_ret
      exact ⟨rfl, Hb.out⟩
end Go.Proofs.YtjlpekjfmgcbdaaGreatDoor
