/- Contracts of the reference's digits, Decimal, strip and Text. -/
import Derived.Test.YtpjikbfeegncbaaGreatDoorVaU
set_option linter.unusedVariables false
set_option linter.unusedSimpArgs false
namespace Go.Proofs.YtpjikbfeegncbaaGreatDoor
open Go.RowKit Go.Shelf Go.Sort

theorem refDigit_any3 (c : UInt8) (w : World) :
    Calls Tryz.prog 116 #[.int .u8 (c.toNat : Int)] w fun e w' => e = .returned (.bool (isD c)) ∧ w' = w := by
  cases h : isD c with
  | true =>
    have hd := of_decide_eq_true (show decide (48 ≤ c.toNat ∧ c.toNat ≤ 57) = true from h)
    have h1 : (48 : Int) ≤ (c.toNat : Int) := by omega
    have h2 : (c.toNat : Int) ≤ 57 := by omega
    clear h hd
    go_enter Tryz.func116, Tryz.ntmps116
    go_wp2
    go_ret
    exact ⟨rfl, rfl⟩
  | false =>
    have hd := of_decide_eq_false (show decide (48 ≤ c.toNat ∧ c.toNat ≤ 57) = false from h)
    by_cases h1 : 48 ≤ c.toNat
    · have h1' : (48 : Int) ≤ (c.toNat : Int) := by omega
      have h2 : ¬ (c.toNat : Int) ≤ 57 := by omega
      clear h hd
      go_enter Tryz.func116, Tryz.ntmps116
      go_wp2
      go_ret
      exact ⟨rfl, rfl⟩
    · have h1' : ¬ (48 : Int) ≤ (c.toNat : Int) := by omega
      clear h hd
      go_enter Tryz.func116, Tryz.ntmps116
      go_wp2
      go_ret
      exact ⟨rfl, rfl⟩
theorem nd_stop (l : List UInt8) (n : Nat) (hn : n ≤ l.length) (h : (l.take n).all isD = true) (he : ∀ c, l[n]? = some c → isD c = false) : nd l = n := by
  have := nd_app (l.take n) (l.drop n) (fun c hc => List.all_eq_true.1 h c hc) (fun c hc => he c (by rw [List.head?_drop] at hc; exact hc))
  rw [List.take_append_drop] at this
  rw [this, List.length_take]; omega

set_option maxRecDepth 20000 in
set_option maxHeartbeats 4000000 in
theorem refDigits_any (l : List UInt8) (a : Nat) (w : World) (ha : a ≤ l.length) (hz : l.length ≤ 1000000) :
    Calls Tryz.prog 96 #[.string (bsV l), .int .i64 (a : Int)] w fun e w' => e = .returned (.int .i64 (nd (l.drop a) : Nat)) ∧ w' = w := by
  have hsz := bs_size l
  go_enter Tryz.func96, Tryz.ntmps96
  go_wp2
  go_loopw [5] (fun v wr => ∃ i : Nat, v = .int .i64 i ∧ a + i ≤ l.length ∧ ((l.drop a).take i).all isD = true ∧ wr = w) (fun v _ => l.length - (intOf v).toNat)
  case atStart => exact ⟨0, rfl, by omega, rfl, rfl⟩
  case round =>
    obtain ⟨i, rfl, hi, hp, rfl⟩ := hrel
    have hwr : IntKind.i64.wrap ((a : Int) + (i : Int)) = (a : Int) + (i : Int) := IntWalk.i64_in _ (by omega)
    have hai : ((a : Int) + (i : Int)).toNat = a + i := by omega
    have hdl : (l.drop a).length = l.length - a := List.length_drop ..
    by_cases hlt : a + i < l.length
    · have hlt' : (a : Int) + (i : Int) < (l.length : Int) := by omega
      have h0' : (0 : Int) ≤ (a : Int) + (i : Int) := by omega
      have hi2 : a + i < (bsV l).size := by rw [hsz]; exact hlt
      have hget := bs_get l (a + i) hi2
      obtain ⟨c, hc⟩ : ∃ c, (bsV l)[a + i]'hi2 = c := ⟨_, rfl⟩
      have hcl : l[a + i]'hlt = c := hget.symm.trans hc
      have hcd : (l.drop a)[i]'(by rw [hdl]; omega) = c := by rw [List.getElem_drop]; exact hcl
      have Hc := hide hc
      have Hp := hide hp
      have CC := hide (fun W : World => refDigit_any3 c W)
      clear hp hget hc
      cases hpr : isD c with
      | true =>
        have Hr := hide (show ((l.drop a).take (i + 1)).all isD = true by rw [all_take (l.drop a) i (by rw [hdl]; omega), Hp.out, hcd, hpr]; rfl)
        rw [hpr] at CC
        clear hpr hcl hcd
        go_wp2_with fail
        rw [Hc.out]
        refine (CC.out _).mono ?_
        rintro e wx ⟨rfl, rfl⟩
        go_wp2
        go_roundw
        case rel => exact ⟨i + 1, by go_num, by omega, Hr.out, by trivial⟩
        case measure => simp [intOf]; omega
      | false =>
        have Hv := hide (nd_stop (l.drop a) i (by rw [hdl]; omega) Hp.out (fun x hx => by
          rw [List.getElem?_eq_getElem (by rw [hdl]; omega), hcd] at hx
          rw [← Option.some.inj hx]; exact hpr))
        rw [hpr] at CC
        clear hpr hcl hcd
        go_wp2_with fail
        rw [Hc.out]
        refine (CC.out _).mono ?_
        rintro e wx ⟨rfl, rfl⟩
        go_wp2
        go_ret
        exact ⟨congrArg (fun b : Nat => Ending.returned (.int .i64 (b : Int))) Hv.out.symm, rfl⟩
    · have hlt' : ¬ (a : Int) + (i : Int) < (l.length : Int) := by omega
      have Hv := hide (nd_stop (l.drop a) i (by rw [hdl]; omega) hp (fun x hx => by
        rw [List.getElem?_eq_none (by rw [hdl]; omega)] at hx; cases hx))
      clear hp
      go_wp2
      go_ret
      exact ⟨congrArg (fun b : Nat => Ending.returned (.int .i64 (b : Int))) Hv.out.symm, rfl⟩

theorem decB_neg (n : Int) (h : n < 0) : decB n = ⟨#[45]⟩ ++ decB (-n) := by
  unfold decB Lib.itoa
  rw [if_pos h, if_neg (by omega), show (-n).toNat = n.natAbs by omega]
  apply ByteArray.ext
  simp
set_option maxHeartbeats 1000000 in
set_option maxRecDepth 20000 in
theorem refDec_nat (n : Nat) : ∀ (w : World) (hn : n ≤ 999999999999999),
    Calls Tryz.prog 98 #[.int .i64 n] w fun e w' => e = .returned (.string (decB n)) ∧ Below w.heap.size w w' := by
  induction n using Nat.strongRecOn with
  | _ n ih =>
  intro w hn
  obtain ⟨c, hc⟩ : ∃ c : UInt8, UInt8.ofNat (48 + n % 10) = c := ⟨_, rfl⟩
  have hct : (c.toNat : Int) = 48 + (n : Int) % 10 := by
    rw [← hc, UInt8.toNat_ofNat', Nat.mod_eq_of_lt (by omega)]
    omega
  have hw : IntKind.u8.wrap (48 + (n : Int) % 10) = (c.toNat : Int) := by rw [hct, IntKind.wrap_u8]; omega
  have hcv := conv1 w c
  have hn0 : ¬ (n : Int) < 0 := by omega
  by_cases h : n < 10
  · rw [dec_small n h, hc]
    clear hc hct ih
    go_enter Tryz.func98, Tryz.ntmps98
    go_wp2
    go_ret
    exact ⟨rfl, (Below.refl _ _).alloc (Nat.le_refl _) _⟩
  · have D := hide (fun W : World => ih (n / 10) (by omega) W (by omega))
    have hq : ((n / 10 : Nat) : Int) = (n : Int) / 10 := by omega
    rw [hq] at D
    have z1 := decB_size ((n : Int) / 10) (by omega) (by omega)
    have c1 := fun W => cat_run (P := Tryz.prog) (decB ((n : Int) / 10)) ⟨#[c]⟩ (by show _ + 1 ≤ _; omega) W
    rw [dec_big n h, hc, hq]
    clear hc hct ih z1 hq
    go_enter Tryz.func98, Tryz.ntmps98
    go_wp2_with fail
    refine (D.out _).mono ?_
    rintro e w1 ⟨rfl, hb⟩
    have HB := hide (((Below.refl w.heap.size w).alloc (Nat.le_refl _) (.cells #[.int .u8 (c.toNat : Int)] 5)).trans (hb.mono (by rw [World.size_alloc]; exact Nat.le_succ _)))
    clear hb
    go_wp2
    go_ret
    exact ⟨rfl, HB.out⟩
set_option maxRecDepth 20000 in
theorem refDec_any (i : Int) (w : World) (h0 : -999999999999999 ≤ i) (h1 : i ≤ 999999999999999) :
    Calls Tryz.prog 98 #[.int .i64 i] w fun e w' => e = .returned (.string (decB i)) ∧ Below w.heap.size w w' := by
  by_cases hn : i < 0
  · obtain ⟨n, hni⟩ : ∃ n : Nat, -i = n := ⟨(-i).toNat, by omega⟩
    have D := hide (fun W : World => refDec_nat n W (by omega))
    have z1 := decB_size (n : Int) (by omega) (by omega)
    have c1 := fun W => cat_run (P := Tryz.prog) ⟨#[45]⟩ (decB (n : Int)) (by show 1 + _ ≤ _; omega) W
    have hwr : IntKind.i64.wrap (-i) = (n : Int) := by rw [IntWalk.i64_in _ (by omega)]; exact hni
    rw [decB_neg i hn, hni]
    clear hni z1
    go_enter Tryz.func98, Tryz.ntmps98
    go_wp2_with fail
    refine (D.out _).mono ?_
    rintro e w1 ⟨rfl, hb⟩
    have HB := hide hb
    clear hb
    go_wp2
    go_ret
    exact ⟨rfl, HB.out⟩
  · obtain ⟨n, rfl⟩ : ∃ n : Nat, i = n := ⟨i.toNat, by omega⟩
    exact refDec_nat n w (by omega)
end Go.Proofs.YtpjikbfeegncbaaGreatDoor
