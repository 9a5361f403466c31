/- MgG: the texts QrA QrB QrC QrD in one. -/
import Derived.Test.YtjlpekjfmgcbdaaGreatDoorMgF
import Derived.Laws.IdiomStrings
/- Contracts of the reference's digit, lower, value, hex. -/
set_option linter.unusedVariables false
set_option linter.unusedSimpArgs false
namespace Go.Proofs.YtjlpekjfmgcbdaaGreatDoor
open Go.RowKit Go.Shelf
def lowR (c : UInt8) : UInt8 := if 65 ≤ c.toNat ∧ c.toNat ≤ 90 then c + 32 else c
theorem refDigitQ_any (c : UInt8) (w : World) : Calls Tryz.prog 57 #[.int .u8 (c.toNat : Int)] w fun e w' => e = .returned (.bool (dgQ c)) ∧ w' = w := by
  by_cases h1 : 48 ≤ c.toNat
  · have e1 : (48 : Int) ≤ (c.toNat : Int) := by omega
    by_cases h2 : c.toNat ≤ 57
    · have e2 : (c.toNat : Int) ≤ 57 := by omega
      have HV := hide (show dgQ c = true from decide_eq_true ⟨h1, h2⟩)
      go_enter Tryz.func57, Tryz.ntmps57
      go_wp2
      go_ret
      exact ⟨retQ_b HV.out, rfl⟩
    · have e2 : ¬ (c.toNat : Int) ≤ 57 := by omega
      have HV := hide (show dgQ c = false from decide_eq_false fun h => h2 h.2)
      go_enter Tryz.func57, Tryz.ntmps57
      go_wp2
      go_ret
      exact ⟨retQ_b HV.out, rfl⟩
  · have e1 : ¬ (48 : Int) ≤ (c.toNat : Int) := by omega
    have HV := hide (show dgQ c = false from decide_eq_false fun h => h1 h.1)
    go_enter Tryz.func57, Tryz.ntmps57
    go_wp2
    go_ret
    exact ⟨retQ_b HV.out, rfl⟩
theorem lowR_up {c : UInt8} (h : 65 ≤ c.toNat ∧ c.toNat ≤ 90) : ((lowR c).toNat : Int) = (c.toNat : Int) + 32 := by
  unfold lowR; rw [if_pos h, UInt8.toNat_add, show (32 : UInt8).toNat = 32 from rfl]; omega
theorem refLowerQ_any (c : UInt8) (w : World) : Calls Tryz.prog 44 #[.int .u8 (c.toNat : Int)] w fun e w' => e = .returned (.int .u8 ((lowR c).toNat : Int)) ∧ w' = w := by
  by_cases h1 : 65 ≤ c.toNat
  · have e1 : (65 : Int) ≤ (c.toNat : Int) := by omega
    by_cases h2 : c.toNat ≤ 90
    · have e2 : (c.toNat : Int) ≤ 90 := by omega
      have HV := hide (lowR_up ⟨h1, h2⟩)
      have hw : IntKind.u8.wrap ((c.toNat : Int) + 32) = (c.toNat : Int) + 32 := by rw [IntKind.wrap_u8]; omega
      go_enter Tryz.func44, Tryz.ntmps44
      go_wp2
      go_ret
      rw [HV.out]
      exact ⟨rfl, rfl⟩
    · have e2 : ¬ (c.toNat : Int) ≤ 90 := by omega
      have HV := hide (show lowR c = c by unfold lowR; rw [if_neg (fun h => h2 h.2)])
      go_enter Tryz.func44, Tryz.ntmps44
      go_wp2
      go_ret
      rw [HV.out]
      exact ⟨rfl, rfl⟩
  · have e1 : ¬ (65 : Int) ≤ (c.toNat : Int) := by omega
    have HV := hide (show lowR c = c by unfold lowR; rw [if_neg (fun h => h1 h.1)])
    go_enter Tryz.func44, Tryz.ntmps44
    go_wp2
    go_ret
    rw [HV.out]
    exact ⟨rfl, rfl⟩
theorem lowR_digit (c : UInt8) : dgQ (lowR c) = dgQ c := all_bytes (p := fun c => dgQ (lowR c) = dgQ c) (by decide +kernel) c
theorem lowR_same (c : UInt8) : dgQ c = true → lowR c = c := all_bytes (p := fun c => dgQ c = true → lowR c = c) (by decide +kernel) c
theorem hexQ_low (c : UInt8) : dgQ c = false → hexQ c = if 97 ≤ (lowR c).toNat ∧ (lowR c).toNat ≤ 102 then ((lowR c).toNat : Int) - 97 + 10 else -1 :=
  all_bytes (p := fun c => dgQ c = false → hexQ c = if 97 ≤ (lowR c).toNat ∧ (lowR c).toNat ≤ 102 then ((lowR c).toNat : Int) - 97 + 10 else -1) (by decide +kernel) c
theorem low_x (c : UInt8) : (lowR c = 120 ↔ lowQ c = 120) ∧ (lowR c = 122 ↔ lowQ c = 122) := all_bytes (p := fun c => (lowR c = 120 ↔ lowQ c = 120) ∧ (lowR c = 122 ↔ lowQ c = 122)) (by decide +kernel) c
/-- the value of a digit with so many bits, or -1 -/
def valR (c : UInt8) (k : Nat) : Int := if ((2 ^ k : Nat) : Int) ≤ hexQ c then -1 else hexQ c
theorem two_pow_le4 {i k : Nat} (h : i ≤ k) (hk : k ≤ 4) : 1 ≤ 2 ^ i ∧ 2 ^ i ≤ 16 := ⟨Nat.one_le_two_pow, Nat.le_trans (Nat.pow_le_pow_right (by omega) (Nat.le_trans h hk)) (by decide)⟩
set_option maxHeartbeats 4000000 in
theorem refValueQ_any (c : UInt8) (k : Nat) (w : World) (hk : k ≤ 4) : Calls Tryz.prog 72 #[.int .u8 (c.toNat : Int), .int .i64 (k : Int)] w fun e w' => e = .returned (.int .i64 (valR c k)) ∧ w' = w := by
  have LO := hide (refLowerQ_any c)
  have DG := hide (refDigitQ_any (lowR c))
  rw [lowR_digit] at DG
  have hr := hexQ_range c
  have HP := hide (show valR c k = if ((2 ^ k : Nat) : Int) ≤ hexQ c then -1 else hexQ c from rfl)
  have hlt := (lowR c).toNat_lt
  obtain ⟨x, hx⟩ : ∃ x, hexQ c = x := ⟨_, rfl⟩
  rw [hx] at HP hr
  obtain ⟨R, hR⟩ : ∃ R, valR c k = R := ⟨_, rfl⟩
  rw [hR] at HP ⊢
  clear hR
  have K := hide (fun (i : Nat) (h : i ≤ k) => two_pow_le4 h hk)
  have Hhex := hide hx
  clear hx
  cases hd : dgQ c with
  | true =>
    have hb : 48 ≤ c.toNat ∧ c.toNat ≤ 57 := of_decide_eq_true hd
    have hlr := lowR_same c hd
    have hxx : (c.toNat : Int) - 48 = x := by rw [← Hhex.out]; unfold hexQ; rw [if_pos hd]
    have w1 : IntKind.u8.wrap ((c.toNat : Int) - 48) = (c.toNat : Int) - 48 := by rw [IntKind.wrap_u8]; omega
    have w2 : IntKind.i64.wrap (x : Int) = x := IntWalk.i64_in _ (by omega)
    rw [hd] at DG
    rw [hlr] at DG LO
    clear hd hlr Hhex hlt
    go_enter Tryz.func72, Tryz.ntmps72
    go_wp2_with fail
    refine (LO.out _).mono ?_
    rintro e wz ⟨rfl, rfl⟩
    go_wp2_with fail
    refine (DG.out _).mono ?_
    rintro e wz ⟨rfl, rfl⟩
    go_wp2_with fail
    go_loop [6, 7] (fun v6 v7 => ∃ (i q : Nat), v7 = .int .i64 (i : Int) ∧ i ≤ k ∧ v6 = .int .i64 (q : Int) ∧ Hid (q = 2 ^ i)) (fun _ v => k - (intOf v).toNat)
    case atStart => exact ⟨0, 1, rfl, Nat.zero_le _, rfl, hide rfl⟩
    case round =>
      obtain ⟨i, q, rfl, hi, rfl, Hq⟩ := hrel
      have hq16 : q ≤ 16 := by rw [Hq.out]; exact (K.out i hi).2
      by_cases hlt2 : i < k
      · have hi' : (i : Int) < (k : Int) := by omega
        have Hq2 := hide (show 2 * q = 2 ^ (i + 1) by rw [Hq.out, Nat.pow_succ]; omega)
        go_wp2
        go_round
        case rel => exact ⟨i + 1, 2 * q, by go_num, by omega, by go_num, Hq2⟩
        case measure => simp [intOf]; omega
      · have hi' : ¬ (i : Int) < (k : Int) := by omega
        have hik : i = k := by omega
        have HQ := hide (show q = 2 ^ k by rw [Hq.out, hik])
        by_cases hle : (q : Int) ≤ x
        · have HF := hide (show R = -1 by rw [HP.out, ← HQ.out, if_pos hle])
          clear hik
          go_wp2
          go_ret
          exact ⟨retQ_i HF.out, rfl⟩
        · have HF := hide (show R = x by rw [HP.out, ← HQ.out, if_neg hle])
          clear hik
          go_wp2
          go_ret
          exact ⟨retQ_i HF.out, rfl⟩
  | false =>
    rw [hd] at DG
    have hx2 := hexQ_low c hd
    rw [Hhex.out] at hx2
    generalize lowR c = y at *
    by_cases y1 : 97 ≤ y.toNat
    · have p1 : (97 : Int) ≤ (y.toNat : Int) := by omega
      by_cases y2 : y.toNat ≤ 102
      · have p2 : (y.toNat : Int) ≤ 102 := by omega
        rw [if_pos ⟨y1, y2⟩] at hx2
        have w1 : IntKind.u8.wrap ((y.toNat : Int) - 97) = (y.toNat : Int) - 97 := by rw [IntKind.wrap_u8]; omega
        have w2 : IntKind.i64.wrap ((y.toNat : Int) - 97) = (y.toNat : Int) - 97 := IntWalk.i64_in _ (by omega)
        have w3 : IntKind.i64.wrap ((y.toNat : Int) - 97 + 10) = x := by rw [hx2]; exact IntWalk.i64_in _ (by omega)
        clear hd hx2 Hhex
        go_enter Tryz.func72, Tryz.ntmps72
        go_wp2_with fail
        refine (LO.out _).mono ?_
        rintro e wz ⟨rfl, rfl⟩
        go_wp2_with fail
        refine (DG.out _).mono ?_
        rintro e wz ⟨rfl, rfl⟩
        go_wp2_with fail
        go_loop [6, 7] (fun v6 v7 => ∃ (i q : Nat), v7 = .int .i64 (i : Int) ∧ i ≤ k ∧ v6 = .int .i64 (q : Int) ∧ Hid (q = 2 ^ i)) (fun _ v => k - (intOf v).toNat)
        case atStart => exact ⟨0, 1, rfl, Nat.zero_le _, rfl, hide rfl⟩
        case round =>
          obtain ⟨i, q, rfl, hi, rfl, Hq⟩ := hrel
          have hq16 : q ≤ 16 := by rw [Hq.out]; exact (K.out i hi).2
          by_cases hlt2 : i < k
          · have hi' : (i : Int) < (k : Int) := by omega
            have Hq2 := hide (show 2 * q = 2 ^ (i + 1) by rw [Hq.out, Nat.pow_succ]; omega)
            go_wp2
            go_round
            case rel => exact ⟨i + 1, 2 * q, by go_num, by omega, by go_num, Hq2⟩
            case measure => simp [intOf]; omega
          · have hi' : ¬ (i : Int) < (k : Int) := by omega
            have hik : i = k := by omega
            have HQ := hide (show q = 2 ^ k by rw [Hq.out, hik])
            by_cases hle : (q : Int) ≤ x
            · have HF := hide (show R = -1 by rw [HP.out, ← HQ.out, if_pos hle])
              clear hik
              go_wp2
              go_ret
              exact ⟨retQ_i HF.out, rfl⟩
            · have HF := hide (show R = x by rw [HP.out, ← HQ.out, if_neg hle])
              clear hik
              go_wp2
              go_ret
              exact ⟨retQ_i HF.out, rfl⟩
      · have p2 : ¬ (y.toNat : Int) ≤ 102 := by omega
        rw [if_neg (fun h => y2 h.2)] at hx2
        subst hx2
        clear hd Hhex
        go_enter Tryz.func72, Tryz.ntmps72
        go_wp2_with fail
        refine (LO.out _).mono ?_
        rintro e wz ⟨rfl, rfl⟩
        go_wp2_with fail
        refine (DG.out _).mono ?_
        rintro e wz ⟨rfl, rfl⟩
        go_wp2_with fail
        go_loop [6, 7] (fun v6 v7 => ∃ (i q : Nat), v7 = .int .i64 (i : Int) ∧ i ≤ k ∧ v6 = .int .i64 (q : Int) ∧ Hid (q = 2 ^ i)) (fun _ v => k - (intOf v).toNat)
        case atStart => exact ⟨0, 1, rfl, Nat.zero_le _, rfl, hide rfl⟩
        case round =>
          obtain ⟨i, q, rfl, hi, rfl, Hq⟩ := hrel
          have hq16 : q ≤ 16 := by rw [Hq.out]; exact (K.out i hi).2
          by_cases hlt2 : i < k
          · have hi' : (i : Int) < (k : Int) := by omega
            have Hq2 := hide (show 2 * q = 2 ^ (i + 1) by rw [Hq.out, Nat.pow_succ]; omega)
            go_wp2
            go_round
            case rel => exact ⟨i + 1, 2 * q, by go_num, by omega, by go_num, Hq2⟩
            case measure => simp [intOf]; omega
          · have hi' : ¬ (i : Int) < (k : Int) := by omega
            have hik : i = k := by omega
            have HQ := hide (show q = 2 ^ k by rw [Hq.out, hik])
            by_cases hle : (q : Int) ≤ (-1 : Int)
            · have HF := hide (show R = -1 by rw [HP.out, ← HQ.out, if_pos hle])
              clear hik
              go_wp2
              go_ret
              exact ⟨retQ_i HF.out, rfl⟩
            · have HF := hide (show R = (-1 : Int) by rw [HP.out, ← HQ.out, if_neg hle])
              clear hik
              go_wp2
              go_ret
              exact ⟨retQ_i HF.out, rfl⟩
    · have p1 : ¬ (97 : Int) ≤ (y.toNat : Int) := by omega
      rw [if_neg (fun h => y1 h.1)] at hx2
      subst hx2
      clear hd Hhex
      go_enter Tryz.func72, Tryz.ntmps72
      go_wp2_with fail
      refine (LO.out _).mono ?_
      rintro e wz ⟨rfl, rfl⟩
      go_wp2_with fail
      refine (DG.out _).mono ?_
      rintro e wz ⟨rfl, rfl⟩
      go_wp2_with fail
      go_loop [6, 7] (fun v6 v7 => ∃ (i q : Nat), v7 = .int .i64 (i : Int) ∧ i ≤ k ∧ v6 = .int .i64 (q : Int) ∧ Hid (q = 2 ^ i)) (fun _ v => k - (intOf v).toNat)
      case atStart => exact ⟨0, 1, rfl, Nat.zero_le _, rfl, hide rfl⟩
      case round =>
        obtain ⟨i, q, rfl, hi, rfl, Hq⟩ := hrel
        have hq16 : q ≤ 16 := by rw [Hq.out]; exact (K.out i hi).2
        by_cases hlt2 : i < k
        · have hi' : (i : Int) < (k : Int) := by omega
          have Hq2 := hide (show 2 * q = 2 ^ (i + 1) by rw [Hq.out, Nat.pow_succ]; omega)
          go_wp2
          go_round
          case rel => exact ⟨i + 1, 2 * q, by go_num, by omega, by go_num, Hq2⟩
          case measure => simp [intOf]; omega
        · have hi' : ¬ (i : Int) < (k : Int) := by omega
          have hik : i = k := by omega
          have HQ := hide (show q = 2 ^ k by rw [Hq.out, hik])
          by_cases hle : (q : Int) ≤ (-1 : Int)
          · have HF := hide (show R = -1 by rw [HP.out, ← HQ.out, if_pos hle])
            clear hik
            go_wp2
            go_ret
            exact ⟨retQ_i HF.out, rfl⟩
          · have HF := hide (show R = (-1 : Int) by rw [HP.out, ← HQ.out, if_neg hle])
            clear hik
            go_wp2
            go_ret
            exact ⟨retQ_i HF.out, rfl⟩
theorem valR_hex (c : UInt8) : valR c 4 = hexQ c := by
  unfold valR
  have := (hexQ_range c).2
  rw [if_neg (by show ¬ (16 : Int) ≤ hexQ c; omega)]
theorem refHexQ_any (c : UInt8) (w : World) : Calls Tryz.prog 74 #[.int .u8 (c.toNat : Int)] w fun e w' => e = .returned (.int .i64 (hexQ c)) ∧ w' = w := by
  have V := hide (fun W : World => show Calls Tryz.prog 72 #[.int .u8 (c.toNat : Int), .int .i64 4] W fun e w' => e = .returned (.int .i64 (hexQ c)) ∧ w' = W by rw [← valR_hex]; exact refValueQ_any c 4 W (by omega))
  generalize hexQ c = x at *
  go_enter Tryz.func74, Tryz.ntmps74
  go_wp2_with fail
  refine (V.out _).mono ?_
  rintro e wz ⟨rfl, rfl⟩
  go_wp2
  go_ret
  exact ⟨rfl, rfl⟩
end Go.Proofs.YtjlpekjfmgcbdaaGreatDoor

/- Contract of the reference's quoted. -/
set_option linter.unusedVariables false
set_option linter.unusedSimpArgs false
namespace Go.Proofs.YtjlpekjfmgcbdaaGreatDoor
open Go.RowKit Go.Shelf
def quotF : Nat → List UInt8 → Option (List UInt8 × Nat)
  | 0, _ => none
  | _ + 1, [] => none
  | k + 1, c :: t => if c = 34 then some ([], 1) else (stepU (c :: t)).bind fun p => (quotF k ((c :: t).drop p.2)).map fun q => (p.1 :: q.1, p.2 + q.2)
theorem quotF_fuel : ∀ (n m : Nat) (l : List UInt8), l.length < n → l.length < m → quotF n l = quotF m l
  | 0, m, l, h, _ => absurd h (by omega)
  | n + 1, 0, l, _, h => absurd h (by omega)
  | n + 1, m + 1, [], _, _ => rfl
  | n + 1, m + 1, c :: t, hn, hm => by
    simp only [quotF]
    by_cases h1 : c = 34
    · rw [if_pos h1, if_pos h1]
    · rw [if_neg h1, if_neg h1]
      cases hs : stepU (c :: t) with
      | none => rfl
      | some p =>
        obtain ⟨h1, h2⟩ := stepU_pos hs
        simp only [Option.bind_some]
        rw [List.length_cons] at hn hm h2
        rw [quotF_fuel n m ((c :: t).drop p.2) (by rw [List.length_drop, List.length_cons]; omega) (by rw [List.length_drop, List.length_cons]; omega)]
/-- what stands behind a quotation mark: the string and how many bytes, with the closing mark -/
def quotW (l : List UInt8) : Option (List UInt8 × Nat) := quotF (l.length + 1) l
theorem quotW_nil : quotW [] = none := rfl
theorem quotW_end (t : List UInt8) : quotW (34 :: t) = some ([], 1) := by
  unfold quotW; simp only [quotF]; rw [if_pos trivial]
theorem quotW_step {c : UInt8} {t : List UInt8} {d : UInt8} {n : Nat} (h1 : c ≠ 34) (h : stepU (c :: t) = some (d, n)) : quotW (c :: t) = (quotW ((c :: t).drop n)).map fun q => (d :: q.1, n + q.2) := by
  obtain ⟨h2, h3⟩ := stepU_pos h
  unfold quotW
  conv => lhs; unfold quotF
  rw [if_neg h1, h]
  simp only [Option.bind_some]
  rw [List.length_cons] at h3 ⊢
  rw [quotF_fuel (t.length + 1) (((c :: t).drop n).length + 1) _ (by rw [List.length_drop, List.length_cons]; omega) (by omega)]
theorem quotW_stop {c : UInt8} {t : List UInt8} (h1 : c ≠ 34) (h : stepU (c :: t) = none) : quotW (c :: t) = none := by
  unfold quotW
  conv => lhs; unfold quotF
  rw [if_neg h1, h]; rfl
/-- quoted's answer -/
def quotP (l : List UInt8) (a : Nat) : Nat × List UInt8 := match quotW (l.drop (a + 1)) with | none => (0, []) | some q => (a + 1 + q.2, q.1)
def quotX (R : Option (List UInt8 × Nat)) : Nat × List UInt8 := match R with | none => (0, []) | some q => (q.2, q.1)
/-- how far it is read -/
def ReadX (l : List UInt8) (a k : Nat) (O : List UInt8) : Prop := quotP l a = quotX ((quotW (l.drop k)).map fun q => (O ++ q.1, k + q.2))
theorem ReadX.zero (l : List UInt8) (a : Nat) : ReadX l a (a + 1) [] := by
  unfold ReadX quotP
  cases quotW (l.drop (a + 1)) <;> rfl
theorem ReadX.step {l : List UInt8} {a k n : Nat} {O : List UInt8} {c d : UInt8} {t : List UInt8} (h : ReadX l a k O) (hd : l.drop k = c :: t) (h1 : c ≠ 34) (hs : stepU (c :: t) = some (d, n)) : ReadX l a (k + n) (O ++ [d]) := by
  unfold ReadX at h ⊢
  rw [h, hd, quotW_step h1 hs, ← hd, List.drop_drop]
  cases quotW (l.drop (k + n)) with
  | none => rfl
  | some q => simp [quotX, Nat.add_assoc]
theorem ReadX.stop {l : List UInt8} {a k : Nat} {O : List UInt8} {c : UInt8} {t : List UInt8} (h : ReadX l a k O) (h1 : c ≠ 34) (hs : l.drop k = c :: t ∧ stepU (c :: t) = none) : quotP l a = (0, []) := by
  unfold ReadX at h
  rw [h, hs.1, quotW_stop h1 hs.2]; rfl
theorem ReadX.over {l : List UInt8} {a k : Nat} {O : List UInt8} (h : ReadX l a k O) (hk : l.length ≤ k) : quotP l a = (0, []) := by
  unfold ReadX at h
  rw [h, List.drop_eq_nil_of_le hk]; rfl
theorem ReadX.done {l : List UInt8} {a k : Nat} {O t : List UInt8} (h : ReadX l a k O) (hd : l.drop k = 34 :: t) : quotP l a = (k + 1, O) := by
  unfold ReadX at h
  rw [h, hd, quotW_end]; simp [quotX]
theorem retQ_is {p : Nat × List UInt8} {a : Nat} {t : List UInt8} (h : p = (a, t)) : Ending.returned (.tuple #[.int .i64 (a : Int), .string (bsQ t)]) = .returned (.tuple #[.int .i64 (p.1 : Int), .string (bsQ p.2)]) := by rw [h]
set_option maxRecDepth 100000 in
set_option maxHeartbeats 8000000 in
theorem refQuoted_any (l : List UInt8) (a : Nat) (w : World) (hl : l.length ≤ 1000000) (ha : a ≤ 1000000) :
    Calls Tryz.prog 47 #[.string (bsQ l), .int .i64 (a : Int)] w fun e w' => e = .returned (.tuple #[.int .i64 ((quotP l a).1 : Int), .string (bsQ (quotP l a).2)]) ∧ Below w.heap.size w w' := by
  have hz := bsQ_size l
  have hg : ∀ (i : Nat) (h : i < (bsQ l).size) (h2 : i < l.length), (bsQ l)[i]'h = l[i] := fun i h h2 => bsQ_get l i h
  generalize bsQ l = t at *
  have Hmz := hide hz
  have Hg2 := hide hg
  have HX := hide refHexQ_any
  have HRg := hide hexQ_range
  have haw : IntKind.i64.wrap ((a : Int) + 1) = (a : Int) + 1 := IntWalk.i64_in _ (by omega)
  clear hz hg
  go_enter Tryz.func47, Tryz.ntmps47
  go_wp2_with fail
  go_loopw [6, 7] (fun u v wr => ∃ (i : Nat) (O : List UInt8), v = .int .i64 (i : Int) ∧ i ≤ 1000010 + l.length ∧ O.length ≤ i ∧ ReadX l a i O ∧ wr.ownsRow w.heap.size 5 1 u O.length (Lib.byteCells O) ∧ Below w.heap.size w wr) (fun _ v _ => 1000010 + l.length - (intOf v).toNat)
  case atStart => exact ⟨a + 1, [], by go_num, by omega, Nat.zero_le _, ReadX.zero l a, ⟨rfl, .inr ⟨w.heap.size, 0, #[], rfl, Nat.le_refl _, World.alloc_heap_new _ _, Nat.le_refl _, Nat.zero_le _, rfl, rfl⟩⟩, (Below.refl _ _).alloc (Nat.le_refl _) _⟩
  case round =>
    obtain ⟨i, O, rfl, hle, hol, hrd, hown, hbr⟩ := hrel
    have Hrd := hide hrd
    have Hown := hide hown
    have Hbr := hide hbr
    have Hz := hide hbr.size
    clear hrd hown hbr
    by_cases hi : i < l.length
    rotate_left
    · have hi' : ¬ (i : Int) < (t.size : Int) := by have := Hmz.out; omega
      have hi2 : (t.size : Int) ≤ (i : Int) := by omega
      have Hst := hide (show quotP l a = (0, []) from Hrd.out.over (by omega))
      go_wp2
      go_ret2
      exact ⟨(by rw [Hst.out]; rfl), Hbr.out⟩
    have hit : i < t.size := by have := Hmz.out; omega
    have hi' : (i : Int) < (t.size : Int) := by omega
    have hi0 : (0 : Int) ≤ (i : Int) := by omega
    have hw1 : IntKind.i64.wrap ((i : Int) + 1) = (i : Int) + 1 := IntWalk.i64_in _ (by omega)
    obtain ⟨c, hc⟩ : ∃ c, l[i]'hi = c := ⟨_, rfl⟩
    have hsc : t[i]'hit = c := by rw [Hg2.out i hit hi, hc]
    have d0 := drop_one hi
    rw [hc] at d0
    by_cases hc34 : c = 34
    · subst hc34
      have hnge : ¬ (t.size : Int) ≤ (i : Int) := by omega
      have Hst := hide (show quotP l a = (i + 1, O) from Hrd.out.done d0)
      obtain ⟨A, cap, rfl⟩ := own_sl Hown.out
      have hcv : ∀ n, (convert 51 9 (.slice A O.length cap)).run Tryz.prog (wr.drewN n) = .ok (.string (bsQ O)) (wr.drewN n) := fun n => run_string_own (src := 51) (dst := 9) Tryz.underlying51 Tryz.underlying5 Tryz.underlying9 (show (wr.drewN n).ownsRow w.heap.size 5 1 (.slice A O.length cap) O.length (Lib.byteCells O) from Hown.out)
      have hcv1 : (convert 51 9 (.slice A O.length cap)).run Tryz.prog wr.drew = .ok (.string (bsQ O)) wr.drew := hcv 1
      clear hc d0
      go_wp2_with fail
      first
        | (go_quiet (fail)
           go_wp2
           go_ret2
           exact ⟨retQ_is Hst.out, Below_drewN Hbr.out _⟩)
        | (go_region
           all_goals
             go_wp2
             go_ret2
             exact ⟨retQ_is Hst.out, Hbr.out.drew⟩)
    have p34 : ((c.toNat : Int) == 34) = false := toNat_neQ (d := 34) hc34
    have p34' : ((c.toNat : Int) != 34) = true := by rw [bne, p34]; rfl
    by_cases c1 : c.toNat < 32
    · have p1 : (c.toNat : Int) < 32 := by omega
      have Hst := hide (show quotP l a = (0, []) from Hrd.out.stop hc34 (⟨d0, stepU_bad (.inl c1)⟩))
      clear c1 d0 hc
      go_wp2
      go_ret2
      exact ⟨(by rw [Hst.out]; rfl), Hbr.out⟩
    have p1 : ¬ (c.toNat : Int) < 32 := by omega
    by_cases c2 : 126 < c.toNat
    · have p2 : (126 : Int) < (c.toNat : Int) := by omega
      have Hst := hide (show quotP l a = (0, []) from Hrd.out.stop hc34 (⟨d0, stepU_bad (.inr (.inl c2))⟩))
      clear c1 c2 d0 hc
      go_wp2
      go_ret2
      exact ⟨(by rw [Hst.out]; rfl), Hbr.out⟩
    have p2 : ¬ (126 : Int) < (c.toNat : Int) := by omega
    by_cases c4 : c = 92
    rotate_left
    · have p4 : ((c.toNat : Int) == 92) = false := toNat_neQ (d := 92) c4
      have p5 : ((c.toNat : Int) != 92) = true := by rw [bne, p4]; rfl
      have Hrd2 := hide (Hrd.out.step d0 hc34 (stepU_pl (by omega) (by omega) hc34 c4))
      clear c1 c2 c4 d0 hc
      go_wp2_with (at_builtin; have hown9 := Hown.out.alloc (.cells #[.int .u8 (c.toNat : Int)] 5); refine wpList_append_at _ rfl _ _ 51 rfl w.heap.size 5 infoByteQ Tryz.underlying51 rfl (by decide) u6 O.length (Lib.byteCells O) rfl hown9 ⟨wr.heap.size, 0, none⟩ 1 1 [.int .u8 (c.toNat : Int)] rfl rfl (cells_new _ _ rfl) (by intro u hu; simp only [List.mem_cons, List.not_mem_nil, or_false] at hu; rcases hu with rfl; rfl) (by unfold maxLen; omega) (by omega) (by rw [World.size_alloc]; exact Nat.le_succ_of_le Hz.out) ?_; intro v' w4 hown4 hgrow4 _ _)
      have HO4 := hide hown4
      have HG4 := hide hgrow4
      have HO9 := hide hown9
      clear hown4 hgrow4 hown9
      go_roundw
      case rel => exact ⟨i + 1, O ++ [c], by go_num, by omega, by rw [List.length_append]; show O.length + 1 ≤ i + 1; omega, Hrd2.out, by rw [List.length_append, ← byteCells_snoc]; exact HO4.out, (Hbr.out.alloc Hz.out _).grown HG4.out (by rw [World.size_alloc]; exact Nat.le_succ_of_le Hz.out) (fun j hj => (HO9.out.lt j hj).1)⟩
      case measure => simp [intOf]; omega
    subst c4
    have d0 : l.drop i = 92 :: l.drop (i + 1) := drop_one hi |>.trans (by rw [hc])
    clear c1 c2 p1 p2 p34 p34'
    by_cases z1 : i + 1 < l.length
    rotate_left
    · have k1' : (t.size : Int) ≤ (i : Int) + 1 := by have := Hmz.out; omega
      have Hst := hide (show quotP l a = (0, []) from Hrd.out.stop hc34 (⟨d0, by rw [stepU_esc, List.drop_eq_nil_of_le (by omega)]; rfl⟩))
      clear d0 hc
      go_wp2
      go_ret2
      exact ⟨(by rw [Hst.out]; rfl), Hbr.out⟩
    have z1t : i + 1 < t.size := by have := Hmz.out; omega
    have y1 : (i : Int) + 1 < (t.size : Int) := by omega
    have y1' : ¬ (t.size : Int) ≤ (i : Int) + 1 := by omega
    have y0 : (0 : Int) ≤ (i : Int) + 1 := by omega
    have s1 : ((i : Int) + 1).toNat = i + 1 := by omega
    have hw2 : IntKind.i64.wrap ((i : Int) + 1 + 1) = (i : Int) + 1 + 1 := IntWalk.i64_in _ (by omega)
    obtain ⟨d, hd⟩ : ∃ d, l[i + 1]'z1 = d := ⟨_, rfl⟩
    have hsd : t[i + 1]'z1t = d := by rw [Hg2.out (i + 1) z1t z1, hd]
    have d1 := drop_one z1
    rw [hd] at d1
    by_cases c5 : d = 34
    · subst c5
      have Hrd2 := hide (Hrd.out.step d0 hc34 (d := 34) (n := 2) (by rw [stepU_esc, d1]; rfl))
      clear d0 hc d1 hd
      go_wp2_with (at_builtin; have hown9 := Hown.out.alloc (.cells #[.int .u8 34] 5); refine wpList_append_at _ rfl _ _ 51 rfl w.heap.size 5 infoByteQ Tryz.underlying51 rfl (by decide) u6 O.length (Lib.byteCells O) rfl hown9 ⟨wr.heap.size, 0, none⟩ 1 1 [.int .u8 34] rfl rfl (cells_new _ _ rfl) (by intro u hu; simp only [List.mem_cons, List.not_mem_nil, or_false] at hu; rcases hu with rfl; rfl) (by unfold maxLen; omega) (by omega) (by rw [World.size_alloc]; exact Nat.le_succ_of_le Hz.out) ?_; intro v' w4 hown4 hgrow4 _ _)
      have HO4 := hide hown4
      have HG4 := hide hgrow4
      have HO9 := hide hown9
      clear hown4 hgrow4 hown9
      go_roundw
      case rel => exact ⟨i + 2, O ++ [34], by go_num, by omega, by rw [List.length_append]; show O.length + 1 ≤ i + 2; omega, Hrd2.out, by rw [List.length_append, ← byteCells_snoc]; exact HO4.out, (Hbr.out.alloc Hz.out _).grown HG4.out (by rw [World.size_alloc]; exact Nat.le_succ_of_le Hz.out) (fun j hj => (HO9.out.lt j hj).1)⟩
      case measure => simp [intOf]; omega
    have p5 : ((d.toNat : Int) == 34) = false := toNat_neQ (d := 34) c5
    by_cases c6 : d = 92
    · subst c6
      have Hrd2 := hide (Hrd.out.step d0 hc34 (d := 92) (n := 2) (by rw [stepU_esc, d1]; rfl))
      clear d0 hc d1 hd
      go_wp2_with (at_builtin; have hown9 := Hown.out.alloc (.cells #[.int .u8 92] 5); refine wpList_append_at _ rfl _ _ 51 rfl w.heap.size 5 infoByteQ Tryz.underlying51 rfl (by decide) u6 O.length (Lib.byteCells O) rfl hown9 ⟨wr.heap.size, 0, none⟩ 1 1 [.int .u8 92] rfl rfl (cells_new _ _ rfl) (by intro u hu; simp only [List.mem_cons, List.not_mem_nil, or_false] at hu; rcases hu with rfl; rfl) (by unfold maxLen; omega) (by omega) (by rw [World.size_alloc]; exact Nat.le_succ_of_le Hz.out) ?_; intro v' w4 hown4 hgrow4 _ _)
      have HO4 := hide hown4
      have HG4 := hide hgrow4
      have HO9 := hide hown9
      clear hown4 hgrow4 hown9
      go_roundw
      case rel => exact ⟨i + 2, O ++ [92], by go_num, by omega, by rw [List.length_append]; show O.length + 1 ≤ i + 2; omega, Hrd2.out, by rw [List.length_append, ← byteCells_snoc]; exact HO4.out, (Hbr.out.alloc Hz.out _).grown HG4.out (by rw [World.size_alloc]; exact Nat.le_succ_of_le Hz.out) (fun j hj => (HO9.out.lt j hj).1)⟩
      case measure => simp [intOf]; omega
    have p6 : ((d.toNat : Int) == 92) = false := toNat_neQ (d := 92) c6
    have c56 : ¬ (d = 34 ∨ d = 92) := by rintro (h | h); exact c5 h; exact c6 h
    by_cases c7 : d = 120
    rotate_left
    · have p7 : ((d.toNat : Int) == 120) = false := toNat_neQ (d := 120) c7
      have p7' : ((d.toNat : Int) != 120) = true := by rw [bne, p7]; rfl
      have Hst := hide (show quotP l a = (0, []) from Hrd.out.stop hc34 (⟨d0, by rw [stepU_esc, d1]; simp only [stepE]; rw [if_neg c56, if_neg c7]⟩))
      clear d0 d1 hc hd c5 c6 c56 c7
      go_wp2
      go_ret2
      exact ⟨(by rw [Hst.out]; rfl), Hbr.out⟩
    subst c7
    by_cases z3 : i + 3 < l.length
    rotate_left
    · have k3' : (t.size : Int) ≤ (i : Int) + 1 + 2 := by have := Hmz.out; omega
      have hw3 : IntKind.i64.wrap ((i : Int) + 1 + 2) = (i : Int) + 1 + 2 := IntWalk.i64_in _ (by omega)
      have Hst := hide (show quotP l a = (0, []) from Hrd.out.stop hc34 (⟨d0, by
        rw [stepU_esc, d1]
        simp only [stepE]
        rw [if_neg c56, if_pos trivial]
        split
        · next x y q e =>
          have := congrArg List.length e
          rw [List.length_drop] at this
          simp at this; omega
        · rfl⟩))
      clear d0 d1 hc hd c5 c6 c56
      go_wp2
      go_ret2
      exact ⟨(by rw [Hst.out]; rfl), Hbr.out⟩
    have y3 : ¬ (t.size : Int) ≤ (i : Int) + 1 + 2 := by have := Hmz.out; omega
    have y3' : (i : Int) + 1 + 2 < (t.size : Int) := by omega
    have z2 : i + 2 < l.length := by omega
    have z2t : i + 2 < t.size := by omega
    have z3t : i + 3 < t.size := by omega
    have y2 : (i : Int) + 1 + 1 < (t.size : Int) := by omega
    have y02 : (0 : Int) ≤ (i : Int) + 1 + 1 := by omega
    have y03 : (0 : Int) ≤ (i : Int) + 1 + 2 := by omega
    have s2 : ((i : Int) + 1 + 1).toNat = i + 2 := by omega
    have s3 : ((i : Int) + 1 + 2).toNat = i + 3 := by omega
    obtain ⟨x, hx⟩ : ∃ x, l[i + 2]'z2 = x := ⟨_, rfl⟩
    obtain ⟨y, hy⟩ : ∃ y, l[i + 3]'z3 = y := ⟨_, rfl⟩
    have hsx : t[i + 2]'z2t = x := by rw [Hg2.out (i + 2) z2t z2, hx]
    have hsy : t[i + 3]'z3t = y := by rw [Hg2.out (i + 3) z3t z3, hy]
    have d2 := drop_one z2
    have d3 := drop_one z3
    rw [hx] at d2
    rw [hy] at d3
    have d4 : l.drop (i + 1) = 120 :: x :: y :: l.drop (i + 4) := by rw [d1, d2, d3]
    rw [d4] at d0
    clear hx hy hd hc d1 d2 d3 d4
    have hw3 : IntKind.i64.wrap ((i : Int) + 1 + 2) = (i : Int) + 1 + 2 := IntWalk.i64_in _ (by omega)
    have hw4 : IntKind.i64.wrap ((i : Int) + 1 + 3) = (i : Int) + 1 + 3 := IntWalk.i64_in _ (by omega)
    have I2 := hide (HX.out x)
    have I3 := hide (HX.out y)
    have g2 := HRg.out x
    have g3 := HRg.out y
    by_cases h2 : 0 ≤ hexQ x
    rotate_left
    · have Hst := hide (show quotP l a = (0, []) from Hrd.out.stop hc34 (⟨d0, by rw [stepU_esc]; simp only [stepE]; rw [if_neg c56, if_pos trivial, if_neg (fun h => h2 h.1)]⟩))
      have h2' : hexQ x < 0 := by omega
      clear d0 c5 c6 c56 h2
      generalize hexQ x = hxx at *
      go_wp2_with fail
      refine (I2.out _).mono ?_
      rintro e w1 ⟨rfl, rfl⟩
      go_wp2
      go_ret2
      exact ⟨(by rw [Hst.out]; rfl), Hbr.out⟩
    have h2' : ¬ hexQ x < 0 := by omega
    by_cases h3 : 0 ≤ hexQ y
    rotate_left
    · have Hst := hide (show quotP l a = (0, []) from Hrd.out.stop hc34 (⟨d0, by rw [stepU_esc]; simp only [stepE]; rw [if_neg c56, if_pos trivial, if_neg (fun h => h3 h.2)]⟩))
      have h3' : hexQ y < 0 := by omega
      clear d0 c5 c6 c56 h3
      generalize hexQ x = hxx at *
      generalize hexQ y = hyy at *
      go_wp2_with fail
      refine (I2.out _).mono ?_
      rintro e w1 ⟨rfl, rfl⟩
      go_wp2_with fail
      refine (I3.out _).mono ?_
      rintro e w1 ⟨rfl, rfl⟩
      go_wp2
      go_ret2
      exact ⟨(by rw [Hst.out]; rfl), Hbr.out⟩
    have h3' : ¬ hexQ y < 0 := by omega
    have HN := hide (hex_sum h2 g2.2 h3 g3.2)
    have Hrd2 := hide (Hrd.out.step d0 hc34 (d := UInt8.ofNat (16 * hexQ x + hexQ y).toNat) (n := 4) (by rw [stepU_esc]; simp only [stepE]; rw [if_neg c56, if_pos trivial, if_pos ⟨h2, h3⟩]))
    clear d0 c5 c6 c56
    obtain ⟨cc, hcc⟩ : ∃ cc, UInt8.ofNat (16 * hexQ x + hexQ y).toNat = cc := ⟨_, rfl⟩
    rw [hcc] at HN Hrd2
    clear hcc
    generalize hexQ x = x1 at *
    generalize hexQ y = yy at *
    obtain ⟨iu, hi1, hi2, hi3, hi4⟩ := infoQ_parts infoByteQ
    have HI1 := hide hi1
    have HI2 := hide hi2
    have HI3 := hide hi3
    have HI4 := hide hi4
    clear hi1 hi2 hi3 hi4
    have t1 : O.length + 1 ≤ maxLen := by unfold maxLen; omega
    have t2 : (O.length + 1) * 1 ≤ 140737488355328 := by omega
    have t3 : w.heap.size ≤ wr.heap.size + 1 := Nat.le_succ_of_le Hz.out
    have t4 : ∀ u ∈ [Value.int .u8 (16 * x1 + yy)], u.oneCell' = true := by intro u hu; simp only [List.mem_cons, List.not_mem_nil, or_false] at hu; rcases hu with rfl; rfl
    have t6 : (wr.alloc (.cells #[.int .u8 (16 * x1 + yy)] 5)).drew.heap.size = wr.heap.size + 1 := World.size_alloc _ _
    have t5 : w.heap.size ≤ (wr.alloc (.cells #[.int .u8 (16 * x1 + yy)] 5)).drew.heap.size := by rw [t6]; exact t3
    have s14 : IntKind.i64.wrap (16 * x1) = 16 * x1 := IntWalk.i64_in _ (by omega)
    have s15 : IntKind.i64.wrap (16 * x1 + yy) = 16 * x1 + yy := IntWalk.i64_in _ (by omega)
    have s16 : IntKind.u8.wrap (16 * x1 + yy) = 16 * x1 + yy := by rw [IntKind.wrap_u8]; omega
    have T1 := hide t1
    have T2 := hide t2
    have T4 := hide t4
    have T5 := hide t5
    have T6 := hide t6
    clear t1 t2 t3 t4 t5 t6
    go_wp2_with fail
    refine (I2.out _).mono ?_
    rintro e w1 ⟨rfl, rfl⟩
    go_wp2_with fail
    refine (I3.out _).mono ?_
    rintro e w3 ⟨rfl, rfl⟩
    go_wp2_with fail
    go_region_held3 (fun _ => True) (exact trivial) (first | (go_at_call 74; ((with_reducible refine (I2.out _).mono ?_); rintro e w' ⟨rfl, rfl⟩)) | (go_at_call 74; ((with_reducible refine (I3.out _).mono ?_); rintro e w' ⟨rfl, rfl⟩)) | (refine step_append_lies _ rfl _ _ 51 rfl w.heap.size 5 iu _ 1 1 Tryz.underlying51 HI1.out HI2.out HI3.out HI4.out rfl Nat.one_pos u6 O.length (Lib.byteCells O) rfl ((Hown.out.alloc _).drew) ⟨w3.heap.size, 0, none⟩ 1 1 [.int .u8 (16 * x1 + yy)] rfl rfl (World.news_of_block (cs := #[.int .u8 (16 * x1 + yy)]) (t := 5) (fr := (0, 0)) (heap_alloc_new w3 _)) T4.out Nat.one_pos T1.out T2.out T5.out (w3.heap.size + 1) T6.out ?_; intro g4 cap4 w4 hown4 hgrow4 hat4 hlt4))
    all_goals
      go_wp2
      have HO4 := hide hown4
      have HG4 := hide hgrow4
      clear hown4 hgrow4
      go_roundw
      case rel => exact ⟨i + 4, O ++ [cc], by go_num, by omega, by rw [List.length_append]; show O.length + 1 ≤ i + 4; omega, Hrd2.out, by rw [List.length_append, ← byteCells_snoc, HN.out]; exact HO4.out, ((Hbr.out.alloc Hz.out _).drew).grown HG4.out (by simp; have := Hz.out; omega) (fun j hj => (Hown.out.lt j hj).1)⟩
      case measure => simp [intOf]; omega
end Go.Proofs.YtjlpekjfmgcbdaaGreatDoor

/- Plain: the reference's Unquote answers as the program's does. -/
set_option linter.unusedVariables false
set_option linter.unusedSimpArgs false
namespace Go.Proofs.YtjlpekjfmgcbdaaGreatDoor
open Go.RowKit Go.Shelf
theorem stepE_mono {t : List UInt8} {p : UInt8 × Nat} (r : List UInt8) (h : stepE t = some p) : stepE (t ++ r) = some p := by
  cases t with
  | nil => cases h
  | cons d q =>
    rw [List.cons_append]
    simp only [stepE] at h ⊢
    by_cases h1 : d = 34 ∨ d = 92
    · rw [if_pos h1] at h ⊢; exact h
    · rw [if_neg h1] at h ⊢
      by_cases h2 : d = 120
      · rw [if_pos h2] at h ⊢
        match q, h with
        | [], h => cases h
        | [_], h => cases h
        | x :: y :: z, h => exact h
      · rw [if_neg h2] at h; cases h
theorem stepU_mono {m : List UInt8} {p : UInt8 × Nat} (r : List UInt8) (h : stepU m = some p) : stepU (m ++ r) = some p := by
  cases m with
  | nil => cases h
  | cons c t =>
    rw [List.cons_append]
    simp only [stepU] at h ⊢
    by_cases h1 : badU c = true
    · rw [if_pos h1] at h; cases h
    · rw [if_neg h1] at h ⊢
      by_cases h2 : c = 92
      · rw [if_pos h2] at h ⊢; exact stepE_mono r h
      · rw [if_neg h2] at h ⊢; exact h
theorem stepU_none {c : UInt8} {t : List UInt8} (h : stepU (c :: t) = none) (h92 : c :: t ≠ [92]) : stepU (c :: t ++ [34]) = none := by
  rw [List.cons_append]
  simp only [stepU] at h ⊢
  by_cases h1 : badU c = true
  · rw [if_pos h1]
  · rw [if_neg h1] at h ⊢
    by_cases h2 : c = 92
    · rw [if_pos h2] at h ⊢
      cases t with
      | nil => exact absurd (by rw [h2]) h92
      | cons d q =>
        rw [List.cons_append]
        simp only [stepE] at h ⊢
        by_cases h3 : d = 34 ∨ d = 92
        · rw [if_pos h3] at h; cases h
        · rw [if_neg h3] at h ⊢
          by_cases h4 : d = 120
          · rw [if_pos h4] at h ⊢
            match q, h with
            | [], h => rfl
            | [x], h =>
              show (if 0 ≤ hexQ x ∧ 0 ≤ hexQ 34 then _ else none) = none
              rw [if_neg (fun k => absurd k.2 (by decide +kernel))]
            | x :: y :: z, h => exact h
          · rw [if_neg h4]
    · rw [if_neg h2] at h; cases h
theorem quotW_iff : ∀ (n : Nat) (m : List UInt8), m.length ≤ n → ∀ o, quotW (m ++ [34]) = some (o, m.length + 1) ↔ unqW m = some o
  | _, [], _, o => by
    show quotW [34] = _ ↔ _
    rw [quotW_end, unqW_nil]
    constructor
    · intro h; have := Option.some.inj h; rw [Prod.mk.injEq] at this; rw [this.1]
    · intro h; cases h; rfl
  | 0, c :: t, h, _ => absurd h (by simp)
  | n + 1, c :: t, h, o => by
    rw [List.length_cons] at h
    by_cases h34 : c = 34
    · subst h34
      rw [List.cons_append, quotW_end, unqW_stop (stepU_bad (.inr (.inr rfl))) (by simp)]
      constructor
      · intro h2
        have := Option.some.inj h2
        rw [Prod.mk.injEq, List.length_cons] at this
        omega
      · intro h2; cases h2
    · cases hs : stepU (c :: t) with
      | none =>
        rw [unqW_stop hs (by simp)]
        have hq : quotW (c :: t ++ [34]) = none := by
          by_cases h92 : c :: t = [92]
          · rw [h92]; rfl
          · have := stepU_none hs h92
            rw [List.cons_append] at this ⊢
            exact quotW_stop h34 this
        rw [hq]
        exact ⟨fun h2 => (by cases h2), fun h2 => (by cases h2)⟩
      | some p =>
        obtain ⟨d, k⟩ := p
        obtain ⟨hk1, hk2⟩ := stepU_pos hs
        have hk1 : 1 ≤ k := hk1
        have hk2 : k ≤ (c :: t).length := hk2
        have hm := stepU_mono [34] hs
        rw [List.cons_append] at hm ⊢
        rw [quotW_step h34 hm, unqW_step hs, ← List.cons_append, List.drop_append_of_le_length hk2]
        have ih := quotW_iff n ((c :: t).drop k) (by rw [List.length_drop, List.length_cons]; omega)
        have hlen : ((c :: t).drop k).length + k = (c :: t).length := by rw [List.length_drop]; omega
        constructor
        · intro h2
          cases hq : quotW (List.drop k (c :: t) ++ [34]) with
          | none => rw [hq] at h2; cases h2
          | some q =>
            obtain ⟨o', n'⟩ := q
            rw [hq] at h2
            have h3 := Option.some.inj h2
            rw [Prod.mk.injEq] at h3
            have hn : n' = ((c :: t).drop k).length + 1 := by have := h3.2; simp only at this; omega
            rw [hn] at hq
            rw [(ih o').1 hq]
            exact congrArg some h3.1
        · intro h2
          cases hu : unqW (List.drop k (c :: t)) with
          | none => rw [hu] at h2; cases h2
          | some o' =>
            rw [hu] at h2
            rw [(ih o').2 hu]
            have h3 := Option.some.inj h2
            show some (d :: o', k + (((c :: t).drop k).length + 1)) = _
            rw [← h3, show k + (((c :: t).drop k).length + 1) = (c :: t).length + 1 by omega]
theorem quotW_last : ∀ (n : Nat) (r : List UInt8), r.length ≤ n → ∀ o k, quotW r = some (o, k) → 1 ≤ k ∧ k ≤ r.length ∧ r[k - 1]? = some 34
  | _, [], _, _, _, h => by cases h
  | 0, c :: t, h, _, _, _ => absurd h (by simp)
  | n + 1, c :: t, h, o, k, hq => by
    rw [List.length_cons] at h
    by_cases h34 : c = 34
    · subst h34
      rw [quotW_end] at hq
      cases hq
      exact ⟨Nat.le_refl _, by rw [List.length_cons]; omega, rfl⟩
    · cases hs : stepU (c :: t) with
      | none => rw [quotW_stop h34 hs] at hq; cases hq
      | some p =>
        obtain ⟨d, j⟩ := p
        obtain ⟨hk1, hk2⟩ := stepU_pos hs
        have hk1 : 1 ≤ j := hk1
        have hk2 : j ≤ (c :: t).length := hk2
        rw [quotW_step h34 hs] at hq
        cases hq2 : quotW ((c :: t).drop j) with
        | none => rw [hq2] at hq; cases hq
        | some q =>
          obtain ⟨o', n'⟩ := q
          rw [hq2] at hq
          cases hq
          obtain ⟨a1, a2, a3⟩ := quotW_last n _ (by rw [List.length_drop, List.length_cons]; omega) o' n' hq2
          rw [List.length_drop] at a2
          rw [List.getElem?_drop] at a3
          exact ⟨by omega, by omega, by rw [show j + n' - 1 = j + (n' - 1) by omega]; exact a3⟩
def refUnqP (l : List UInt8) : List UInt8 × Int :=
  if l.length = 0 ∨ l.head? ≠ some 34 then ([], 3) else if (quotP l 0).1 ≠ l.length then ([], 3) else if 64 < (quotP l 0).2.length then ([], 9) else ((quotP l 0).2, 0)
theorem refUnqP_eq (l : List UInt8) : refUnqP l = unqQ l := by
  unfold refUnqP
  by_cases h1 : l.length = 0 ∨ l.head? ≠ some 34
  · rw [if_pos h1, unqQ_bad]
    rcases h1 with h | h
    · exact .inl (by omega)
    · exact .inr (.inl h)
  · rw [if_neg h1]
    cases l with
    | nil => exact absurd (.inl rfl) h1
    | cons c r =>
      have hc : c = 34 := by
        by_cases h : c = 34
        · exact h
        · exact absurd (.inr (by simp [h])) h1
      subst hc
      have hP : quotP (34 :: r) 0 = match quotW r with | none => (0, []) | some q => (1 + q.2, q.1) := by
        unfold quotP; rfl
      cases hr : r.reverse with
      | nil =>
        have : r = [] := by simpa using hr
        subst this
        rw [hP, unqQ_bad (.inl (by show 1 < 2; omega))]
        rfl
      | cons z m' =>
        have hrm : r = m'.reverse ++ [z] := by rw [← List.reverse_reverse r, hr, List.reverse_cons]
        obtain ⟨m, hm⟩ : ∃ m, m'.reverse = m := ⟨_, rfl⟩
        rw [hm] at hrm
        subst hrm
        have hlen : (34 :: (m ++ [z])).length = m.length + 2 := by rw [List.length_cons, List.length_append]; rfl
        by_cases hz : z = 34
        rotate_left
        · rw [unqQ_bad (.inr (.inr (by rw [← List.cons_append, List.getLast?_concat]; intro e; exact hz (Option.some.inj e))))]
          rw [if_pos]
          rw [hP, hlen]
          cases hq : quotW (m ++ [z]) with
          | none => show 0 ≠ m.length + 2; omega
          | some q =>
            obtain ⟨o, k⟩ := q
            obtain ⟨a1, a2, a3⟩ := quotW_last _ _ (Nat.le_refl _) o k hq
            show 1 + k ≠ m.length + 2
            intro e
            have hk : k - 1 = m.length := by omega
            rw [hk, List.getElem?_append_right (Nat.le_refl _), Nat.sub_self] at a3
            exact hz (Option.some.inj a3)
        · subst hz
          rw [unqQ_mid (by
            rintro (h | h | h)
            · rw [hlen] at h; omega
            · exact h rfl
            · rw [← List.cons_append, List.getLast?_concat] at h; exact h rfl)]
          have hmid : ((34 :: (m ++ [34])).drop 1).take ((34 :: (m ++ [34])).length - 2) = m := by
            rw [hlen, Nat.add_sub_cancel]
            show (m ++ [34]).take m.length = m
            rw [List.take_left]
          rw [hmid, hP, hlen]
          have hi := quotW_iff _ m (Nat.le_refl _)
          unfold unqR
          cases hu : unqW m with
          | some o =>
            rw [(hi o).2 hu]
            rw [if_neg (by show ¬ (1 + (m.length + 1) ≠ m.length + 2); omega)]
          | none =>
            rw [if_pos]
            cases hq : quotW (m ++ [34]) with
            | none => show 0 ≠ m.length + 2; omega
            | some q =>
              obtain ⟨o, k⟩ := q
              show 1 + k ≠ m.length + 2
              intro e
              have hk : k = m.length + 1 := by omega
              rw [hk] at hq
              rw [(hi o).1 hq] at hu
              cases hu
end Go.Proofs.YtjlpekjfmgcbdaaGreatDoor

/- Contracts of the reference's Unquote and Quote. -/
set_option linter.unusedVariables false
set_option linter.unusedSimpArgs false
namespace Go.Proofs.YtjlpekjfmgcbdaaGreatDoor
open Go.RowKit Go.Shelf
theorem quotP_len (l : List UInt8) (a : Nat) : (quotP l a).1 ≤ l.length + 1 := by
  unfold quotP
  cases hq : quotW (l.drop (a + 1)) with
  | none => exact Nat.zero_le _
  | some q =>
    obtain ⟨o, k⟩ := q
    obtain ⟨a1, a2, _⟩ := quotW_last _ _ (Nat.le_refl _) o k hq
    rw [List.length_drop] at a2
    show a + 1 + k ≤ _
    omega
set_option maxHeartbeats 4000000 in
theorem refUnquoteQ_any (l : List UInt8) (w : World) (hl : l.length ≤ 1000000) :
    Calls Tryz.prog 16 #[.string (bsQ l)] w fun e w' => e = .returned (.tuple #[.string (bsQ (unqQ l).1), .int .i64 (unqQ l).2]) ∧ Below w.heap.size w w' := by
  rw [← refUnqP_eq]
  have hz := bsQ_size l
  by_cases h0 : l.length = 0
  · have HV := hide (show refUnqP l = ([], 3) by unfold refUnqP; rw [if_pos (.inl h0)])
    have e0 : (((bsQ l).size : Int) == 0) = true := by rw [hz, h0]; rfl
    generalize bsQ l = s at *
    clear hz h0
    go_enter Tryz.func16, Tryz.ntmps16
    go_wp2
    go_ret2
    exact ⟨(by rw [HV.out]; rfl), Below.refl _ _⟩
  have e0 : (((bsQ l).size : Int) == 0) = false := beq_eq_false_iff_ne.2 (by omega)
  have hs0 : 0 < (bsQ l).size := by omega
  have hl0 : 0 < l.length := by omega
  obtain ⟨c, hc⟩ : ∃ c, l[0]'hl0 = c := ⟨_, rfl⟩
  have hsc : (bsQ l)[0]'hs0 = c := by rw [bsQ_get, hc]
  have hh : l.head? = some c := by rw [headQ hl0, hc]
  by_cases h34 : c = 34
  rotate_left
  · have HV := hide (show refUnqP l = ([], 3) by unfold refUnqP; rw [if_pos (.inr (by rw [hh]; intro e; exact h34 (Option.some.inj e)))])
    have e1 : ((c.toNat : Int) == 34) = false := toNat_neQ (d := 34) h34
    have e2 : ((c.toNat : Int) != 34) = true := by rw [bne, e1]; rfl
    generalize bsQ l = s at *
    clear hz h0 hc hh h34
    go_enter Tryz.func16, Tryz.ntmps16
    go_wp2
    go_ret2
    exact ⟨(by rw [HV.out]; rfl), Below.refl _ _⟩
  subst h34
  have HV0 := hide (show refUnqP l = if (quotP l 0).1 ≠ l.length then ([], 3) else if 64 < (quotP l 0).2.length then ([], 9) else ((quotP l 0).2, 0) by
    unfold refUnqP; rw [if_neg (by rintro (h | h); exact h0 h; exact h hh)])
  have QU := hide (fun W : World => show Calls Tryz.prog 47 #[.string (bsQ l), .int .i64 0] W fun e w' => e = .returned (.tuple #[.int .i64 ((quotP l 0).1 : Int), .string (bsQ (quotP l 0).2)]) ∧ Below W.heap.size W w' from refQuoted_any l 0 W hl (by omega))
  obtain ⟨⟨n, o⟩, hp⟩ : ∃ p, quotP l 0 = p := ⟨_, rfl⟩
  rw [hp] at QU HV0
  have hoz := bsQ_size o
  clear hp hc hh h0
  by_cases hn : n = l.length
  rotate_left
  · have HV := hide (show refUnqP l = ([], 3) by rw [HV0.out, if_pos hn])
    have e1 : ((n : Int) == ((bsQ l).size : Int)) = false := beq_eq_false_iff_ne.2 (by omega)
    have e2 : ((n : Int) != ((bsQ l).size : Int)) = true := by rw [bne, e1]; rfl
    generalize bsQ l = s at *
    clear hz hn
    go_enter Tryz.func16, Tryz.ntmps16
    go_wp2_with fail
    refine (QU.out _).mono ?_
    rintro e w1 ⟨rfl, hb⟩
    have Hb := hide hb
    clear hb
    go_wp2
    go_ret2
    exact ⟨(by rw [HV.out]; rfl), Hb.out⟩
  have e1 : ((n : Int) == ((bsQ l).size : Int)) = true := by rw [beq_iff_eq]; omega
  have e2 : ((n : Int) != ((bsQ l).size : Int)) = false := by rw [bne, e1]; rfl
  by_cases hb : 64 < o.length
  · have HV := hide (show refUnqP l = ([], 9) by rw [HV0.out, if_neg (fun h => h hn), if_pos hb])
    have q1 : (64 : Int) < ((bsQ o).size : Int) := by omega
    generalize bsQ l = s at *
    generalize bsQ o = so at *
    clear hz hn hb hoz
    go_enter Tryz.func16, Tryz.ntmps16
    go_wp2_with fail
    refine (QU.out _).mono ?_
    rintro e w1 ⟨rfl, hb⟩
    have Hb := hide hb
    clear hb
    go_wp2
    go_ret2
    exact ⟨(by rw [HV.out]; rfl), Hb.out⟩
  · have HV := hide (show refUnqP l = (o, 0) by rw [HV0.out, if_neg (fun h => h hn), if_neg hb])
    have q1 : ¬ (64 : Int) < ((bsQ o).size : Int) := by omega
    generalize bsQ l = s at *
    obtain ⟨so, hso⟩ : ∃ so, bsQ o = so := ⟨_, rfl⟩
    rw [hso] at QU q1
    have Hso := hide hso
    clear hz hn hb hoz hso
    go_enter Tryz.func16, Tryz.ntmps16
    go_wp2_with fail
    refine (QU.out _).mono ?_
    rintro e w1 ⟨rfl, hb⟩
    have Hb := hide hb
    clear hb
    go_wp2
    go_ret2
    exact ⟨(by rw [HV.out]; show _ = Ending.returned (.tuple #[.string (bsQ o), .int .i64 0]); rw [Hso.out]; rfl), Hb.out⟩
theorem figs_cut (n : Nat) (h : n < 16) : (⟨#[48, 49, 50, 51, 52, 53, 54, 55, 56, 57, 97, 98, 99, 100, 101, 102]⟩ : ByteArray).extract n (n + 1) = bsQ [figQ n] := by
  have h3 : ∀ k : Fin 16, ((⟨#[48, 49, 50, 51, 52, 53, 54, 55, 56, 57, 97, 98, 99, 100, 101, 102]⟩ : ByteArray).extract k.val (k.val + 1)).data.toList = [figQ k.val] := by decide +kernel
  apply Go.WideShapes.bytes_inj
  rw [h3 ⟨n, h⟩, bsQ_list]
theorem one_cut (l : List UInt8) (i : Nat) (h : i < l.length) : (bsQ l).extract i (i + 1) = bsQ [l[i]] := by
  rw [bsQ_mid, Nat.add_sub_cancel_left, List.drop_eq_getElem_cons h]; rfl
set_option maxRecDepth 20000 in
set_option maxHeartbeats 8000000 in
theorem refQuoteQ_any (l : List UInt8) (w : World) (hl : l.length ≤ 100000) :
    Calls Tryz.prog 18 #[.string (bsQ l)] w fun e w' => e = .returned (.string (bsQ (quoQ l))) ∧ Below w.heap.size w w' := by
  have hz := bsQ_size l
  have hg : ∀ (i : Nat) (h : i < (bsQ l).size) (h2 : i < l.length), (bsQ l)[i]'h = l[i] := fun i h h2 => bsQ_get l i h
  obtain ⟨RL, hRL⟩ : ∃ R, quoQ l = R := ⟨_, rfl⟩
  have hRlen : RL.length ≤ 400010 := by rw [← hRL, quoQ_eq, List.length_cons, List.length_append, List.length_singleton]; have := escs_len l; omega
  have HR := hide (show [34] ++ l.flatMap escQ ++ [34] = RL by rw [← hRL, quoQ_eq]; rfl)
  have HX := hide (fun (i : Nat) (h : i < l.length) => one_cut l i h)
  rw [hRL]
  clear hRL
  generalize bsQ l = s at *
  have Hz := hide hz
  have Hg := hide hg
  clear hz hg
  go_enter Tryz.func18, Tryz.ntmps18
  go_wp2_with fail
  go_loopw [3, 4] (fun u v wr => ∃ (i : Nat) (P : List UInt8), v = .int .i64 (i : Int) ∧ u = .string (bsQ P) ∧ i ≤ l.length ∧ P ++ (l.drop i).flatMap escQ ++ [34] = RL ∧ ∃ n, wr = w.drewN n) (fun _ v _ => l.length - (intOf v).toNat)
  case atStart => exact ⟨0, [34], rfl, rfl, by omega, HR.out, 0, rfl⟩
  case round =>
    obtain ⟨i, P, rfl, rfl, hi, hP, n, rfl⟩ := hrel
    have HP := hide hP
    have HPl := hide (show P.length ≤ 400010 by have := congrArg List.length hP; rw [List.length_append, List.length_append] at this; omega)
    clear hP
    by_cases hlt : i < l.length
    · have hi' : (i : Int) < (s.size : Int) := by have := Hz.out; omega
      have hi0 : (0 : Int) ≤ (i : Int) := by omega
      have his : i < s.size := by omega
      have hwi : IntKind.i64.wrap ((i : Int) + 1) = (i : Int) + 1 := IntWalk.i64_in _ (by omega)
      have hdr : l.drop i = l[i] :: l.drop (i + 1) := List.drop_eq_getElem_cons hlt
      have hx := HX.out i hlt
      obtain ⟨c, hc⟩ : ∃ c, l[i] = c := ⟨_, rfl⟩
      have hsc : s[i]'his = c := by rw [Hg.out i his hlt, hc]
      rw [hc] at hdr hx
      have HS := hide (show P ++ (escQ c ++ (l.drop (i + 1)).flatMap escQ) ++ [34] = RL by rw [← HP.out, hdr, escs_cons])
      have k1 : (0 : Int) ≤ (i : Int) + 1 := by omega
      have k2 : (i : Int) ≤ (i : Int) + 1 := by omega
      have k3 : (i : Int) + 1 ≤ (s.size : Int) := by omega
      have k4 : ((i : Int) + 1).toNat = i + 1 := by omega
      clear hdr hc HP
      by_cases h12 : c = 34 ∨ c = 92
      · have y1 : ∀ W, (Op.stringOp .add (bsQ P) ⟨#[92]⟩).run Tryz.prog W = .ok (.string (bsQ (P ++ [92]))) W := fun W => catQ P [92] (by have := HPl.out; show P.length + 1 ≤ _; omega) W
        have y2 : ∀ W, (Op.stringOp .add (bsQ (P ++ [92])) (bsQ [c])).run Tryz.prog W = .ok (.string (bsQ (P ++ [92] ++ [c]))) W := fun W => catQ (P ++ [92]) [c] (by have := HPl.out; rw [List.length_append]; show P.length + 1 + 1 ≤ _; omega) W
        have HN := hide (show P ++ [92] ++ [c] ++ (l.drop (i + 1)).flatMap escQ ++ [34] = RL from (esc_two (escQ_two h12)).trans HS.out)
        generalize hPP : P ++ [92] ++ [c] = PP at *
        rcases h12 with rfl | rfl
        all_goals
          clear hPP
          go_wp2
          go_roundw
          case rel => exact ⟨i + 1, PP, by go_num, rfl, by omega, HN.out, n, rfl⟩
          case measure => simp [intOf]; omega
      have h1 : c ≠ 34 := fun h => h12 (.inl h)
      have h2 : c ≠ 92 := fun h => h12 (.inr h)
      have e34 : ((c.toNat : Int) == 34) = false := toNat_neQ (d := 34) h1
      have e92 : ((c.toNat : Int) == 92) = false := toNat_neQ (d := 92) h2
      have hc256 := c.toNat_lt
      by_cases h3 : c.toNat < 32 ∨ 126 < c.toNat
      · have x1 := figs_cut (c.toNat / 16) (by omega)
        have x2 := figs_cut (c.toNat % 16) (by omega)
        have HE := hide (escQ_four h12 h3)
        generalize hf1 : figQ (c.toNat / 16) = f1 at *
        generalize hf2 : figQ (c.toNat % 16) = f2 at *
        have y1 : ∀ W, (Op.stringOp .add (bsQ P) ⟨#[92, 120]⟩).run Tryz.prog W = .ok (.string (bsQ (P ++ [92, 120]))) W := fun W => catQ P [92, 120] (by have := HPl.out; show P.length + 2 ≤ _; omega) W
        have y2 : ∀ W, (Op.stringOp .add (bsQ (P ++ [92, 120])) (bsQ [f1])).run Tryz.prog W = .ok (.string (bsQ (P ++ [92, 120] ++ [f1]))) W := fun W => catQ (P ++ [92, 120]) [f1] (by have := HPl.out; rw [List.length_append]; show P.length + 2 + 1 ≤ _; omega) W
        have y3 : ∀ W, (Op.stringOp .add (bsQ (P ++ [92, 120] ++ [f1])) (bsQ [f2])).run Tryz.prog W = .ok (.string (bsQ (P ++ [92, 120] ++ [f1] ++ [f2]))) W := fun W => catQ (P ++ [92, 120] ++ [f1]) [f2] (by have := HPl.out; rw [List.length_append, List.length_append]; show P.length + 2 + 1 + 1 ≤ _; omega) W
        have HN := hide (show P ++ [92, 120] ++ [f1] ++ [f2] ++ (l.drop (i + 1)).flatMap escQ ++ [34] = RL from (esc_four HE.out).trans HS.out)
        generalize P ++ [92, 120] ++ [f1] ++ [f2] = P4 at *
        generalize P ++ [92, 120] ++ [f1] = P3 at *
        generalize P ++ [92, 120] = P2 at *
        have d1 : (c.toNat : Int) / 16 = ((c.toNat / 16 : Nat) : Int) := by omega
        have d2 : (c.toNat : Int) % 16 = ((c.toNat % 16 : Nat) : Int) := by omega
        have d3 : Int.tmod (c.toNat : Int) 16 = ((c.toNat % 16 : Nat) : Int) := by rw [Int.tmod_eq_emod_of_nonneg (by omega)]; omega
        have b1 : c.toNat / 16 < 16 := by omega
        have b2 : c.toNat % 16 < 16 := by omega
        generalize c.toNat / 16 = n1 at *
        generalize c.toNat % 16 = n2 at *
        have u01 : IntKind.u8.wrap (n1 : Int) = (n1 : Int) := by rw [IntKind.wrap_u8]; omega
        have u02 : IntKind.u8.wrap (n2 : Int) = (n2 : Int) := by rw [IntKind.wrap_u8]; omega
        have u1 : IntKind.u8.wrap ((n1 : Int) + 1) = (n1 : Int) + 1 := by rw [IntKind.wrap_u8]; omega
        have u2 : IntKind.u8.wrap ((n2 : Int) + 1) = (n2 : Int) + 1 := by rw [IntKind.wrap_u8]; omega
        have m1 : (0 : Int) ≤ (n1 : Int) := by omega
        have m2 : (n1 : Int) ≤ (n1 : Int) + 1 := by omega
        have m3 : (n1 : Int) + 1 ≤ 16 := by omega
        have m4 : ((n1 : Int) + 1).toNat = n1 + 1 := by omega
        have m5 : (0 : Int) ≤ (n2 : Int) := by omega
        have m6 : (n2 : Int) ≤ (n2 : Int) + 1 := by omega
        have m7 : (n2 : Int) + 1 ≤ 16 := by omega
        have m8 : ((n2 : Int) + 1).toNat = n2 + 1 := by omega
        clear hf1 hf2 h12 h1 h2
        by_cases hlo : c.toNat < 32
        · have q2 : (c.toNat : Int) < 32 := by omega
          clear h3 hlo
          go_wp2_with fail
          refine wp_still (by kernel_rfl) (by kernel_rfl) ?_
          repeat still_step
          refine wpStill_nil ?_
          go_wp2
          go_roundw
          case rel => exact ⟨i + 1, _, by go_num, rfl, by omega, HN.out, n + 1, rfl⟩
          case measure => simp [intOf]; omega
        · have q2 : ¬ (c.toNat : Int) < 32 := by omega
          have q3 : (126 : Int) < (c.toNat : Int) := by omega
          clear h3 hlo
          go_wp2_with fail
          refine wp_still (by kernel_rfl) (by kernel_rfl) ?_
          repeat still_step
          refine wpStill_nil ?_
          go_wp2
          go_roundw
          case rel => exact ⟨i + 1, _, by go_num, rfl, by omega, HN.out, n + 1, rfl⟩
          case measure => simp [intOf]; omega
      · have q1 : ¬ (c.toNat : Int) < 32 := by omega
        have q2 : ¬ (126 : Int) < (c.toNat : Int) := by omega
        have y2 : ∀ W, (Op.stringOp .add (bsQ P) (bsQ [c])).run Tryz.prog W = .ok (.string (bsQ (P ++ [c]))) W := fun W => catQ P [c] (by have := HPl.out; show P.length + 1 ≤ _; omega) W
        have HN := hide (show (P ++ [c]) ++ (l.drop (i + 1)).flatMap escQ ++ [34] = RL by rw [← HS.out, escQ_one h12 h3, List.append_assoc P])
        clear h1 h2 h3 h12
        go_wp2
        go_roundw
        case rel => exact ⟨i + 1, _, by go_num, rfl, by omega, HN.out, n, rfl⟩
        case measure => simp [intOf]; omega
    · have hi' : ¬ (i : Int) < (s.size : Int) := by have := Hz.out; omega
      have HS := hide (show P ++ [34] = RL by rw [← HP.out, List.drop_eq_nil_of_le (by omega)]; simp)
      have y1 : ∀ W, (Op.stringOp .add (bsQ P) ⟨#[34]⟩).run Tryz.prog W = .ok (.string (bsQ RL)) W := fun W => by rw [← HS.out]; exact catQ P [34] (by have := HPl.out; show P.length + 1 ≤ _; omega) W
      go_wp2
      go_ret
      exact ⟨rfl, Below_drewN (Below.refl _ _) _⟩
end Go.Proofs.YtjlpekjfmgcbdaaGreatDoor
