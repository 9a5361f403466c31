/- Plain laws of values, and the examples of the chapter. -/
import Derived.Test.YtpjikbfeegncbaaGreatDoorVaR
import Derived.Test.YtpjikbfeegncbaaGreatDoorRows
set_option linter.unusedVariables false
set_option linter.unusedSimpArgs false
namespace Go.Proofs.YtpjikbfeegncbaaGreatDoor
open Go.RowKit Go.Shelf Go.Sort

theorem hexV_D : ∀ n, n < 16 → hexV (hexD n) = some n := by decide +kernel
theorem step1_quote (c : UInt8) (l : List UInt8) : step1 (quoteB c ++ l) = some (c, (quoteB c).length) := by
  unfold quoteB
  by_cases hc : c = 92
  · rw [if_pos hc, hc]; rfl
  · rw [if_neg hc]
    cases hp : prB c with
    | true =>
      rw [if_pos rfl]
      show step1 (c :: l) = _
      unfold step1; simp only; rw [if_neg hc, hp]; rfl
    | false =>
      rw [if_neg (by decide)]
      show step1 (92 :: 120 :: hexD (c.toNat / 16) :: hexD (c.toNat % 16) :: l) = _
      have hlt := c.toNat_lt
      unfold step1; simp only
      rw [if_pos trivial, if_neg (by decide), if_pos trivial, hexV_D _ (by omega), hexV_D _ (by omega)]
      simp only
      rw [show 16 * (c.toNat / 16) + c.toNat % 16 = c.toNat by omega, UInt8.ofNat_toNat]; rfl
theorem unq_quote_app (l r : List UInt8) : unq (quoteL l ++ r) = (unq r).map (l ++ ·) := by
  induction l with
  | nil => simp [quoteL]
  | cons c l ih =>
    have e : quoteL (c :: l) ++ r = quoteB c ++ (quoteL l ++ r) := by
      show (quoteB c ++ quoteL l) ++ r = _
      rw [List.append_assoc]
    rw [e, unq_step (step1_quote c _), List.drop_left, ih]
    cases unq r <;> simp
theorem unq_quote (l : List UInt8) : unq (quoteL l) = some l := by
  have := unq_quote_app l []
  rw [List.append_nil, unq_nil] at this
  rw [this]; simp
theorem unqRes_ok {l : List UInt8} (h : (unqRes l).2 = 0) : ∃ s, unq l = some s ∧ s.length ≤ 64 ∧ unqRes l = (⟨s.toArray⟩, 0) := by
  unfold unqRes at h ⊢
  cases hu : unq l with
  | none => rw [hu] at h; exact absurd h (by decide)
  | some s =>
    rw [hu] at h
    simp only at h ⊢
    by_cases h64 : 64 < s.length
    · rw [if_pos h64] at h; exact absurd h (by decide)
    · rw [if_neg h64]; exact ⟨s, rfl, by omega, rfl⟩
theorem unqRes_err {l : List UInt8} (h : ¬ (unqRes l).2 = 0) : (unqRes l).1 = ⟨#[]⟩ := by
  unfold unqRes at h ⊢
  cases hu : unq l with
  | none => rfl
  | some s =>
    rw [hu] at h
    simp only at h ⊢
    by_cases h64 : 64 < s.length
    · rw [if_pos h64]
    · rw [if_neg h64] at h; exact absurd rfl h

theorem okW_0 {wd : Int} (h : okW 0 wd = true) : 1 ≤ wd ∧ wd ≤ 128 := of_decide_eq_true (by unfold okW at h; exact h)
theorem isV_of_val {wd : Int} {l : List UInt8} (h : valV wd l = true) : isV l = true := by
  unfold valV at h; rw [Bool.and_eq_true] at h; exact h.1
theorem back_k (k : Nat) (hk : k < 4) (wd : Int) (l : List UInt8) (hv : validK k wd l = true) : parseK k wd (formatK k l) = (bsV l, 0) := by
  match k with
  | 0 =>
    have hv' : valV wd l = true := hv
    show (bsV (bitsV wd (if isV l then shortV l else [])).1, (bitsV wd (if isV l then shortV l else [])).2) = _
    rw [if_pos (isV_of_val hv'), short_back hv']
  | 1 => exact (canV_iff l).1 hv
  | 2 =>
    have h64 : l.length ≤ 64 := of_decide_eq_true hv
    show unqRes (quoteL l) = _
    unfold unqRes
    rw [unq_quote]
    show (if 64 < l.length then _ else _) = _
    rw [if_neg (by omega)]; rfl
  | 3 =>
    have hl : l = [] := of_decide_eq_true hv
    subst hl
    show ((⟨#[]⟩ : ByteArray), if ([49] : List UInt8).length = 1 ∧ ([49] : List UInt8).all dgB = true then (0 : Int) else 3) = _
    decide +kernel
  | _ + 4 => omega
theorem parse_good (k : Nat) (wd : Int) (l : List UInt8) (h : (parseK k wd l).2 = 0) : validK k wd (parseK k wd l).1.data.toList = true := by
  match k with
  | 0 =>
    show valV wd (bitsV wd l).1 = true
    exact bits_value (v := (bitsV wd l).1) (by rw [← show (bitsV wd l).2 = 0 from h])
  | 1 => exact parse_again l h
  | 2 =>
    obtain ⟨s, h1, h2, h3⟩ := unqRes_ok (l := l) h
    show decide ((unqRes l).1.data.toList.length ≤ 64) = true
    rw [h3]
    exact decide_eq_true h2
  | _ + 3 => rfl
theorem parse_bad (k : Nat) (wd : Int) (l : List UInt8) (h : (parseK k wd l).2 ≠ 0) : (parseK k wd l).1 = ⟨#[]⟩ := by
  match k with
  | 0 =>
    show bsV (bitsV wd l).1 = _
    rw [bitsV_err (w := wd) (l := l) h]; rfl
  | 1 => exact parseV_err l h
  | 2 => exact unqRes_err (l := l) h
  | _ + 3 => rfl
theorem valid_len (k : Nat) (wd : Int) (l : List UInt8) (h : validK k wd l = true) : l.length ≤ 128 := by
  match k with
  | 0 =>
    have := (valV_iff (w := wd) (l := l)).1 h
    omega
  | 1 =>
    have h2 := (canV_iff l).1 h
    unfold parseV at h2
    cases hs : scanV l with
    | none =>
      rw [hs] at h2
      have h3 : (3 : Int) = 0 := congrArg Prod.snd h2
      omega
    | some p => have := (scanV_len hs).1; omega
  | 2 => have : l.length ≤ 64 := of_decide_eq_true h; omega
  | _ + 3 =>
    have : l = [] := of_decide_eq_true h
    subst this; exact Nat.zero_le _
theorem inK_k {n wd : Int} (h : inK n wd = true) : ∃ k : Nat, n = k ∧ k < 4 ∧ okW k wd = true := by
  unfold inK at h
  rw [Bool.and_eq_true] at h
  have h1 := of_decide_eq_true h.1
  exact ⟨n.toNat, by omega, by omega, h.2⟩
theorem validN_k {n wd : Int} {l : List UInt8} (h : validN n wd l = true) : inK n wd = true ∧ validK n.toNat wd l = true := by
  unfold validN at h
  rwa [Bool.and_eq_true] at h
theorem back_N (n wd : Int) (l : List UInt8) (h : validN n wd l = true) : parseN n wd (formatN n wd l) = (bsV l, 0) := by
  obtain ⟨h1, h2⟩ := validN_k h
  obtain ⟨k, rfl, hk, ho⟩ := inK_k h1
  rw [Int.toNat_natCast] at h2
  unfold parseN formatN
  rw [h, if_pos h1, if_pos rfl, Int.toNat_natCast]
  exact back_k k hk wd l h2
theorem good_N (n wd : Int) (l : List UInt8) (h : (parseN n wd l).2 = 0) : validN n wd (parseN n wd l).1.data.toList = true := by
  unfold parseN at h ⊢
  by_cases h1 : inK n wd = true
  · rw [if_pos h1] at h ⊢
    unfold validN
    rw [h1, Bool.true_and]
    exact parse_good _ wd l h
  · rw [if_neg h1] at h
    exact absurd h (by decide)
theorem bad_N (n wd : Int) (l : List UInt8) (h : (parseN n wd l).2 ≠ 0) : (parseN n wd l).1 = ⟨#[]⟩ := by
  unfold parseN at h ⊢
  by_cases h1 : inK n wd = true
  · rw [if_pos h1] at h ⊢
    exact parse_bad _ wd l h
  · rw [if_neg h1]
theorem len_N (n wd : Int) (l : List UInt8) (h : validN n wd l = true) : l.length ≤ 128 := valid_len _ wd l (validN_k h).2
theorem formatN_len (n wd : Int) (l : List UInt8) : (formatN n wd l).length ≤ 4 * l.length + 1 := by
  unfold formatN
  split
  · exact formatK_len _ l
  · exact Nat.zero_le _

theorem ex_1 : parseN 0 4 [122, 48] = (⟨#[122, 122, 122, 48]⟩, 0) := by decide +kernel
theorem ex_2 : parseN 1 0 [49, 46, 53, 48] = (⟨#[49, 46, 53, 101, 48]⟩, 0) := by decide +kernel
theorem ex_3 : bsV (commandN 0 4 [48, 48, 48, 49] [33]) = ⟨#[98, 49, 32, 33]⟩ := by decide +kernel
theorem ex_4 : bsV (commandN 0 1 [49] [33]) = ⟨#[49, 33]⟩ := by decide +kernel
theorem ex_5 : initN 0 2 = ⟨#[120, 120]⟩ := by decide +kernel
theorem ex_6 : inK 3 0 = true := by decide +kernel
theorem ex_7 : validN 2 0 [97, 32, 98] = true := by decide +kernel
theorem ex_8 : bsV (formatN 2 0 [97, 32, 98]) = ⟨#[97, 92, 120, 50, 48, 98]⟩ := by decide +kernel

set_option maxRecDepth 20000 in
set_option maxHeartbeats 4000000 in
theorem awake_any (w : World) (hg : Gl w) :
    Calls Tryz.prog 9 #[] w fun e w' => e = .returned (.bool true) ∧ Below w.heap.size w w' := by
  have G := hide hg
  clear hg
  have P1 := hide (fun (W : World) (h : Gl W) => Parse_any 0 4 [122, 48] W (by decide) h)
  rw [ex_1] at P1
  have P2 := hide (fun (W : World) (h : Gl W) => Parse_any 1 0 [49, 46, 53, 48] W (by decide) h)
  rw [ex_2] at P2
  have P3 := hide (fun (W : World) (h : Gl W) => Command_any 0 4 [48, 48, 48, 49] [33] W (by decide) (by decide) h)
  rw [ex_3] at P3
  have P4 := hide (fun (W : World) (h : Gl W) => Command_any 0 1 [49] [33] W (by decide) (by decide) h)
  rw [ex_4] at P4
  have P5 := hide (fun (W : World) => Initial_any 0 2 W)
  rw [ex_5] at P5
  have P6 := hide (fun (W : World) => ValidType_any 3 0 W)
  rw [ex_6] at P6
  have P7 := hide (fun (W : World) (h : Gl W) => Valid_any 2 0 [97, 32, 98] W (by decide) h)
  rw [ex_7] at P7
  have P8 := hide (fun (W : World) (h : Gl W) => Format_any 2 0 [97, 32, 98] W (by decide) h)
  rw [ex_8] at P8
  have B0 := hide (Below.refl w.heap.size w)
  go_enter Tryz.func9, Tryz.ntmps9
  go_wp2_with fail
  refine (P1.out _ (G.out.below B0.out)).mono ?_
  rintro e w1 ⟨rfl, hb⟩
  have B1 := hide (B0.out.trans (hb.mono B0.out.size))
  clear hb
  go_wp2_with fail
  refine (P2.out _ (G.out.below B1.out)).mono ?_
  rintro e w2 ⟨rfl, hb⟩
  have B2 := hide (B1.out.trans (hb.mono B1.out.size))
  clear hb
  go_wp2_with fail
  refine (P3.out _ (G.out.below B2.out)).mono ?_
  rintro e w3 ⟨rfl, hb⟩
  have B3 := hide (B2.out.trans (hb.mono B2.out.size))
  clear hb
  go_wp2_with fail
  refine (P4.out _ (G.out.below B3.out)).mono ?_
  rintro e w4 ⟨rfl, hb⟩
  have B4 := hide (B3.out.trans (hb.mono B3.out.size))
  clear hb
  go_wp2_with fail
  refine (P5.out _).mono ?_
  rintro e w5 ⟨rfl, hb⟩
  have B5 := hide (B4.out.trans (hb.mono B4.out.size))
  clear hb
  go_wp2_with fail
  refine (P6.out _).mono ?_
  rintro e w6 ⟨rfl, hb⟩
  have B6 := hide (B5.out.trans (hb.mono B5.out.size))
  clear hb
  go_wp2_with fail
  refine (P7.out _ (G.out.below B6.out)).mono ?_
  rintro e w7 ⟨rfl, hb⟩
  have B7 := hide (B6.out.trans (hb.mono B6.out.size))
  clear hb
  go_wp2_with fail
  refine (P8.out _ (G.out.below B7.out)).mono ?_
  rintro e w8 ⟨rfl, hb⟩
  have B8 := hide (B7.out.trans (hb.mono B7.out.size))
  clear hb
  go_wp2
  go_ret
  exact ⟨rfl, B8.out⟩
end Go.Proofs.YtpjikbfeegncbaaGreatDoor
