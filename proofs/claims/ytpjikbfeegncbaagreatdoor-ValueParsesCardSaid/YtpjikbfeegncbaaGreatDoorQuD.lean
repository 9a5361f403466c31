/- Contract of quote.first. -/
import Derived.Test.YtpjikbfeegncbaaGreatDoorQuC
set_option linter.unusedVariables false
namespace Go.Proofs.YtpjikbfeegncbaaGreatDoor
open Go.RowKit Go.Shelf Go.Sort

theorem at_list (s : ByteArray) (k : Nat) (h : k < s.size) : s.data.toList[k]? = some (s[k]'h) := Lib.data_getElem? s k h
theorem split1 (s : ByteArray) (h : 0 < s.size) : ∃ r, s.data.toList = (s[0]'h) :: r ∧ r.length + 1 = s.size ∧ ∀ j, ∀ hj : j + 1 < s.size, r[j]? = some (s[j + 1]'hj) := by
  have h0 := at_list s 0 h
  have hz := Lib.size_eq s
  cases hl : s.data.toList with
  | nil => rw [hl] at h0; cases h0
  | cons c r =>
    rw [hl] at h0 hz
    refine ⟨r, by rw [show s[0]'h = c by simpa using h0.symm], by simpa using hz.symm, fun j hj => ?_⟩
    have := at_list s (j + 1) hj
    rw [hl] at this
    simpa using this
theorem indexByte_digits : ∀ m : Nat, m < 256 → Lib.indexByte [48, 49, 50, 51, 52, 53, 54, 55, 56, 57, 97, 98, 99, 100, 101, 102] (UInt8.ofNat m) = hexI (UInt8.ofNat m) := by decide +kernel
theorem indexDigits_any (c : UInt8) (w : World) :
    Calls Tryz.prog 117 #[.string ⟨#[48, 49, 50, 51, 52, 53, 54, 55, 56, 57, 97, 98, 99, 100, 101, 102]⟩, .int .u8 c.toNat] w fun e w' => e = .returned (.int .i64 (hexI c)) ∧ w' = w := by
  have h := Tryz.strings_IndexByte ⟨#[48, 49, 50, 51, 52, 53, 54, 55, 56, 57, 97, 98, 99, 100, 101, 102]⟩ c.toNat w
  have e := indexByte_digits c.toNat c.toNat_lt
  rw [UInt8.ofNat_toNat] at e
  have e2 : (((c.toNat : Int)).toNat).toUInt8 = c := by simp
  rw [e2] at h
  have e3 : Lib.indexByte (⟨#[48, 49, 50, 51, 52, 53, 54, 55, 56, 57, 97, 98, 99, 100, 101, 102]⟩ : ByteArray).data.toList c = hexI c := e
  rw [e3] at h
  exact h
theorem hexI_bd (c : UInt8) : -1 ≤ hexI c ∧ hexI c ≤ 15 := by
  unfold hexI hexV
  have := c.toNat_lt
  split
  · rename_i v h
    split at h
    · cases h; omega
    · split at h
      · cases h; omega
      · cases h
  · omega

theorem list2 (s : ByteArray) (h : 1 < s.size) : ∃ r, s.data.toList = (s[0]'(by omega)) :: (s[1]'h) :: r ∧ r.length + 2 = s.size ∧ ∀ j, ∀ hj : j + 2 < s.size, r[j]? = some (s[j + 2]'hj) := by
  obtain ⟨r, h1, h2, h3⟩ := split1 s (by omega)
  have h4 := h3 0 h
  cases r with
  | nil => cases h4
  | cons d r =>
    have e : d = s[1]'h := by simpa using h4
    exact ⟨r, by rw [h1, e], by simpa using h2, fun j hj => by simpa using h3 (j + 1) hj⟩
theorem list4 (s : ByteArray) (h : 3 < s.size) : ∃ r, s.data.toList = (s[0]'(by omega)) :: (s[1]'(by omega)) :: (s[2]'(by omega)) :: (s[3]'h) :: r := by
  obtain ⟨r, h1, h2, h3⟩ := list2 s (by omega)
  have h4 := h3 0 (by omega)
  have h5 := h3 1 (by omega)
  cases r with
  | nil => cases h4
  | cons x r =>
    cases r with
    | nil => cases h5
    | cons y r =>
      have e1 : x = s[2]'(by omega) := by simpa using h4
      have e2 : y = s[3]'h := by simpa using h5
      exact ⟨r, by rw [h1, e1, e2]⟩
theorem u8_ne {c : UInt8} {n : Nat} (hn : n < 256) (h : ¬ c = UInt8.ofNat n) : ((c.toNat : Int) == (n : Int)) = false := by
  refine beq_eq_false_iff_ne.2 (fun e => h ?_)
  apply UInt8.toNat_inj.1
  rw [UInt8.toNat_ofNat']
  omega
theorem bne_of {a b : Int} (h : (a == b) = false) : (a != b) = true := by simp only [bne, h, Bool.not_false]

/-- what quote.first gives -/
def FirstPost (s : ByteArray) (w : World) (e : Ending) (w' : World) : Prop :=
  match step1 s.data.toList with
  | some (c, n) => e = .returned (.tuple #[.int .u8 c.toNat, .string (s.extract n s.size), .bool true]) ∧ Below w.heap.size w w'
  | none => ∃ (c : Int) (r : ByteArray), e = .returned (.tuple #[.int .u8 c, .string r, .bool false]) ∧ Below w.heap.size w w'
theorem FirstPost.some {s : ByteArray} {w : World} {e : Ending} {w' : World} {c : UInt8} {n : Nat} (h : step1 s.data.toList = some (c, n)) (he : e = .returned (.tuple #[.int .u8 c.toNat, .string (s.extract n s.size), .bool true])) (hb : Below w.heap.size w w') : FirstPost s w e w' := by
  unfold FirstPost; rw [h]; exact ⟨he, hb⟩
theorem FirstPost.none {s : ByteArray} {w : World} {e : Ending} {w' : World} {c : Int} {r : ByteArray} (h : step1 s.data.toList = none) (he : e = .returned (.tuple #[.int .u8 c, .string r, .bool false])) (hb : Below w.heap.size w w') : FirstPost s w e w' := by
  unfold FirstPost; rw [h]; exact ⟨c, r, he, hb⟩

set_option maxRecDepth 100000 in
set_option maxHeartbeats 4000000 in
theorem first_any (s : ByteArray) (w : World) (h : 0 < s.size) (hs : s.size ≤ 1099511627776) :
    Calls Tryz.prog 115 #[.string s] w (FirstPost s w) := by
  have hi : (0 : Int) < (s.size : Int) := by omega
  by_cases hc : s[0]'h = 92
  · by_cases hz1 : 1 < s.size
    · obtain ⟨r, hr, hrl, hra⟩ := list2 s hz1
      rw [hc] at hr
      have hi1 : (1 : Int) < (s.size : Int) := by omega
      by_cases hd : s[1]'hz1 = 92
      · have hp : Lib.hasPrefix s.data.toList [92, 92] = true := by rw [hr, hd]; rfl
        have Hst := hide (show step1 s.data.toList = some (92, 2) by rw [hr, hd]; rfl)
        have HF := hide (fun W : World => Tryz.strings_HasPrefix s ⟨#[92, 92]⟩ W)
        have Hp := hide hp
        have g2 : (2 : Int) ≤ (s.size : Int) := by omega
        clear hp hrl hra hr hd
        go_enter Tryz.func115, Tryz.ntmps115
        go_wp2_with fail
        refine (HF.out _).mono ?_
        rintro e w1 ⟨rfl, rfl⟩
        rw [Hp.out]
        go_wp2_with fail
        go_quiet (fail)
        go_wp2
        exact bodyPost_ret (v := .tuple #[.int .u8 92, .string (s.extract 2 s.size), .bool true]) (by simp [results, Tryz.results115, go_sem]) rfl (FirstPost.some Hst.out rfl (Below_drewN (Below.refl _ _) _))
      have hp : Lib.hasPrefix s.data.toList [92, 92] = false := by
        rw [hr]
        simp only [Lib.hasPrefix, List.isPrefixOf, beq_self_eq_true, Bool.true_and, Bool.and_true]
        exact beq_eq_false_iff_ne.2 (fun e => hd e.symm)
      by_cases hz4 : 3 < s.size
      · have z2 : 2 < s.size := Nat.lt_of_succ_lt hz4
        obtain ⟨r4, hr4⟩ := list4 s hz4
        rw [hc] at hr4
        have g4 : ¬ (s.size : Int) < 4 := by omega
        have i2 : (2 : Int) < (s.size : Int) := by omega
        have i3 : (3 : Int) < (s.size : Int) := by omega
        have g44 : (4 : Int) ≤ (s.size : Int) := by omega
        by_cases hx : s[1]'hz1 = 120
        · have ba := hexI_bd (s[2]'z2)
          have bb := hexI_bd (s[3]'hz4)
          have hst : step1 s.data.toList = match hexV (s[2]'z2), hexV (s[3]'hz4) with
              | some x, some y => some (UInt8.ofNat (16 * x + y), 4)
              | _, _ => none := by rw [hr4, hx]; rfl
          have HF := hide (fun W : World => Tryz.strings_HasPrefix s ⟨#[92, 92]⟩ W)
          have Hp := hide hp
          have hx' : ((s[1]'hz1).toNat : Int) = 120 := by rw [hx]; rfl
          have I2 := hide (fun W => indexDigits_any (s[2]'z2) W)
          have I3 := hide (fun W => indexDigits_any (s[3]'hz4) W)
          have hcase : (∃ x y : Nat, x < 16 ∧ y < 16 ∧ hexI (s[2]'z2) = (x : Int) ∧ hexI (s[3]'hz4) = (y : Int) ∧ step1 s.data.toList = some (UInt8.ofNat (16 * x + y), 4)) ∨
              ((hexI (s[2]'z2) = -1 ∨ hexI (s[3]'hz4) = -1) ∧ step1 s.data.toList = none) := by
            unfold hexI at ba bb ⊢
            rw [hst]
            cases h2 : hexV (s[2]'z2) with
            | none => exact .inr ⟨.inl rfl, rfl⟩
            | some x =>
              cases h3 : hexV (s[3]'hz4) with
              | none => exact .inr ⟨.inr rfl, rfl⟩
              | some y =>
                rw [h2] at ba
                rw [h3] at bb
                simp only at ba bb
                exact .inl ⟨x, y, by omega, by omega, rfl, rfl, rfl⟩
          have Hcase := hide hcase
          have BA := hide ba
          have BB := hide bb
          clear hst hcase ba bb hp hrl hra hr hr4 hd hx
          go_enter Tryz.func115, Tryz.ntmps115
          go_wp2_with fail
          refine (HF.out _).mono ?_
          rintro e w1 ⟨rfl, rfl⟩
          rw [Hp.out]
          go_wp2_with fail
          go_quiet ((first | exact Calls.quiet_of_same (I2.out _) | exact Calls.quiet_of_same (I3.out _)))
          rcases Hcase.out with ⟨x, y, x16, y16, ex, ey, est⟩ | ⟨hno, est⟩
          · rw [ex, ey]
            have Est := hide est
            have q1 : (0 : Int) ≤ (x : Int) := by omega
            have q2 : (0 : Int) ≤ (y : Int) := by omega
            have q3 : decide ((0 : Int) ≤ (x : Int)) = true := decide_eq_true q1
            clear est ex ey
            go_wp2_with fail
            go_quiet (fail)
            go_wp2
            refine bodyPost_ret (v := .tuple #[.int .u8 (16 * (x : Int) + (y : Int)), .string (s.extract 4 s.size), .bool true]) (by simp [results, Tryz.results115, go_sem]) rfl (FirstPost.some Est.out ?_ (Below_drewN (Below_drewN (Below.refl _ _) _) _))
            have hn : (UInt8.ofNat (16 * x + y)).toNat = 16 * x + y := by rw [UInt8.toNat_ofNat']; omega
            rw [hn]
            congr 4
          · have Est := hide est
            clear est
            by_cases hno1 : hexI (s[2]'z2) = -1
            · rw [hno1]
              clear hno hno1
              have bb := BB.out
              generalize hexI (s[3]'hz4) = y at bb ⊢
              obtain ⟨b1, b2⟩ := bb
              go_wp2_with fail
              go_quiet (fail)
              go_wp2
              exact bodyPost_ret (v := .tuple #[.int .u8 ((-16 + y) % 256), .string (s.extract 4 s.size), .bool false]) (by simp [results, Tryz.results115, go_sem]) rfl (FirstPost.none Est.out rfl (Below_drewN (Below_drewN (Below.refl _ _) _) _))
            · have hno2 := hno.resolve_left hno1
              rw [hno2]
              have bb := BA.out
              clear hno hno2
              generalize hexI (s[2]'z2) = x at bb hno1 ⊢
              obtain ⟨b1, b2⟩ := bb
              have b3 : (0 : Int) ≤ x := by omega
              have b4 : decide ((0 : Int) ≤ x) = true := decide_eq_true b3
              clear hno1
              go_wp2_with fail
              go_quiet (fail)
              go_wp2
              exact bodyPost_ret (v := .tuple #[.int .u8 ((16 * x + -1) % 256), .string (s.extract 4 s.size), .bool false]) (by simp [results, Tryz.results115, go_sem]) rfl (FirstPost.none Est.out rfl (Below_drewN (Below_drewN (Below.refl _ _) _) _))
        · have hx1 : (((s[1]'hz1).toNat : Int) == 120) = false := u8_ne (n := 120) (by omega) hx
          have hx2 := bne_of hx1
          have Hst := hide (show step1 s.data.toList = none by rw [hr4]; unfold step1; simp only; rw [if_pos trivial, if_neg hd, if_neg hx])
          have HF := hide (fun W : World => Tryz.strings_HasPrefix s ⟨#[92, 92]⟩ W)
          have Hp := hide hp
          clear hp hrl hra hr hr4 hd hx
          go_enter Tryz.func115, Tryz.ntmps115
          go_wp2_with fail
          refine (HF.out _).mono ?_
          rintro e w1 ⟨rfl, rfl⟩
          rw [Hp.out]
          go_wp2
          exact bodyPost_ret (v := .tuple #[.int .u8 0, .string ⟨#[]⟩, .bool false]) (by simp [results, Tryz.results115, go_sem]) rfl (FirstPost.none Hst.out rfl (Below.refl _ _))
      · have g4 : (s.size : Int) < 4 := by omega
        have Hst := hide (show step1 s.data.toList = none by
          rw [hr]; unfold step1; simp only; rw [if_pos trivial, if_neg hd]
          split
          · match r, hrl with
            | [], _ => rfl
            | [_], _ => rfl
            | x :: y :: r, hrl => simp at hrl; omega
          · rfl)
        have HF := hide (fun W : World => Tryz.strings_HasPrefix s ⟨#[92, 92]⟩ W)
        have Hp := hide hp
        clear hp hrl hra hr hd
        go_enter Tryz.func115, Tryz.ntmps115
        go_wp2_with fail
        refine (HF.out _).mono ?_
        rintro e w1 ⟨rfl, rfl⟩
        rw [Hp.out]
        go_wp2
        exact bodyPost_ret (v := .tuple #[.int .u8 0, .string ⟨#[]⟩, .bool false]) (by simp [results, Tryz.results115, go_sem]) rfl (FirstPost.none Hst.out rfl (Below.refl _ _))
    · obtain ⟨r, hr, hrl, hra⟩ := split1 s h
      rw [hc] at hr
      obtain rfl : r = [] := List.eq_nil_of_length_eq_zero (by omega)
      have g4 : (s.size : Int) < 4 := by omega
      have Hst := hide (show step1 s.data.toList = none by rw [hr]; rfl)
      have HF := hide (fun W : World => Tryz.strings_HasPrefix s ⟨#[92, 92]⟩ W)
      have Hp := hide (show Lib.hasPrefix s.data.toList [92, 92] = false by rw [hr]; rfl)
      clear hrl hra hr
      go_enter Tryz.func115, Tryz.ntmps115
      go_wp2_with fail
      refine (HF.out _).mono ?_
      rintro e w1 ⟨rfl, rfl⟩
      rw [Hp.out]
      go_wp2
      exact bodyPost_ret (v := .tuple #[.int .u8 0, .string ⟨#[]⟩, .bool false]) (by simp [results, Tryz.results115, go_sem]) rfl (FirstPost.none Hst.out rfl (Below.refl _ _))
  · obtain ⟨r, hr, hrl, hra⟩ := split1 s h
    have hc1 : (((s[0]'h).toNat : Int) == 92) = false := u8_ne (n := 92) (by omega) hc
    have hc2 := bne_of hc1
    have hx1 := extract_one s 0 h
    have g1 : (1 : Int) ≤ (s.size : Int) := by omega
    obtain ⟨c, hcc⟩ : ∃ c, s[0]'h = c := ⟨_, rfl⟩
    rw [hcc] at hr hc hx1 hc1 hc2
    have hst : step1 s.data.toList = if prB c then some (c, 1) else none := by rw [hr]; unfold step1; simp only; rw [if_neg hc]
    have HP := hide (fun W : World => printable_any ⟨#[c]⟩ W)
    rw [show allPr (⟨#[c]⟩ : ByteArray).data.toList = prB c by simp [allPr]] at HP
    obtain ⟨b, hb⟩ : ∃ b, prB c = b := ⟨_, rfl⟩
    rw [hb] at HP hst
    have cP : ∀ d os, Calls Tryz.prog 134 #[.string ⟨#[c]⟩] (grow (redrawn w d) os) fun e w'' => e = .returned (.bool b) ∧ ∃ p : Regrown, w'' = grow (redrawn w p.d) p.os := fun d os => Calls.regrown_of (HP.out _)
    have CP := hide cP
    have Hst := hide hst
    clear hst hb cP hra hrl hr hc HP
    go_enter Tryz.func115, Tryz.ntmps115
    go_wp2_with fail
    refine wp_region_quiet_below (by kernel_rfl) (by kernel_rfl) ?_
    repeat (go_big_quiet_step (exact CP.out _ _))
    refine wpQuiet_nil ?_
    intro _ hw'
    obtain ⟨⟨dq, osq⟩, hw''⟩ := hw'
    subst hw''
    go_wp2
    refine bodyPost_ret (v := .tuple #[.int .u8 c.toNat, .string (s.extract 1 s.size), .bool b]) (by simp [results, Tryz.results115, go_sem]) rfl ?_
    cases b with
    | true => exact FirstPost.some Hst.out rfl (below_regrown w dq osq)
    | false => exact FirstPost.none Hst.out rfl (below_regrown w dq osq)
end Go.Proofs.YtpjikbfeegncbaaGreatDoor
