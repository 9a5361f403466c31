/- Contract of the reference's Unquote. -/
import Derived.Test.YtpjikbfeegncbaaGreatDoorQuE
import Derived.IntWalk
set_option linter.unusedVariables false
namespace Go.Proofs.YtpjikbfeegncbaaGreatDoor
open Go.RowKit Go.Shelf

theorem drop_at (s : ByteArray) (i : Nat) (h : i < s.size) : s.data.toList.drop i = (s[i]'h) :: s.data.toList.drop (i + 1) := by
  have h2 : i < s.data.toList.length := by rw [← Lib.size_eq]; exact h
  have h3 := Lib.data_getElem? s i h
  rw [List.getElem?_eq_getElem h2] at h3
  rw [List.drop_eq_getElem_cons h2, Option.some.inj h3]
theorem drop_end (s : ByteArray) (i : Nat) (h : ¬ i < s.size) : s.data.toList.drop i = [] := List.drop_eq_nil_of_le (by rw [← Lib.size_eq]; omega)
theorem hexI_yes {c : UInt8} (h : 0 ≤ hexI c) : ∃ x, hexV c = some x ∧ hexI c = (x : Int) ∧ x < 16 := by
  have hb := hexI_bd c
  unfold hexI at h hb ⊢
  cases hx : hexV c with
  | none => rw [hx] at h; exact absurd h (by decide)
  | some x => rw [hx] at hb; exact ⟨x, rfl, rfl, by simp only at hb; omega⟩
theorem hexI_not {c : UInt8} (h : ¬ 0 ≤ hexI c) : hexV c = none := by
  unfold hexI at h
  cases hx : hexV c with
  | none => rfl
  | some x => rw [hx] at h; simp only at h; omega

theorem u8_in (a : Int) (h : 0 ≤ a ∧ a ≤ 255) : IntKind.u8.wrap a = a := by
  simp only [IntKind.wrap, IntKind.signed, IntKind.bits]
  simp
  omega
theorem refPrintable_92 (w : World) :
    Calls Tryz.prog 64 #[.int .u8 92] w fun e w' => e = .returned (.bool true) ∧ w' = w := refPrintable_u8 92 w

set_option maxHeartbeats 8000000 in
set_option maxRecDepth 100000 in
theorem refUnquote_any (s : ByteArray) (w : World) (hs : s.size ≤ 1099511627776) :
    Calls Tryz.prog 36 #[.string s] w fun e w' => e = .returned (.tuple #[.string (unqRes s.data.toList).1, .int .i64 (unqRes s.data.toList).2]) ∧ Below w.heap.size w w' := by
  go_enter Tryz.func36, Tryz.ntmps36
  go_wp2
  go_loopw [4, 5] (fun o v wr => ∃ (i : Nat) (O : List UInt8), v = .int .i64 i ∧ Read s i O ∧ wr.ownsRow w.heap.size 5 1 o O.length (byC O) ∧ Below w.heap.size w wr) (fun _ v _ => s.size - (intOf v).toNat)
  case atStart => exact ⟨0, [], rfl, Read.zero s, ownsRow_mono (World.ownsRow_made (size := 1) w #[] 0 (Nat.le_refl _) (Nat.zero_le _) rfl) (Nat.le_refl _), (Below.refl _ _).alloc (Nat.le_refl _) _⟩
  case round =>
    obtain ⟨i, O, rfl, hrd, hown, hbr⟩ := hrel
    have Hrd := hide hrd
    have Hown := hide hown
    have Hbr := hide hbr
    have hle := hrd.1
    have hol := hrd.2.1
    have Hz := hide hbr.size
    clear hrd hown hbr
    by_cases hi : i < s.size
    · have d0 := drop_at s i hi
      cases hp : prB (s[i]'hi) with
      | false =>
        have Hst := hide (Hrd.out.stop hi (by
          rw [d0]; unfold step1; simp only
          rw [if_neg (by intro e; rw [e] at hp; cases hp), hp]; rfl))
        have Hp := hide hp
        clear hp d0
        go_wp2_with fail
        refine (refPrintable_u8 _ _).mono ?_
        rintro e w1 ⟨rfl, rfl⟩
        rw [Hp.out]
        go_wp2
        go_ret2
        exact ⟨ret_pair (by rw [Hst.out]) (by rw [Hst.out]), Hbr.out⟩
      | true =>
        have Hp := hide hp
        by_cases hc : s[i]'hi = 92
        · have hc1 : ((s[i]'hi).toNat : Int) = 92 := by rw [hc]; rfl
          rw [hc] at d0
          by_cases z1 : i + 1 < s.size
          · have d1 := drop_at s (i + 1) z1
            rw [d1] at d0
            have k1 : (i : Int) + 1 < (s.size : Int) := by omega
            have k0 : (0 : Int) ≤ (i : Int) + 1 := by omega
            by_cases hd : s[i + 1]'z1 = 92
            · have Hrd2 := hide (Hrd.out.step (c := 92) (n := 2) (by rw [d0, hd]; rfl))
              have hd1 : ((s[i + 1]'z1).toNat : Int) = 92 := by rw [hd]; rfl
              clear hp hc d0 d1 hd
              go_wp2_with fail
              refine (refPrintable_92 _).mono ?_
              rintro e w1 ⟨rfl, rfl⟩
              go_wp2_with (at_builtin; have hown9 := Hown.out.alloc (.cells #[.int .u8 92] 5); refine wpList_append_at _ rfl _ _ 60 rfl w.heap.size 5 infoU8 Tryz.underlying60 rfl (by decide) u4 O.length (byC O) rfl hown9 ⟨w1.heap.size, 0, none⟩ 1 1 [.int .u8 92] rfl rfl (cells_new _ _ rfl) (by intro u hu; simp only [List.mem_cons, List.not_mem_nil, or_false] at hu; rcases hu with rfl; rfl) (by unfold maxLen; omega) (by omega) (by rw [World.size_alloc]; exact Nat.le_succ_of_le Hz.out) ?_; intro v' w4 hown4 hgrow4 _ _)
              have HO4 := hide hown4
              have HG4 := hide hgrow4
              have HO9 := hide hown9
              clear hown4 hgrow4 hown9
              go_roundw
              case rel => exact ⟨i + 2, O ++ [92], by go_num, Hrd2.out, by rw [List.length_append, byC_append]; exact HO4.out, (Hbr.out.alloc Hz.out _).grown HG4.out (by rw [World.size_alloc]; exact Nat.le_succ_of_le Hz.out) (fun j hj => (HO9.out.lt j hj).1)⟩
              case measure => simp [intOf]; omega
            have hd1 : (((s[i + 1]'z1).toNat : Int) == 92) = false := u8_ne (n := 92) (by omega) hd
            by_cases z3 : i + 3 < s.size
            · have k3 : (i : Int) + 3 < (s.size : Int) := by omega
              have z2 : i + 2 < s.size := Nat.lt_of_succ_lt z3
              have k2 : (i : Int) + 2 < (s.size : Int) := by omega
              have k02 : (0 : Int) ≤ (i : Int) + 2 := by omega
              have k03 : (0 : Int) ≤ (i : Int) + 3 := by omega
              have d2 := drop_at s (i + 2) z2
              have d3 := drop_at s (i + 3) z3
              have d4 : s.data.toList.drop i = 92 :: (s[i + 1]'z1) :: (s[i + 2]'z2) :: (s[i + 3]'z3) :: s.data.toList.drop (i + 4) := by rw [d0, d2, d3]
              by_cases hx : s[i + 1]'z1 = 120
              · have hx1 : ((s[i + 1]'z1).toNat : Int) = 120 := by rw [hx]; rfl
                have I2 := hide (fun W => refValue_any (s[i + 2]'z2) W)
                have I3 := hide (fun W => refValue_any (s[i + 3]'z3) W)
                by_cases h2 : 0 ≤ hexI (s[i + 2]'z2)
                · obtain ⟨x, ex, ex2, x16⟩ := hexI_yes h2
                  rw [ex2] at I2
                  by_cases h3 : 0 ≤ hexI (s[i + 3]'z3)
                  · obtain ⟨y, ey, ey2, y16⟩ := hexI_yes h3
                    rw [ey2] at I3
                    have hn : ((UInt8.ofNat (16 * x + y)).toNat : Int) = 16 * (x : Int) + (y : Int) := by rw [UInt8.toNat_ofNat']; omega
                    have Hrd2 := hide (Hrd.out.step (c := UInt8.ofNat (16 * x + y)) (n := 4) (by rw [d4, hx]; unfold step1; simp only; rw [if_pos trivial, if_neg (by decide), if_pos trivial, ex, ey]))
                    have HN := hide hn
                    have q1 : (0 : Int) ≤ (x : Int) := by omega
                    have q2 : (0 : Int) ≤ (y : Int) := by omega
                    clear hn hp hc d0 d1 d2 d3 d4 hd hx h2 h3 ex ey ex2 ey2
                    go_wp2_with fail
                    refine (refPrintable_92 _).mono ?_
                    rintro e w1 ⟨rfl, rfl⟩
                    go_wp2_with fail
                    refine (I2.out _).mono ?_
                    rintro e w2 ⟨rfl, rfl⟩
                    go_wp2_with fail
                    refine (I3.out _).mono ?_
                    rintro e w3 ⟨rfl, rfl⟩
                    go_wp2_with fail
                    obtain ⟨iu, hi1, hi2, hi3, hi4⟩ := info_parts infoU8
                    have HI1 := hide hi1
                    have HI2 := hide hi2
                    have HI3 := hide hi3
                    have HI4 := hide hi4
                    clear hi1 hi2 hi3 hi4
                    have t1 : O.length + 1 ≤ maxLen := by unfold maxLen; omega
                    have t2 : (O.length + 1) * 1 ≤ 140737488355328 := by omega
                    have t3 : w.heap.size ≤ w3.heap.size + 1 := Nat.le_succ_of_le Hz.out
                    have t4 : ∀ u ∈ [Value.int .u8 (16 * (x : Int) + (y : Int))], u.oneCell' = true := by intro u hu; simp only [List.mem_cons, List.not_mem_nil, or_false] at hu; rcases hu with rfl; rfl
                    have t6 : (w3.alloc (.cells #[.int .u8 (16 * (x : Int) + (y : Int))] 5)).drew.heap.size = w3.heap.size + 1 := World.size_alloc _ _
                    have t5 : w.heap.size ≤ (w3.alloc (.cells #[.int .u8 (16 * (x : Int) + (y : Int))] 5)).drew.heap.size := by rw [t6]; exact t3
                    have s2 : IntKind.i64.wrap ((i : Int) + 2) = (i : Int) + 2 := IntWalk.i64_in _ (by omega)
                    have s3 : IntKind.i64.wrap ((i : Int) + 3) = (i : Int) + 3 := IntWalk.i64_in _ (by omega)
                    have s4 : IntKind.i64.wrap (16 * (x : Int)) = 16 * (x : Int) := IntWalk.i64_in _ (by omega)
                    have s5 : IntKind.i64.wrap (16 * (x : Int) + (y : Int)) = 16 * (x : Int) + (y : Int) := IntWalk.i64_in _ (by omega)
                    have s6 : IntKind.u8.wrap (16 * (x : Int) + (y : Int)) = 16 * (x : Int) + (y : Int) := u8_in _ (by omega)
                    have s7 : ((i : Int) + 2).toNat = i + 2 := by omega
                    have s8 : ((i : Int) + 3).toNat = i + 3 := by omega
                    go_region_held3 (fun _ => True) (exact trivial) (first | (go_at_call 65; ((with_reducible refine (I2.out _).mono ?_); rintro e w' ⟨rfl, rfl⟩)) | (go_at_call 65; ((with_reducible refine (I3.out _).mono ?_); rintro e w' ⟨rfl, rfl⟩)) | (refine step_append_lies _ rfl _ _ 60 rfl w.heap.size 5 iu _ 1 1 Tryz.underlying60 HI1.out HI2.out HI3.out HI4.out rfl Nat.one_pos u4 O.length (byC O) rfl ((Hown.out.alloc _).drew) ⟨w3.heap.size, 0, none⟩ 1 1 [.int .u8 (16 * (x : Int) + (y : Int))] rfl rfl (World.news_of_block (cs := #[.int .u8 (16 * (x : Int) + (y : Int))]) (t := 5) (fr := (0, 0)) (heap_alloc_new w3 _)) t4 Nat.one_pos t1 t2 t5 (w3.heap.size + 1) t6 ?_; intro g4 cap4 w4 hown4 hgrow4 hat4 hlt4))
                    all_goals
                      go_wp2
                      have HO4 := hide hown4
                      have HG4 := hide hgrow4
                      clear hown4 hgrow4
                      go_roundw
                      case rel => exact ⟨i + 4, O ++ [UInt8.ofNat (16 * x + y)], by go_num, Hrd2.out, by rw [List.length_append, byC_append, show byC [UInt8.ofNat (16 * x + y)] = [.int .u8 (16 * (x : Int) + (y : Int))] by show [Value.int .u8 _] = _; rw [HN.out]]; exact HO4.out, ((Hbr.out.alloc Hz.out _).drew).grown HG4.out (by simp; have := Hz.out; omega) (fun j hj => (Hown.out.lt j hj).1)⟩
                      case measure => simp [intOf]; omega
                  · have e3 := hexI_not h3
                    have Hst := hide (Hrd.out.stop hi (by rw [d4, hx]; unfold step1; simp only; rw [if_pos trivial, if_neg (by decide), if_pos trivial, ex, e3]))
                    have q1 : (0 : Int) ≤ (x : Int) := by omega
                    clear hp hc d0 d1 d2 d3 d4 hd hx h2 ex ex2 e3
                    go_wp2_with fail
                    refine (refPrintable_92 _).mono ?_
                    rintro e w1 ⟨rfl, rfl⟩
                    go_wp2_with fail
                    refine (I2.out _).mono ?_
                    rintro e w2 ⟨rfl, rfl⟩
                    go_wp2_with fail
                    refine (I3.out _).mono ?_
                    rintro e w3 ⟨rfl, rfl⟩
                    generalize hexI (s[i + 3]'z3) = y at h3 ⊢
                    go_wp2
                    go_ret2
                    exact ⟨ret_pair (by rw [Hst.out]) (by rw [Hst.out]), Hbr.out⟩
                · have e2 := hexI_not h2
                  have Hst := hide (Hrd.out.stop hi (by rw [d4, hx]; unfold step1; simp only; rw [if_pos trivial, if_neg (by decide), if_pos trivial, e2]))
                  clear hp hc d0 d1 d2 d3 d4 hd hx e2
                  go_wp2_with fail
                  refine (refPrintable_92 _).mono ?_
                  rintro e w1 ⟨rfl, rfl⟩
                  go_wp2_with fail
                  refine (I2.out _).mono ?_
                  rintro e w2 ⟨rfl, rfl⟩
                  generalize hexI (s[i + 2]'z2) = y at h2 ⊢
                  go_wp2
                  go_ret2
                  exact ⟨ret_pair (by rw [Hst.out]) (by rw [Hst.out]), Hbr.out⟩
              · have hx1 : (((s[i + 1]'z1).toNat : Int) == 120) = false := u8_ne (n := 120) (by omega) hx
                have hx2 : ¬ ((s[i + 1]'z1).toNat : Int) = 120 := fun e => by rw [e] at hx1; cases hx1
                have Hst := hide (Hrd.out.stop hi (by rw [d4]; unfold step1; simp only; rw [if_pos trivial, if_neg hd, if_neg hx]))
                clear hp hc d0 d1 d2 d3 d4 hd hx
                go_wp2_with fail
                refine (refPrintable_92 _).mono ?_
                rintro e w1 ⟨rfl, rfl⟩
                go_wp2
                go_ret2
                exact ⟨ret_pair (by rw [Hst.out]) (by rw [Hst.out]), Hbr.out⟩
            · have k3 : ¬ (i : Int) + 3 < (s.size : Int) := by omega
              have Hst := hide (Hrd.out.stop hi (by
                rw [d0]; unfold step1; simp only; rw [if_pos trivial, if_neg hd]
                split
                · by_cases z2 : i + 2 < s.size
                  · rw [drop_at s (i + 1 + 1) z2, drop_end s (i + 1 + 1 + 1) z3]
                  · rw [drop_end s (i + 1 + 1) z2]
                · rfl))
              clear hp hc d0 d1 hd
              go_wp2_with fail
              refine (refPrintable_92 _).mono ?_
              rintro e w1 ⟨rfl, rfl⟩
              go_wp2
              go_ret2
              exact ⟨ret_pair (by rw [Hst.out]) (by rw [Hst.out]), Hbr.out⟩
          · have k1 : ¬ (i : Int) + 1 < (s.size : Int) := by omega
            have k3 : ¬ (i : Int) + 3 < (s.size : Int) := by omega
            have Hst := hide (Hrd.out.stop hi (by rw [d0, drop_end s (i + 1) z1]; rfl))
            clear hp hc d0
            go_wp2_with fail
            refine (refPrintable_92 _).mono ?_
            rintro e w1 ⟨rfl, rfl⟩
            go_wp2
            go_ret2
            exact ⟨ret_pair (by rw [Hst.out]) (by rw [Hst.out]), Hbr.out⟩
        · have hc1 : (((s[i]'hi).toNat : Int) == 92) = false := u8_ne (n := 92) (by omega) hc
          have hc2 := bne_of hc1
          have Hrd2 := hide (Hrd.out.step (c := s[i]'hi) (n := 1) (by rw [d0]; unfold step1; simp only; rw [if_neg hc, hp]; rfl))
          obtain ⟨c, hcc⟩ : ∃ c, s[i]'hi = c := ⟨_, rfl⟩
          rw [hcc] at hc1 hc2 Hrd2 Hp
          clear hp hc d0
          go_wp2_with fail
          refine (refPrintable_u8 _ _).mono ?_
          rintro e w1 ⟨rfl, rfl⟩
          rw [Hp.out]
          go_wp2_with (at_builtin; have hown9 := Hown.out.alloc (.cells #[.int .u8 c.toNat] 5); refine wpList_append_at _ rfl _ _ 60 rfl w.heap.size 5 infoU8 Tryz.underlying60 rfl (by decide) u4 O.length (byC O) rfl hown9 ⟨w1.heap.size, 0, none⟩ 1 1 [.int .u8 c.toNat] rfl rfl (cells_new _ _ rfl) (by intro u hu; simp only [List.mem_cons, List.not_mem_nil, or_false] at hu; rcases hu with rfl; rfl) (by unfold maxLen; omega) (by omega) (by rw [World.size_alloc]; exact Nat.le_succ_of_le Hz.out) ?_; intro v' w4 hown4 hgrow4 _ _)
          have HO4 := hide hown4
          have HG4 := hide hgrow4
          have HO9 := hide hown9
          clear hown4 hgrow4 hown9
          go_roundw
          case rel => exact ⟨i + 1, O ++ [c], by go_num, Hrd2.out, by rw [List.length_append, byC_append]; exact HO4.out, (Hbr.out.alloc Hz.out _).grown HG4.out (by rw [World.size_alloc]; exact Nat.le_succ_of_le Hz.out) (fun j hj => (HO9.out.lt j hj).1)⟩
          case measure => simp [intOf]; omega
    · obtain rfl : i = s.size := Nat.le_antisymm hle (Nat.le_of_not_lt hi)
      have Hres := hide Hrd.out.done
      have hol2 : (O.length : Int) ≤ 1099511627776 := by omega
      obtain ⟨A, cap, rfl, _⟩ : ∃ A cap, u4 = .slice A O.length cap ∧ True := by
        obtain ⟨_, h2⟩ := Hown.out
        rcases h2 with ⟨rfl, h0⟩ | ⟨g, cap, cs, rfl, _⟩
        · exact ⟨none, 0, by rw [h0], trivial⟩
        · exact ⟨_, cap, rfl, trivial⟩
      have hcv := run_string_own (src := 60) (dst := 9) Tryz.underlying60 Tryz.underlying5 Tryz.underlying9 Hown.out
      clear hi
      by_cases hbig : (64 : Int) < (O.length : Int)
      · go_wp2
        go_ret2
        exact ⟨ret_pair (by rw [Hres.out, if_pos (by omega)]) (by rw [Hres.out, if_pos (by omega)]), Hbr.out⟩
      · go_wp2
        go_ret2
        exact ⟨ret_pair (by rw [Hres.out, if_neg (by omega)]) (by rw [Hres.out, if_neg (by omega)]), Hbr.out⟩
end Go.Proofs.YtpjikbfeegncbaaGreatDoor
