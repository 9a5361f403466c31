/- Contract of the reference's Range. -/
import Derived.Test.YtiibjeiadcmenaaDoorNmD
set_option linter.unusedVariables false
set_option linter.unusedSimpArgs false
namespace Go.Proofs.YtiibjeiadcmenaaDoor
open Go.RowKit Go.Shelf Go.Sort

def both (a b : Option Int) : Int × Int × Int := match (a, b) with
  | (some m, some n) => if bdB m && bdB n then (m, n, 0) else (0, 0, 2)
  | _ => (0, 0, 3)
theorem idx58 (l : List UInt8) (k : Nat) (hk : k < l.length) (he : ((l[k]'hk).toNat : Int) = 58) (hno : ∀ j (hj : j < k), ((l[j]'(by omega)).toNat : Int) ≠ 58) :
    l.contains 58 = true ∧ l.takeWhile (· != 58) = l.take k ∧ (l.dropWhile (· != 58)).drop 1 = l.drop (k + 1) := by
  have h58 : l[k]'hk = 58 := (u8_eq _ 58 (by decide)).2 he
  have e : l = l.take k ++ 58 :: l.drop (k + 1) := by
    rw [← h58, ← List.drop_eq_getElem_cons hk, List.take_append_drop]
  have hp : ∀ c ∈ l.take k, c ≠ 58 := fun c hc h => by
    obtain ⟨j, hj, rfl⟩ := List.mem_iff_getElem.1 hc
    rw [List.length_take] at hj
    rw [List.getElem_take] at h
    exact hno j (by omega) ((u8_eq _ 58 (by decide)).1 h)
  obtain ⟨q1, q2, q3⟩ := split58 _ (l.drop (k + 1)) hp
  rw [← e] at q1 q2 q3
  exact ⟨q1, q2, q3⟩
/-- the parts of a bit range between the brackets -/
theorem range_parts (s : ByteArray) (m : ByteArray) (hm : m.data.toList ≠ []) (h : s.data.toList = 91 :: (m.data.toList ++ [93])) :
    ∃ x y : ByteArray, rangeW s.data.toList = both (numW x.data.toList) (numW y.data.toList) ∧ x.size ≤ m.size ∧ y.size ≤ m.size ∧
      ((idxI 58 m.data.toList = -1 ∧ x = m ∧ y = m) ∨ ∃ k : Nat, idxI 58 m.data.toList = k ∧ k < m.size ∧ m.extract 0 k = x ∧ m.extract (k + 1) m.size = y) := by
  have hR := rangeW_mid m.data.toList hm
  rw [h, hR]
  rcases idxI_cases 58 m.data.toList with ⟨hi, hno⟩ | ⟨k, hi, hk, he, hno⟩
  · refine ⟨m, m, ?_, Nat.le_refl _, Nat.le_refl _, .inl ⟨hi, rfl, rfl⟩⟩
    rw [if_neg]
    · rfl
    · intro hc
      have : (58 : UInt8) ∈ m.data.toList := by simpa using hc
      exact hno 58 this rfl
  · obtain ⟨q1, q2, q3⟩ := idx58 _ k hk he hno
    have hkz : k < m.size := by rw [← size_list]; exact hk
    refine ⟨m.extract 0 k, m.extract (k + 1) m.size, ?_, by rw [ByteArray.size_extract]; omega, by rw [ByteArray.size_extract]; omega, .inr ⟨k, hi, hkz, rfl, rfl⟩⟩
    rw [if_pos q1, q2, q3, Lib.extract_from_zero, Lib.extract_to_end]
    rfl

set_option maxRecDepth 20000 in
set_option maxHeartbeats 8000000 in
theorem refRange_any (s : ByteArray) (w : World) (hz : s.size ≤ 1000000) :
    Calls Tryd.prog 17 #[.string s] w (Ret3 (rangeW s.data.toList) w.heap.size w) := by
  have hl := size_list s
  by_cases h3 : s.size < 3
  · have hR : rangeW s.data.toList = (0, 0, 3) := by unfold rangeW; rw [if_pos (.inl (by omega))]
    rw [hR]
    have h3' : (s.size : Int) < 3 := by omega
    clear hR hl
    go_enter Tryd.func17, Tryd.ntmps17
    go_wp2
    go_ret3
    exact ⟨rfl, Below.refl _ _⟩
  have h3' : ¬ (s.size : Int) < 3 := by omega
  have h0 : 0 < s.size := by omega
  have hh := hd_at s h0
  by_cases h91 : ((s[0]'h0).toNat : Int) = 91
  · obtain ⟨n, hn⟩ : ∃ n, s.size = n + 1 := ⟨s.size - 1, by omega⟩
    have hnz : n < s.size := by omega
    have hni : ((s.size : Int) - 1) = (n : Int) := by omega
    have hlast : s.data.toList.getLast? = some (s[n]'hnz) := by
      rw [List.getLast?_eq_getElem?, hl, hn]; exact Lib.data_getElem? s n hnz
    by_cases h93 : ((s[n]'hnz).toNat : Int) = 93
    · -- the parts
      have hsub : (s.extract 1 n).data.toList = (s.data.toList.drop 1).dropLast := by
        have e1 := Lib.extract_data s 1 n
        rw [e1]
        rw [List.dropLast_eq_take, List.length_drop, hl, hn]
        congr 1
      have hmid : s.data.toList = 91 :: ((s.extract 1 n).data.toList ++ [93]) := by
        rw [hsub]
        cases hs : s.data.toList with
        | nil => rw [hs] at hl; simp at hl; omega
        | cons a t =>
          rw [hs] at hh hlast hl
          have ha : a = 91 := by
            have := Option.some.inj hh
            rw [this]; exact (u8_eq _ 91 (by decide)).2 h91
          have ht : t ≠ [] := fun e => by rw [e] at hl; simp at hl; omega
          rw [List.getLast?_cons_of_ne_nil ht, List.getLast?_eq_some_getLast ht] at hlast
          have h9 : t.getLast ht = 93 := by
            rw [Option.some.inj hlast]; exact (u8_eq _ 93 (by decide)).2 h93
          rw [ha]
          show 91 :: t = 91 :: (t.dropLast ++ [93])
          rw [← h9, List.dropLast_concat_getLast]
      have hne : (s.extract 1 n).data.toList ≠ [] := fun e => by
        rw [e] at hmid
        rw [hmid] at hl; simp at hl; omega
      obtain ⟨x, y, hR, hx, hy, hxy⟩ := range_parts s (s.extract 1 n) hne hmid
      have hmz : (s.extract 1 n).size ≤ 1000000 := by rw [ByteArray.size_extract]; omega
      rw [hR]
      have g1 : (1 : Int) ≤ (n : Int) := by omega
      have g2 : (n : Int) ≤ (s.size : Int) := by omega
      have NX := hide (fun W : World => refNumber_any x W (by omega))
      have NY := hide (fun W : World => refNumber_any y W (by omega))
      have IX := hide (fun W : World => index_any (s.extract 1 n) 58 W (by omega))
      have HXY := hide hxy
      generalize numW x.data.toList = O1 at NX ⊢
      generalize numW y.data.toList = O2 at NY ⊢
      obtain ⟨m, hm⟩ : ∃ m, s.extract 1 n = m := ⟨_, rfl⟩
      rw [hm] at IX HXY hmz
      generalize idxI 58 m.data.toList = I at IX HXY
      have Hm := hide hm
      clear hR hxy hne hmid hsub hlast hh hl hx hy hm hn
      go_enter Tryd.func17, Tryd.ntmps17
      go_upto_region 4 with fail
      rw [Hm.out]
      go_wp2_with fail
      refine (IX.out _).mono ?_
      rintro e w ⟨rfl, rfl⟩
      go_upto_region 6 with fail
      go_cut [37] (fun v wx => v = .bool (decide (0 ≤ I)) ∧ wx = w)
      case first =>
        go_wp2_with fail
        go_meet
        exact ⟨rfl, rfl⟩
      case rest =>
      obtain ⟨rfl, rfl⟩ := hcut
      go_upto_if 37 with fail
      go_cut [5, 6] (fun v5 v6 wx => v5 = .string x ∧ v6 = .string y ∧ ∃ n, wx = wc.drewN n)
      case first =>
        rcases HXY.out with ⟨rfl, rfl, rfl⟩ | ⟨k, rfl, hk, hx, hy⟩
        · skip
          go_wp2_with fail
          go_meet
          exact ⟨rfl, rfl, 0, rfl⟩
        · have k1 : (0 : Int) ≤ (k : Int) := by omega
          have k2 : (k : Int) ≤ (m.size : Int) := by omega
          have k3 : IntKind.i64.wrap ((k : Int) + 1) = (k : Int) + 1 := IntWalk.i64_in _ (by omega)
          have k4 : (k : Int) + 1 ≤ (m.size : Int) := by omega
          have k5 : ((k : Int) + 1).toNat = k + 1 := by omega
          have Hx := hide hx
          have Hy := hide hy
          clear hx hy
          go_wp2_with fail
          go_quiet (fail)
          go_wp2_with fail
          go_meet
          exact ⟨by rw [← Hx.out], by rw [← Hy.out], _, rfl⟩
      case rest =>
      obtain ⟨rfl, rfl, n0, rfl⟩ := hcut
      have HB0 := hide (Below_drewN (Below.refl wc.heap.size wc) n0)
      generalize wc.drewN n0 = wd at HB0 ⊢
      clear HXY IX Hm
      go_wp2_with fail
      refine (NX.out _).mono ?_
      rintro e w1 ⟨v1, ok1, rfl, hs1, hn1, hb⟩
      have B1 := hide (HB0.out.trans (hb.mono HB0.out.size))
      clear hb
      go_wp2_with fail
      refine (NY.out _).mono ?_
      rintro e w2 ⟨v2, ok2, rfl, hs2, hn2, hb⟩
      have B2 := hide (B1.out.trans (hb.mono B1.out.size))
      clear hb
      cases O1 with
      | none =>
        obtain rfl := hn1 rfl
        clear hs1 hs2 hn1 hn2
        go_wp2
        go_ret3
        exact ⟨rfl, B2.out⟩
      | some a =>
        obtain ⟨rfl, rfl⟩ := hs1 a rfl
        cases O2 with
        | none =>
          obtain rfl := hn2 rfl
          clear hs1 hs2 hn1 hn2
          go_wp2
          go_ret3
          exact ⟨rfl, B2.out⟩
        | some b =>
          obtain ⟨rfl, rfl⟩ := hs2 b rfl
          clear hs1 hs2 hn1 hn2
          have BM := hide (fun W : World => refBound_any v1 W)
          have BN := hide (fun W : World => refBound_any v2 W)
          have hbo : both (some v1) (some v2) = if bdB v1 && bdB v2 then (v1, v2, 0) else (0, 0, 2) := rfl
          have Hbo := hide hbo
          clear hbo
          generalize bdB v1 = b1 at BM Hbo
          generalize bdB v2 = b2 at BN Hbo
          cases b1 with
          | false =>
            have hq := Hbo.out
            simp only [Bool.false_and, Bool.false_eq_true, if_false] at hq
            have Hq := hide hq
            clear hq Hbo
            go_wp2_with fail
            refine (BM.out _).mono ?_
            rintro e wx ⟨rfl, rfl⟩
            go_wp2
            go_ret3
            exact ⟨by rw [Hq.out]; rfl, B2.out⟩
          | true =>
            cases b2 with
            | false =>
              have hq := Hbo.out
              simp only [Bool.and_false, Bool.false_eq_true, if_false] at hq
              have Hq := hide hq
              clear hq Hbo
              go_wp2_with fail
              refine (BM.out _).mono ?_
              rintro e wx ⟨rfl, rfl⟩
              go_wp2_with fail
              refine (BN.out _).mono ?_
              rintro e wx ⟨rfl, rfl⟩
              go_wp2
              go_ret3
              exact ⟨by rw [Hq.out]; rfl, B2.out⟩
            | true =>
              have hq := Hbo.out
              simp only [Bool.and_true, if_true] at hq
              have Hq := hide hq
              clear hq Hbo
              go_wp2_with fail
              refine (BM.out _).mono ?_
              rintro e wx ⟨rfl, rfl⟩
              go_wp2_with fail
              refine (BN.out _).mono ?_
              rintro e wx ⟨rfl, rfl⟩
              go_wp2
              go_ret3
              exact ⟨by rw [Hq.out]; rfl, B2.out⟩
    · have hR : rangeW s.data.toList = (0, 0, 3) := by
        unfold rangeW
        rw [if_pos (.inr (.inr (by rw [hlast]; exact fun e => h93 ((u8_eq _ 93 (by decide)).1 (Option.some.inj e)))))]
      rw [hR]
      have e93 : (((s[n]'hnz).toNat : Int) == 93) = false := beq_eq_false_iff_ne.2 h93
      have e93' : (((s[n]'hnz).toNat : Int) != 93) = true := by simp only [bne, e93, Bool.not_false]
      clear hR hlast hh hl h93 hn
      go_enter Tryd.func17, Tryd.ntmps17
      go_wp2
      go_ret3
      exact ⟨rfl, Below.refl _ _⟩
  · have hR : rangeW s.data.toList = (0, 0, 3) := by
      unfold rangeW
      rw [if_pos (.inr (.inl (by rw [hh]; exact fun e => h91 ((u8_eq _ 91 (by decide)).1 (Option.some.inj e)))))]
    rw [hR]
    have e91 : (((s[0]'h0).toNat : Int) == 91) = false := beq_eq_false_iff_ne.2 h91
    have e91' : (((s[0]'h0).toNat : Int) != 91) = true := by simp only [bne, e91, Bool.not_false]
    clear hR hh hl h91
    go_enter Tryd.func17, Tryd.ntmps17
    go_wp2
    go_ret3
    exact ⟨rfl, Below.refl _ _⟩
end Go.Proofs.YtiibjeiadcmenaaDoor
