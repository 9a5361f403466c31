/- Contract of the reference's Split: the walk. -/
import Derived.Test.YtiibjeiadcmenaaDoorNmL
import Derived.Deep.DeepCutAuto
set_option linter.unusedVariables false
set_option linter.unusedSimpArgs false
namespace Go.Proofs.YtiibjeiadcmenaaDoor
open Go.RowKit Go.Shelf Go.Sort

set_option maxRecDepth 20000 in
set_option maxHeartbeats 8000000 in
theorem refSplit_any (s : ByteArray) (w : World) (hz : s.size ≤ 1000000) :
    Calls Tryd.prog 24 #[.string s] w (SplitPost (spl (splitF 9 s.data.toList)) w.heap.size w) := by
  have hlz : s.data.toList.length ≤ 1000000 := by rw [size_list]; exact hz
  obtain ⟨l, hl⟩ : ∃ l, s.data.toList = l := ⟨_, rfl⟩
  have hs : s = bstr l := by rw [← hl]; rfl
  have hE := ref_end l
  rw [hl] at hlz ⊢
  obtain ⟨R, hR⟩ : ∃ R, splitF 9 l = R := ⟨_, rfl⟩
  obtain ⟨SA, hSA⟩ : ∃ SA, splitA (l.length + 1) l = SA := ⟨_, rfl⟩
  rw [hR, hSA] at hE
  rw [hR]
  have HE := hide hE
  have HSA := hide hSA
  subst hs
  clear hR hl hz hE hSA
  go_enter Tryd.func24, Tryd.ntmps24
  go_wp2
  go_loopg [4, 5] (l.length + 1) (fun g v4 v5 wx => ∃ (O : List (List UInt8)) (r : List UInt8), v5 = .string (bstr r) ∧ wx.ownsRow w.heap.size 9 1 v4 O.length (strC O) ∧ Below w.heap.size w wx ∧ r.length < g ∧ O.length + g ≤ 1000001 ∧ (∀ x ∈ O, x.length ≤ 1000000) ∧ SA = (splitA g r).map (O ++ ·))
  case atStart =>
    refine ⟨[], l, rfl, World.ownsRow_lit (size := 1) w #[] 0 (Nat.le_refl _) (by unfold maxLen; omega) rfl, (Below.refl _ _).alloc (Nat.le_refl _) _, Nat.lt_succ_self _, by simp; omega, (fun x hx => by cases hx), ?_⟩
    rw [← HSA.out]
    cases splitA (l.length + 1) l <;> rfl
  case round =>
    obtain ⟨O, r, rfl, hown, hb, hrg, hOg, hOz, hSA⟩ := hrel
    obtain ⟨g, rfl⟩ : ∃ g, gk = g + 1 := ⟨gk - 1, by omega⟩
    have Hown := hide hown
    have Hb := hide hb
    have hst := splitA_step g r
    have hrz := size_list (bstr r)
    rw [list_bstr] at hrz
    have HSA2 := hide hSA
    have HSt := hide hst
    have HOz := hide hOz
    clear hown hb hSA hst hOz
    obtain ⟨hd, hhd⟩ : ∃ hd, decide (r.head? = some 92) = hd := ⟨_, rfl⟩
    obtain ⟨ec, hec⟩ : ∃ ec : Int, ((endC r : Nat) : Int) = ec := ⟨_, rfl⟩
    obtain ⟨sk, hsk⟩ : ∃ sk : Int, (if hd then (1 : Int) else 0) = sk := ⟨_, rfl⟩
    have HHd := hide hhd
    have HEc := hide hec
    have HSk := hide hsk
    clear hhd hec hsk
    go_upto_region 4 with fail
    go_cut [17] (fun v wx => v = .bool hd ∧ wx = wr)
    case first =>
      by_cases h0 : 0 < (bstr r).size
      · have hh := hd_at (bstr r) h0
        rw [list_bstr] at hh
        obtain ⟨hn, hne⟩ := toList_pos h0
        have hne' : (!(bstr r).toList.isEmpty) = true := by rw [hne]; rfl
        by_cases h92 : (((bstr r)[0]'h0).toNat : Int) = 92
        · have hq : hd = true := by rw [← HHd.out, hh]; exact decide_eq_true (by congr 1; exact (u8_eq _ 92 (by decide)).2 h92)
          subst hq
          clear hh
          generalize bstr r = rb at *
          go_wp2_with fail
          go_meet
          exact ⟨rfl, rfl⟩
        · have hq : hd = false := by rw [← HHd.out, hh]; exact decide_eq_false (fun e => h92 ((u8_eq _ 92 (by decide)).1 (Option.some.inj e)))
          subst hq
          have e92 : ((((bstr r)[0]'h0).toNat : Int) == 92) = false := beq_eq_false_iff_ne.2 h92
          clear hh h92
          generalize bstr r = rb at *
          go_wp2_with fail
          go_meet
          exact ⟨rfl, rfl⟩
      · have hr0 : r = [] := by
          have : r.length = 0 := by omega
          exact List.eq_nil_of_length_eq_zero this
        have hq : hd = false := by rw [← HHd.out, hr0]; rfl
        subst hq hr0
        have hb0 : bstr [] = ⟨#[]⟩ := rfl
        rw [hb0]
        go_wp2_with fail
        go_meet
        exact ⟨rfl, rfl⟩
    case rest =>
    obtain ⟨rfl, rfl⟩ := hcut
    go_upto_if 17 with fail
    go_cut [6, 7] (fun v6 v7 wx => v6 = .int .u8 ec ∧ v7 = .int .i64 sk ∧ wx = wc)
    case first =>
      cases hd with
      | true =>
        have q1 := HEc.out
        have q2 := HSk.out
        unfold endC at q1
        rw [if_pos (of_decide_eq_true HHd.out)] at q1
        rw [if_pos rfl] at q2
        subst q1 q2
        go_wp2_with fail
        go_meet
        exact ⟨rfl, rfl, rfl⟩
      | false =>
        have q1 := HEc.out
        have q2 := HSk.out
        unfold endC at q1
        rw [if_neg (of_decide_eq_false HHd.out)] at q1
        rw [if_neg Bool.false_ne_true] at q2
        subst q1 q2
        go_wp2_with fail
        go_meet
        exact ⟨rfl, rfl, rfl⟩
    case rest =>
    obtain ⟨rfl, rfl, rfl⟩ := hcut
    have I := hide (fun W : World => index_any (bstr r) ec W (by omega))
    rw [list_bstr] at I
    go_wp2_with fail
    refine (I.out _).mono ?_
    rintro e wx ⟨rfl, rfl⟩
    have hz1 := Hb.out.size
    have hO' : (O.length : Int) ≤ 1000001 := by omega
    have hstA : stepA r = if idxI ec r < 0 then none
      else if hd = true then (if (r.drop ((idxI ec r).toNat + 1)).head? = some 46 then some (some (r.take (idxI ec r).toNat, (r.drop ((idxI ec r).toNat + 1)).drop 1)) else some none)
      else some (some (r.take (idxI ec r).toNat, r.drop ((idxI ec r).toNat + 1))) := by
      unfold stepA
      rw [HEc.out]
      cases hd with
      | true =>
        have q := HEc.out
        unfold endC at q
        rw [if_pos (of_decide_eq_true HHd.out)] at q
        have q' : ec = 32 := q.symm
        rw [if_pos (of_decide_eq_true HHd.out), if_pos rfl, q']
      | false =>
        have q := HEc.out
        unfold endC at q
        rw [if_neg (of_decide_eq_false HHd.out)] at q
        have q' : ec = 46 := q.symm
        rw [if_neg (of_decide_eq_false HHd.out), if_neg Bool.false_ne_true, q']
    have HStA := hide hstA
    clear hstA
    by_cases hJ : idxI ec r < 0
    · have hs := HStA.out
      rw [if_pos hJ] at hs
      have hst := HSt.out
      rw [hs] at hst
      have hSA := HSA2.out
      rw [hst] at hSA
      have HSA3 := hide (show SA = some (O ++ [r]) from hSA)
      have VP := hide (fun (A : Option Addr) (cap : Nat) (W : World) (h : Sl Value.string W A ((O ++ [r]).map bstr)) => refValidPath_any A (O.length + 1) cap ((O ++ [r]).map bstr) W (by simp) (by simp; omega) h (fun t ht => by
        obtain ⟨x, hx, rfl⟩ := List.mem_map.1 ht
        rw [← size_list, list_bstr]
        rcases List.mem_append.1 hx with hx | hx
        · exact HOz.out x hx
        · obtain rfl : x = r := by simpa using hx
          omega))
      clear hs hst hSA
      generalize idxI ec r = J at *
      go_wp2_with (at_builtin; have hown9 := Hown.out.alloc (.cells #[.string (bstr r)] 9); refine wpList_append_at _ rfl _ _ 24 rfl w.heap.size 9 infoStr1 Tryd.underlying24 rfl (by decide) _ O.length (strC O) rfl hown9 ⟨wx.heap.size, 0, none⟩ 1 1 [.string (bstr r)] rfl rfl (cells_new _ _ rfl) (by intro u hu; simp only [List.mem_cons, List.not_mem_nil, or_false] at hu; rcases hu with rfl; rfl) (by unfold maxLen; omega) (by omega) (by rw [World.size_alloc]; omega) ?_; intro v' w4 hown4 hgrow4 _ _)
      have Hb4 := hide ((Hb.out.alloc hz1 (.cells #[.string (bstr r)] 9)).grown hgrow4 (by rw [World.size_alloc]; omega) (fun j hj => (World.ownsRow.lt hown9 j hj).1))
      have hsnoc : strC O ++ [Value.string (bstr r)] = strC (O ++ [r]) := by rw [strC_append]; rfl
      rw [hsnoc] at hown4
      have hcap0 := hown4
      obtain ⟨A, cap, hv, hsl, hlt⟩ := Sl_own (f := Value.string) (xs := (O ++ [r]).map bstr) (by
        rw [show ((O ++ [r]).map bstr).map Value.string = strC (O ++ [r]) by unfold strC; rw [List.map_map]; rfl]; exact hown4) (by simp)
      subst hv
      have hcap := ownsRow_cap hcap0
      have Hsl := hide hsl
      clear hown4 hgrow4 hown9 hsnoc hsl hlt hcap0
      go_wp2_with fail
      refine (VP.out A cap _ Hsl.out).mono ?_
      rintro e w5 ⟨rfl, rfl⟩
      have hE := HE.out
      rw [HSA3.out] at hE
      have hlb : lists ((O ++ [r]).map bstr) = O ++ [r] := by
        unfold lists; rw [List.map_map]
        exact (List.map_congr_left (fun l _ => list_bstr l)).trans (List.map_id _)
      rw [hlb]
      have hE2 : (if vpB (O ++ [r]) = true then some (O ++ [r]) else none) = R := hE
      have HE2 := hide hE2
      clear hE hE2 hlb
      cases hvp : vpB (O ++ [r]) with
      | false =>
        have hq := HE2.out
        rw [hvp, if_neg Bool.false_ne_true] at hq
        have Hq := hide hq
        clear hq hvp
        go_wp2
        go_ret2
        rw [← Hq.out]
        exact ⟨none, 0, rfl, Sl.nil _ _ _, Nat.le_refl _, Hb4.out⟩
      | true =>
        have hq := HE2.out
        rw [hvp, if_pos rfl] at hq
        have Hq := hide hq
        clear hq hvp
        go_wp2
        go_ret2
        rw [← Hq.out]
        refine ⟨A, cap, ?_, Hsl.out, by show ((O ++ [r]).map bstr).length ≤ cap; simpa using hcap, Hb4.out⟩
        show _ = Ending.returned (.tuple #[.slice A ((O ++ [r]).map bstr).length cap, .int .i64 0])
        rw [show ((O ++ [r]).map bstr).length = O.length + 1 by simp]; rfl
    · have hkn : ∃ k kn : Nat, idxI ec r = (k : Int) ∧ sk = (kn : Int) ∧ kn ≤ 1 ∧ k < r.length ∧ stepA r = if (r.drop (k + kn)).head? = some 46 then some (some (r.take k, (r.drop (k + kn)).drop 1)) else some none := by
        rcases idxI_cases ec r with ⟨h, _⟩ | ⟨k, h, hk, he, hno⟩
        · rw [h] at hJ; exact absurd (by decide) hJ
        · have hs := HStA.out
          rw [if_neg hJ, h, show ((k : Nat) : Int).toNat = k from rfl] at hs
          cases hd with
          | true =>
            have q2 := HSk.out
            rw [if_pos rfl] at q2
            rw [if_pos rfl] at hs
            exact ⟨k, 1, h, q2.symm, Nat.le_refl _, hk, hs⟩
          | false =>
            have q2 := HSk.out
            rw [if_neg Bool.false_ne_true] at q2
            rw [if_neg Bool.false_ne_true] at hs
            refine ⟨k, 0, h, q2.symm, Nat.zero_le _, hk, ?_⟩
            have q1 : ec = 46 := by
              have q := HEc.out
              unfold endC at q
              rw [if_neg (of_decide_eq_false HHd.out)] at q
              exact q.symm
            have hc : r[k]'hk = 46 := (u8_eq _ 46 (by decide)).2 (by rw [q1] at he; exact he)
            have hdr : r.drop k = 46 :: r.drop (k + 1) := by rw [← hc]; exact List.drop_eq_getElem_cons hk
            rw [Nat.add_zero, hdr, if_pos (show (46 :: r.drop (k + 1)).head? = some 46 from rfl), hs]
            rfl
      obtain ⟨k, kn, hk, hskn, hkn1, hkl, hs⟩ := hkn
      have hst := HSt.out
      rw [hs] at hst
      clear hs
      obtain ⟨n, hn⟩ : ∃ n, r.take k = n := ⟨_, rfl⟩
      obtain ⟨D, hD⟩ : ∃ D, r.drop (k + kn) = D := ⟨_, rfl⟩
      rw [hn, hD] at hst
      have hnz : n.length ≤ 1000000 := by rw [← hn, List.length_take]; omega
      have hDz : D.length + k + kn = r.length := by rw [← hD, List.length_drop]; omega
      have e1 : (bstr r).extract 0 k = bstr n := by
        apply Go.WideShapes.bytes_inj
        rw [list_bstr, Lib.extract_from_zero, list_bstr, hn]
      have e2 : (bstr r).extract (k + kn) (bstr r).size = bstr D := by
        apply Go.WideShapes.bytes_inj
        rw [list_bstr, Lib.extract_to_end, list_bstr, hD]
      have hE := HE.out
      have hSA := HSA2.out
      rw [hst] at hSA
      obtain ⟨bd, hbd⟩ : ∃ bd, decide (D.head? = some 46) = bd := ⟨_, rfl⟩
      have hSA' : SA = if bd then (splitA g (D.drop 1)).map ((O ++ [n]) ++ ·) else none := by
        rw [hSA]
        cases bd with
        | true =>
          rw [if_pos (of_decide_eq_true hbd), if_pos rfl]
          show ((splitA g (D.drop 1)).map (n :: ·)).map _ = _
          cases splitA g (D.drop 1) with
          | none => rfl
          | some N => show some (O ++ (n :: N)) = some ((O ++ [n]) ++ N); rw [List.append_assoc]; rfl
        | false =>
          rw [if_neg (of_decide_eq_false hbd), if_neg Bool.false_ne_true]; rfl
      have HSA4 := hide hSA'
      have HBd := hide hbd
      have Hn := hide hnz
      have He1 := hide e1
      have He2 := hide e2
      have k1 : (0 : Int) ≤ (k : Int) := by omega
      have k2 : (k : Int) ≤ ((bstr r).size : Int) := by omega
      have k3 : IntKind.i64.wrap ((k : Int) + (kn : Int)) = ((k + kn : Nat) : Int) := by rw [IntWalk.i64_in _ (by omega)]; omega
      have k4 : ((k + kn : Nat) : Int) ≤ ((bstr r).size : Int) := by omega
      have k5 : ((k + kn : Nat) : Int).toNat = k + kn := by omega
      have k6 : (0 : Int) ≤ ((k + kn : Nat) : Int) := by omega
      have HDz := hide hDz
      rw [hk]
      subst hskn
      clear hst hn hD hSA hSA' hbd hE e1 e2 hnz hDz HSt HStA hk
      go_upto_region 10 with (at_builtin; have hown9 := Hown.out.alloc (.cells #[.string ((bstr r).extract 0 k)] 9); refine wpList_append_at _ rfl _ _ 24 rfl w.heap.size 9 infoStr1 Tryd.underlying24 rfl (by decide) _ O.length (strC O) rfl hown9 ⟨wx.heap.size, 0, none⟩ 1 1 [.string ((bstr r).extract 0 k)] rfl rfl (cells_new _ _ rfl) (by intro u hu; simp only [List.mem_cons, List.not_mem_nil, or_false] at hu; rcases hu with rfl; rfl) (by unfold maxLen; omega) (by omega) (by rw [World.size_alloc]; omega) ?_; intro v' w4 hown4 hgrow4 _ _)
      have Hb4 := hide ((Hb.out.alloc hz1 (.cells #[.string ((bstr r).extract 0 k)] 9)).grown hgrow4 (by rw [World.size_alloc]; omega) (fun j hj => (World.ownsRow.lt hown9 j hj).1))
      have hsnoc : strC O ++ [Value.string ((bstr r).extract 0 k)] = strC (O ++ [n]) := by rw [He1.out, strC_append]; rfl
      rw [hsnoc] at hown4
      have Hown4 := hide hown4
      clear hown4 hgrow4 hown9 hsnoc
      go_upto_region 11 with fail
      rw [He2.out]
      clear k1 k2 k3 k4 k5 k6
      have hDs := size_list (bstr D)
      rw [list_bstr] at hDs
      by_cases h0 : 0 < (bstr D).size
      · have hh := hd_at (bstr D) h0
        rw [list_bstr] at hh
        obtain ⟨hn, hne⟩ := toList_pos h0
        have hne' : (!(bstr D).toList.isEmpty) = true := by rw [hne]; rfl
        by_cases h46 : (((bstr D)[0]'h0).toNat : Int) = 46
        · have hq : bd = true := by rw [← HBd.out, hh]; exact decide_eq_true (by congr 1; exact (u8_eq _ 46 (by decide)).2 h46)
          subst hq
          have hSA5 := HSA4.out
          rw [if_pos rfl] at hSA5
          have HSA5 := hide hSA5
          have e46 : ((((bstr D)[0]'h0).toNat : Int) != 46) = false := by rw [h46]; rfl
          have hrest : (bstr D).extract 1 (bstr D).size = bstr (D.drop 1) := by
            apply Go.WideShapes.bytes_inj
            rw [list_bstr, Lib.extract_to_end, list_bstr]
          have Hrest := hide hrest
          have k1 : (1 : Int) ≤ ((bstr D).size : Int) := by omega
          clear hh h46 hSA5 hrest HSA4
          generalize bstr D = rb at *
          go_wp2_with fail
          go_roundg g
          case measure => omega
          case rel => exact ⟨O ++ [n], D.drop 1, by rw [Hrest.out], by rw [List.length_append]; exact Hown4.out, Hb4.out, by have := HDz.out; rw [List.length_drop]; omega, by simp; omega, (fun x hx => by
            rcases List.mem_append.1 hx with hx | hx
            · exact HOz.out x hx
            · obtain rfl : x = n := by simpa using hx
              exact Hn.out), HSA5.out⟩
        · have hq : bd = false := by rw [← HBd.out, hh]; exact decide_eq_false (fun e => h46 ((u8_eq _ 46 (by decide)).1 (Option.some.inj e)))
          subst hq
          have hSA5 := HSA4.out
          rw [if_neg Bool.false_ne_true] at hSA5
          have hE := HE.out
          rw [hSA5] at hE
          have HRn := hide (show none = R from hE)
          have e46 : ((((bstr D)[0]'h0).toNat : Int) != 46) = true := by simpa using h46
          clear hh h46 hSA5 hE HSA4
          generalize bstr D = rb at *
          go_wp2_with fail
          go_ret2
          rw [← HRn.out]
          exact ⟨none, 0, rfl, Sl.nil _ _ _, Nat.le_refl _, Hb4.out⟩
      · have hr0 : D = [] := by
          have : D.length = 0 := by omega
          exact List.eq_nil_of_length_eq_zero this
        have hq : bd = false := by rw [← HBd.out, hr0]; rfl
        subst hq hr0
        have hSA5 := HSA4.out
        rw [if_neg Bool.false_ne_true] at hSA5
        have hE := HE.out
        rw [hSA5] at hE
        have HRn := hide (show none = R from hE)
        have hb0 : bstr [] = ⟨#[]⟩ := rfl
        rw [hb0]
        clear hSA5 hE HSA4
        go_wp2_with fail
        go_ret2
        rw [← HRn.out]
        exact ⟨none, 0, rfl, Sl.nil _ _ _, Nat.le_refl _, Hb4.out⟩
end Go.Proofs.YtiibjeiadcmenaaDoor
