/- Contracts of the scanner's name and of name.Split. -/
import Derived.Test.YtiibjeiadcmenaaDoorNmG
set_option linter.unusedVariables false
set_option linter.unusedSimpArgs false
namespace Go.Proofs.YtiibjeiadcmenaaDoor
open Go.RowKit Go.Shelf Go.Sort

theorem infoStr1 : (Tryd.prog.info? 9).map (fun i => (i.zero, i.size, i.bytes)) = some (some (.string ⟨#[]⟩), 1, 16) := by kernel_rfl
def strC (L : List (List UInt8)) : List Value := L.map fun l => Value.string (bstr l)
theorem strC_append (a b : List (List UInt8)) : strC (a ++ b) = strC a ++ strC b := List.map_append
theorem prefix_head (l : List UInt8) : Lib.hasPrefix l [92] = decide (l.head? = some 92) := by
  have h := takeS_one l 92
  have h2 := takeS_eq l [92]
  rw [h] at h2
  have h3 := congrArg Prod.fst h2
  simp only at h3
  rw [← h3]
  split
  · rename_i h; rw [decide_eq_true h]
  · rename_i h; rw [decide_eq_false h]
set_option maxHeartbeats 4000000 in
theorem name_any (b : Nat) (l : List UInt8) (w : World) (hr : SC w b l) (hz : l.length ≤ 1000000) (hg : Gl w) :
    Calls Tryd.prog 45 #[.pointer (some ⟨b, 0, none⟩)] w fun e w' => e = .returned (.tuple #[.string (bstr (cutN l).1), .bool (!(cutN l).2.2)]) ∧ SC w' b (cutN l).2.1 ∧ Keeps (fun c => c = b) w w' := by
  obtain ⟨m, hm⟩ := hg.maxLen
  have hc : w.cell? ⟨b, 0, none⟩ = some (.string (bstr l)) := hr.cell 0
  have hf : w.frozen? ⟨b, 0, none⟩ = false := hr.frozen 0
  have P := hide (fun W : World => Tryd.strings_HasPrefix (bstr l) (bstr [92]) W)
  rw [list_bstr, list_bstr, prefix_head] at P
  have hzl : (bstr l).size ≤ 1000000 := by have := size_list (bstr l); rw [list_bstr] at this; omega
  by_cases hh : l.head? = some 92
  · rw [decide_eq_true hh] at P
    have C := hide (Tryd.strings_Cut (bstr l) ⟨#[32, 46]⟩ m w (by omega) hm)
    rw [list_bstr, show (⟨#[32, 46]⟩ : ByteArray).data.toList = [32, 46] from rfl] at C
    have hcut : cutN l = Lib.cut l [32, 46] := by unfold cutN; rw [if_pos hh]
    rw [← hcut] at C
    have Hr := hide hr
    generalize cutN l = c at C ⊢
    obtain ⟨c1, c2, c3⟩ := c
    generalize bstr l = s at *
    clear hr hm hcut hh hg
    go_enter Tryd.func45, Tryd.ntmps45
    go_wp2_with fail
    refine (P.out _).mono ?_
    rintro e wx ⟨rfl, rfl⟩
    go_wp2_with fail
    refine C.out.mono ?_
    rintro e wx ⟨rfl, k, rfl⟩
    go_wp2
    go_ret2
    exact ⟨rfl, (Hr.out.drewN k).set_ 0 _, ((Keeps.refl (fun c => c = b) _).drewN k).set (.inl rfl) 0 _⟩
  · rw [decide_eq_false hh] at P
    have C := hide (Tryd.strings_Cut (bstr l) ⟨#[46]⟩ m w (by omega) hm)
    rw [list_bstr, show (⟨#[46]⟩ : ByteArray).data.toList = [46] from rfl] at C
    have hcut : cutN l = Lib.cut l [46] := by unfold cutN; rw [if_neg hh]
    rw [← hcut] at C
    have Hr := hide hr
    generalize cutN l = c at C ⊢
    obtain ⟨c1, c2, c3⟩ := c
    generalize bstr l = s at *
    clear hr hm hcut hh hg
    go_enter Tryd.func45, Tryd.ntmps45
    go_wp2_with fail
    refine (P.out _).mono ?_
    rintro e wx ⟨rfl, rfl⟩
    go_wp2_with fail
    refine C.out.mono ?_
    rintro e wx ⟨rfl, k, rfl⟩
    go_wp2
    go_ret2
    exact ⟨rfl, (Hr.out.drewN k).set_ 0 _, ((Keeps.refl (fun c => c = b) _).drewN k).set (.inl rfl) 0 _⟩

theorem ownsRow_keeps {w w' : World} {base b : Nat} {e : TypeId} {size : Nat} {v : Value} {n : Nat} {xs : List Value} (h : w.ownsRow base e size v n xs) (hk : Keeps (fun c => c = b) w w') (hb : b < base) : w'.ownsRow base e size v n xs :=
  World.ownsRow.kept (row := some b) h ⟨hk.os, hk.tape, hk.output, hk.size, fun k hz hne => hk.block k hz (fun e => hne (by rw [e]))⟩ (by
    cases ho : v.ownBlock with
    | none => simp
    | some g => have := (World.ownsRow.lt h g ho).1; simp; omega)
theorem ownsRow_cap {w : World} {base : Nat} {e : TypeId} {size : Nat} {A : Option Addr} {m cap n : Nat} {xs : List Value} (h : w.ownsRow base e size (.slice A m cap) n xs) : n ≤ cap := by
  rcases h.2 with ⟨h0, h1⟩ | ⟨g', cap', cur, hv, _, _, hle, _⟩
  · cases h0; simp_all
  · cases hv; exact hle
def spl (o : Option (List (List UInt8))) : List ByteArray × Int := match o with | some O => (O.map bstr, 0) | none => ([], 3)
def SplitPost (R : List ByteArray × Int) (B : Nat) (w : World) (e : Ending) (w' : World) : Prop :=
  ∃ A cap, e = .returned (.tuple #[.slice A R.1.length cap, .int .i64 R.2]) ∧ Sl Value.string w' A R.1 ∧ R.1.length ≤ cap ∧ Below B w w'
theorem cut_len (l sub : List UInt8) : (Lib.cut l sub).1.length ≤ l.length ∧ (Lib.cut l sub).2.1.length ≤ l.length := by
  unfold Lib.cut; split
  · constructor
    · simp only [List.length_take]; omega
    · simp only [List.length_drop]; omega
  · exact ⟨Nat.le_refl _, Nat.zero_le _⟩
theorem cutN_len (l : List UInt8) : (cutN l).1.length ≤ l.length ∧ (cutN l).2.1.length ≤ l.length := cut_len _ _

set_option maxRecDepth 20000 in
set_option maxHeartbeats 8000000 in
theorem Split_any (s : ByteArray) (w : World) (hz : s.size ≤ 1000000) (hg : Gl w) :
    Calls Tryd.prog 23 #[.string s] w (SplitPost (spl (splitF 9 s.data.toList)) w.heap.size w) := by
  have G := hide hg
  have GL := hide hg.lt
  clear hg
  have hlz : s.data.toList.length ≤ 1000000 := by rw [size_list]; exact hz
  obtain ⟨l, hl⟩ : ∃ l, s.data.toList = l := ⟨_, rfl⟩
  have hs : s = bstr l := by rw [← hl]; rfl
  rw [hl] at hlz ⊢
  obtain ⟨R, hR⟩ : ∃ R, splitF 9 l = R := ⟨_, rfl⟩
  rw [hR]
  have HR := hide hR
  subst hs
  clear hR hl hz
  go_enter Tryd.func23, Tryd.ntmps23
  go_wp2
  go_loopg [6, 7] 10 (fun g v6 v7 wx => ∃ (O : List (List UInt8)) (last : Bool) (r : List UInt8), v7 = .bool last ∧ wx.ownsRow (w.heap.size + 1) 9 1 v6 O.length (strC O) ∧ SC wx w.heap.size r ∧ Below w.heap.size w wx ∧ O.length ≤ 9 ∧ r.length ≤ 1000000 ∧
    w.heap.size + 1 ≤ wx.heap.size ∧ ((last = true ∧ g = 0 ∧ R = some O) ∨ (last = false ∧ g + O.length = 10 ∧ R = (splitF (9 - O.length) r).map (O ++ ·))))
  case atStart =>
    refine ⟨[], false, l, rfl, World.ownsRow_nil _ _ _ _, Row.new _ _ _, (Below.refl _ _).alloc (Nat.le_refl _) _, Nat.zero_le _, hlz, by simp, .inr ⟨rfl, rfl, ?_⟩⟩
    rw [← HR.out]
    show splitF 9 l = (splitF 9 l).map _
    cases splitF 9 l <;> rfl
  case round =>
    obtain ⟨O, last, r, rfl, hown, hsc, hb, hO, hr, hwz, hcase⟩ := hrel
    have Hown := hide hown
    have Hsc := hide hsc
    have Hb := hide hb
    clear hown hsc hb
    rcases hcase with ⟨rfl, rfl, hRO⟩ | ⟨rfl, hgO, hRO⟩
    · have HRO := hide hRO
      clear hRO
      obtain ⟨A, cap, hv, hsl, hlt⟩ := Sl_own (f := Value.string) (xs := O.map bstr) (by
        rw [show (O.map bstr).map Value.string = strC O by unfold strC; rw [List.map_map]; rfl]; exact Hown.out) (by rw [List.length_map])
      have hcap : O.length ≤ cap := ownsRow_cap (hv ▸ Hown.out)
      subst hv
      have Hsl := hide hsl
      clear hsl hlt
      go_wp2
      go_ret2
      rw [HRO.out]
      refine ⟨A, cap, ?_, Hsl.out, by show (O.map bstr).length ≤ cap; rw [List.length_map]; exact hcap, Hb.out⟩
      show _ = Ending.returned (.tuple #[.slice A (O.map bstr).length cap, .int .i64 0])
      rw [List.length_map]; rfl
    · obtain ⟨g, rfl⟩ : ∃ g, gk = g + 1 := ⟨gk - 1, by omega⟩
      have N := hide (name_any w.heap.size r wr Hsc.out hr (G.out.below Hb.out))
      have hcl := cutN_len r
      have hRO2 : R = (splitF (9 - O.length) r).map (O ++ ·) := hRO
      have hstep : ∀ k, splitF (k + 1) r = if vN (cutN r).1 then (if (cutN r).2.2 then (splitF k (cutN r).2.1).map ((cutN r).1 :: ·) else some [(cutN r).1]) else none := fun k => rfl
      generalize cutN r = c at N hcl hstep
      obtain ⟨n, r2, more⟩ := c
      simp only at hcl hstep
      have HRO := hide hRO
      have HStep := hide hstep
      have HgO := hide hgO
      clear hRO hRO2 hstep hgO
      have V := hide (fun W : World => Valid_any (bstr n) W (by have := size_list (bstr n); rw [list_bstr] at this; omega))
      rw [list_bstr] at V
      go_wp2_with fail
      refine N.out.mono ?_
      rintro e w2 ⟨rfl, hsc2, hk2⟩
      have Hsc2 := hide hsc2
      have Hk2 := hide hk2
      have Hown2 := hide (ownsRow_keeps Hown.out hk2 (Nat.lt_succ_self _))
      have hz2 := hk2.size
      have hO' : (O.length : Int) ≤ 9 := by omega
      clear hsc2
      have hbz2 : w.heap.size + 1 ≤ w2.heap.size := Nat.le_trans hwz hz2
      have Hb2 := hide (Hb.out.trans (hk2.below (B := w.heap.size) (by rintro c rfl; exact Nat.le_refl _) (Nat.le_of_succ_le hwz)))
      clear hk2
      go_wp2_with (at_builtin; have hown9 := Hown2.out.alloc (.cells #[.string (bstr n)] 9); refine wpList_append_at _ rfl _ _ 24 rfl (w.heap.size + 1) 9 infoStr1 Tryd.underlying24 rfl (by decide) _ O.length (strC O) rfl hown9 ⟨w2.heap.size, 0, none⟩ 1 1 [.string (bstr n)] rfl rfl (cells_new _ _ rfl) (by intro u hu; simp only [List.mem_cons, List.not_mem_nil, or_false] at hu; rcases hu with rfl; rfl) (by unfold maxLen; omega) (by omega) (by rw [World.size_alloc]; omega) ?_; intro v' w4 hown4 hgrow4 _ _)
      have Hsc4 := hide ((Hsc2.out.alloc (.cells #[.string (bstr n)] 9)).grown hgrow4 (fun h => by have := (World.ownsRow.lt hown9 w.heap.size h.symm).1; omega))
      have Hb4 := hide ((Hb2.out.alloc (Nat.le_of_succ_le hbz2) (.cells #[.string (bstr n)] 9)).grown hgrow4 (by rw [World.size_alloc]; omega) (fun j hj => Nat.le_of_succ_le (World.ownsRow.lt hown9 j hj).1))
      have hz4 : w.heap.size + 1 ≤ w4.heap.size := Nat.le_trans (by rw [World.size_alloc]; omega) hgrow4.size
      have hsnoc : strC O ++ [Value.string (bstr n)] = strC (O ++ [n]) := by rw [strC_append]; rfl
      rw [hsnoc] at hown4
      obtain ⟨g', cap', rfl, hg0, _⟩ := World.ownsRow.form hown4 (by omega)
      have Hown4 := hide hown4
      clear hown4 hgrow4 hown9 hsnoc
      go_wp2_with fail
      refine (V.out _).mono ?_
      rintro e w5 ⟨rfl, hb5⟩
      have Hb5 := hide (Hb4.out.trans (hb5.mono (Nat.le_of_succ_le hz4)))
      have Hsc5 := hide (Hsc4.out.below hb5 Hsc4.out.lt)
      have Hown5 := hide (ownsRow_below Hown4.out hb5)
      have hz5 : w.heap.size + 1 ≤ w5.heap.size := Nat.le_trans hz4 hb5.size
      clear hb5
      cases hv : vN n with
      | false =>
        have hRn : R = none := by
          rw [HRO.out]
          rcases Nat.eq_zero_or_pos (9 - O.length) with h | h
          · rw [h]; rfl
          · obtain ⟨k, hk⟩ : ∃ k, 9 - O.length = k + 1 := ⟨9 - O.length - 1, by omega⟩
            rw [hk, HStep.out, hv, if_neg Bool.false_ne_true]; rfl
        have HRn := hide hRn
        clear hRn hv
        go_wp2
        go_ret2
        rw [HRn.out]
        exact ⟨none, 0, rfl, Sl.nil _ _ _, Nat.le_refl _, Hb5.out⟩
      | true =>
        have Hv := hide hv
        clear hv
        by_cases h9 : O.length = 9
        · have hRn : R = none := by rw [HRO.out, h9]; rfl
          have HRn := hide hRn
          have h9' : (9 : Int) < (O.length : Int) + 1 := by omega
          clear hRn h9
          go_wp2
          go_ret2
          rw [HRn.out]
          exact ⟨none, 0, rfl, Sl.nil _ _ _, Nat.le_refl _, Hb5.out⟩
        · have h9' : ¬ (9 : Int) < (O.length : Int) + 1 := by omega
          have hgO : g + 1 + O.length = 10 := HgO.out
          have hRn : R = if more then (splitF (9 - (O.length + 1)) r2).map ((O ++ [n]) ++ ·) else some (O ++ [n]) := by
            rw [HRO.out, show 9 - O.length = (9 - (O.length + 1)) + 1 by omega, HStep.out, Hv.out, if_pos rfl]
            cases more with
            | true =>
              rw [if_pos rfl, if_pos rfl]
              cases splitF (9 - (O.length + 1)) r2 with
              | none => rfl
              | some N => show some (O ++ (n :: N)) = some ((O ++ [n]) ++ N); rw [List.append_assoc]; rfl
            | false => rw [if_neg Bool.false_ne_true, if_neg Bool.false_ne_true]; rfl
          have HRn := hide hRn
          have hO9 : O.length + 1 ≤ 9 := by omega
          clear hRn h9 hgO
          cases more with
          | true =>
            have hR2 := HRn.out
            rw [if_pos rfl] at hR2
            have HR2 := hide hR2
            clear hR2 HRn
            go_wp2
            go_roundg g
            case measure => omega
            case rel => exact ⟨O ++ [n], false, r2, rfl, by rw [List.length_append]; exact Hown5.out, Hsc5.out, Hb5.out, by simpa using hO9, by omega, hz5, .inr ⟨rfl, by have := HgO.out; simp; omega, by rw [List.length_append]; exact HR2.out⟩⟩
          | false =>
            have hR2 := HRn.out
            rw [if_neg Bool.false_ne_true] at hR2
            have HR2 := hide hR2
            clear hR2 HRn
            go_wp2
            go_roundg 0
            case measure => omega
            case rel => exact ⟨O ++ [n], true, r2, rfl, by rw [List.length_append]; exact Hown5.out, Hsc5.out, Hb5.out, by simpa using hO9, by omega, hz5, .inl ⟨rfl, rfl, HR2.out⟩⟩
end Go.Proofs.YtiibjeiadcmenaaDoor
