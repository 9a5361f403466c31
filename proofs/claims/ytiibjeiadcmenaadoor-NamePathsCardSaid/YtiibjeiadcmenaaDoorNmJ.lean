/- Contracts of the reference's ValidPath, Path and Split. -/
import Derived.Test.YtiibjeiadcmenaaDoorNmH
import Derived.Deep.DeepCutAuto
set_option linter.unusedVariables false
set_option linter.unusedSimpArgs false
namespace Go.Proofs.YtiibjeiadcmenaaDoor
open Go.RowKit Go.Shelf Go.Sort

theorem all_of (L : List ByteArray) (h : ∀ j (hj : j < L.length), vN (L[j].data.toList) = true) : (lists L).all vN = true := by
  have := take_all_vN (L := lists L) (k := L.length) (fun j hj _ => by rw [lists_get L j (by rw [lists_len] at hj; exact hj)]; exact h j _)
  rwa [← lists_len, List.take_length] at this
set_option maxHeartbeats 4000000 in
theorem refValidPath_any (A : Option Addr) (n cap : Nat) (L : List ByteArray) (w : World) (hn : n = L.length) (hl : L.length ≤ 1099511627776) (hw : Sl Value.string w A L) (hz : ∀ s ∈ L, s.size ≤ 1000000) :
    Calls Tryd.prog 46 #[.slice A n cap] w fun e w' => e = .returned (.bool (vpB (lists L))) ∧ w' = w := by
  subst hn
  have hll := lists_len L
  have HW := hide hw
  have HZ := hide hz
  have hbad : ∀ (k : Nat) (h : k < L.length), vN (L[k].data.toList) = false → vpB (lists L) = false := fun k h hv => by
    unfold vpB
    rw [show (lists L).all vN = false by
      rw [List.all_eq_false]
      exact ⟨_, List.getElem_mem (by rw [hll]; exact h), by rw [lists_get L k h, hv]; decide⟩, Bool.and_false]
  have hok : (∀ j (hj : j < L.length), vN (L[j].data.toList) = true) → vpB (lists L) = decide (1 ≤ L.length ∧ L.length ≤ 9) := fun h => by
    unfold vpB; rw [all_of L h, Bool.and_true, hll]
  have HBad := hide hbad
  have HOk := hide hok
  generalize vpB (lists L) = vp at HBad HOk ⊢
  clear hw hz hbad hok hll
  go_enter Tryd.func46, Tryd.ntmps46
  go_wp2
  go_loop [3] (fun v => ∃ i : Nat, v = .int .i64 i ∧ i ≤ L.length ∧ ∀ j (hj : j < L.length), j < i → vN (L[j].data.toList) = true) (fun v => L.length - (intOf v).toNat)
  case atStart => exact ⟨0, rfl, Nat.zero_le _, fun j hj h => absurd h (Nat.not_lt_zero _)⟩
  case round =>
    obtain ⟨i, rfl, hi, hall⟩ := hrel
    have HA := hide hall
    clear hall
    by_cases hlt : i < L.length
    · obtain ⟨b, off, rfl, hbz, hat⟩ := HW.out.at hlt
      have hc := hat w (Below.refl _ _)
      have hpz := HZ.out _ (List.getElem_mem hlt)
      obtain ⟨p, hp⟩ : ∃ p, L[i]'hlt = p := ⟨_, rfl⟩
      have Hp := hide hp
      have hbd := fun h => HBad.out i hlt h
      rw [hp] at hc hpz hbd
      have V := hide (fun W : World => refValid_any p W (by omega))
      clear hp hat
      cases hv : vN p.data.toList with
      | false =>
        rw [hv] at V
        have Hb := hide (hbd hv)
        clear hv hbd
        go_wp2_with fail
        refine (V.out _).mono ?_
        rintro e w ⟨rfl, rfl⟩
        go_wp2
        go_ret
        exact ⟨ret_b Hb.out, rfl⟩
      | true =>
        rw [hv] at V
        have Hv := hide hv
        clear hv hbd
        go_wp2_with fail
        refine (V.out _).mono ?_
        rintro e w ⟨rfl, rfl⟩
        go_wp2
        go_round
        case rel =>
          refine ⟨i + 1, by go_num, by omega, fun j hj h => ?_⟩
          rcases Nat.lt_or_ge j i with h1 | h1
          · exact HA.out j hj h1
          · obtain rfl : j = i := by omega
            rw [Hp.out]; exact Hv.out
        case measure => simp [intOf]; omega
    · obtain rfl : i = L.length := Nat.le_antisymm hi (Nat.le_of_not_lt hlt)
      have hv := HOk.out (fun j hj => HA.out j hj hj)
      have HV := hide hv
      clear hv
      by_cases h1 : (1 : Int) ≤ (L.length : Int)
      · go_wp2
        go_ret
        refine ⟨ret_b ?_, rfl⟩
        rw [HV.out, Bool.eq_iff_iff, decide_eq_true_eq, decide_eq_true_eq]; omega
      · go_wp2
        go_ret
        refine ⟨ret_b ?_, rfl⟩
        rw [HV.out, decide_eq_false]; omega

theorem pj_one (L : List (List UInt8)) (h : 0 < L.length) : pj (L.take 1) = L[0] := by
  cases L with
  | nil => simp at h
  | cons a t => rfl
theorem pj_take (L : List (List UInt8)) (k : Nat) (h0 : 1 ≤ k) (hk : k < L.length) : pj (L.take (k + 1)) = pj (L.take k) ++ (sepN (L[k - 1]'(by omega)) ++ L[k]) := by
  obtain ⟨j, rfl⟩ : ∃ j, k = j + 1 := ⟨k - 1, by omega⟩
  have e1 : L.take (j + 1 + 1) = L.take (j + 1) ++ [L[j + 1]] := List.take_succ_eq_append_getElem hk
  have e2 : L.take (j + 1) = L.take j ++ [L[j]] := List.take_succ_eq_append_getElem (by omega)
  rw [e1, e2, List.append_assoc, List.singleton_append, pj_snoc]
  rfl
set_option maxRecDepth 20000 in
set_option maxHeartbeats 8000000 in
theorem refPath_any (A : Option Addr) (n cap : Nat) (L : List ByteArray) (w : World) (hn : n = L.length) (hl : L.length ≤ 1099511627776) (hw : Sl Value.string w A L) (hz : ∀ s ∈ L, s.size ≤ 1000000) :
    Calls Tryd.prog 26 #[.slice A n cap] w fun e w' => e = .returned (.string (pathB L)) ∧ w' = w := by
  subst hn
  have hll := lists_len L
  have VP := hide (refValidPath_any A L.length cap L w rfl hl hw hz)
  cases hv : vpB (lists L) with
  | false =>
    have hP : pathB L = ⟨#[]⟩ := by unfold pathB pathL; rw [hv]; rfl
    rw [hv] at VP
    rw [hP]
    clear hv hP hw hz hll
    go_enter Tryd.func26, Tryd.ntmps26
    go_wp2_with fail
    refine VP.out.mono ?_
    rintro e w ⟨rfl, rfl⟩
    go_wp2
    go_ret
    exact ⟨rfl, rfl⟩
  | true =>
    have hP : pathB L = bstr (pj (lists L)) := by unfold pathB pathL; rw [hv]; rfl
    rw [hv] at VP
    rw [hP]
    have hv2 := hv
    unfold vpB at hv2
    rw [Bool.and_eq_true, decide_eq_true_eq, hll] at hv2
    obtain ⟨⟨g1, g9⟩, hall⟩ := hv2
    have HV := hide (fun (j : Nat) (hj : j < L.length) => (show vN (L[j].data.toList) = true from by
      have := List.all_eq_true.1 hall _ (List.getElem_mem (show j < (lists L).length by rw [hll]; exact hj))
      rwa [lists_get L j hj] at this))
    have HT := hide (fun (k : Nat) (h0 : 1 ≤ k) (hk : k < L.length) => (show pj ((lists L).take (k + 1)) = pj ((lists L).take k) ++ (sepN ((L[k - 1]'(by omega)).data.toList) ++ L[k].data.toList) from by
      rw [pj_take (lists L) k h0 (by rw [hll]; exact hk), lists_get L k hk, lists_get L (k - 1) (by omega)]))
    have HLn := hide (fun (k : Nat) (hk : k ≤ L.length) => (show (pj ((lists L).take k)).length ≤ 306 from by
      have h1 := pj_len ((lists L).take k) (by
        rw [List.all_eq_true]; intro x hx; exact List.all_eq_true.1 hall x (List.mem_of_mem_take hx))
      have h2 : ((lists L).take k).length ≤ k := List.length_take_le _ _
      omega))
    have HEnd := hide (show pj ((lists L).take L.length) = pj (lists L) by rw [← hll, List.take_length])
    have H1 := hide (show pj ((lists L).take 1) = (L[0]'(by omega)).data.toList by
      rw [← lists_get L 0 (by omega)]
      exact pj_one _ _)
    have HW := hide hw
    obtain ⟨b, off, rfl, hbz, hat0⟩ := hw.at (i := 0) (by omega)
    have hc0 := hat0 w (Below.refl _ _)
    rw [Nat.add_zero] at hc0
    obtain ⟨p0, hp0⟩ : ∃ p, L[0]'(by omega) = p := ⟨_, rfl⟩
    have Hp0 := hide hp0
    rw [hp0] at hc0
    have g1' : (0 : Int) < (L.length : Int) := by omega
    clear hv hP hw hz hat0 hp0 hall
    go_enter Tryd.func26, Tryd.ntmps26
    go_wp2_with fail
    refine VP.out.mono ?_
    rintro e w ⟨rfl, rfl⟩
    go_wp2
    go_loop [3, 4] (fun v k => ∃ i : Nat, k = .int .i64 i ∧ 1 ≤ i ∧ i ≤ L.length ∧ v = .string (bstr (pj ((lists L).take i)))) (fun _ k => L.length - (intOf k).toNat)
    case atStart => exact ⟨1, rfl, Nat.le_refl _, g1, by rw [H1.out, Hp0.out]; rfl⟩
    case round =>
      obtain ⟨i, rfl, hi1, hi, rfl⟩ := hrel
      by_cases hlt : i < L.length
      · obtain ⟨b', off', hb', _, hat⟩ := HW.out.at hlt
        obtain ⟨b'', off'', hb'', _, hat'⟩ := HW.out.at (i := i - 1) (by omega)
        cases hb'
        cases hb''
        have hc := hat w (Below.refl _ _)
        have hc' := hat' w (Below.refl _ _)
        have hstep := HT.out i hi1 hlt
        have hlen := HLn.out i hi
        have hv1 := (vN_len (HV.out i hlt)).2
        obtain ⟨p, hp⟩ : ∃ p, L[i]'hlt = p := ⟨_, rfl⟩
        obtain ⟨q, hq⟩ : ∃ q, L[i - 1]'(by omega) = q := ⟨_, rfl⟩
        have hvq := (vN_len (HV.out (i - 1) (by omega))).2
        rw [hp] at hc hstep hv1
        rw [hq] at hc' hstep hvq
        rw [size_list] at hv1 hvq
        have E := hide (fun W : World => refEscaped_any q W (by omega))
        have Hst := hide hstep
        generalize pj ((lists L).take i) = st at *
        have hbs : (bstr st).size = st.length := by rw [← size_list, list_bstr]
        have e1 : bstr st ++ ⟨#[32]⟩ = bstr (st ++ [32]) := bstr_app st [32]
        have d1 := fun W => cat_run (P := Tryd.prog) (bstr st) ⟨#[32]⟩ (by rw [hbs]; show _ + 1 ≤ _; omega) W
        rw [e1] at d1
        obtain ⟨sp, hsp⟩ : ∃ sp : List UInt8, (if escN q.data.toList = true then [32] else []) = sp := ⟨_, rfl⟩
        have hspl : sp.length ≤ 1 := by rw [← hsp]; split <;> decide
        have hst2 : pj ((lists L).take (i + 1)) = st ++ (sp ++ ([46] ++ p.data.toList)) := by
          rw [Hst.out, ← hsp]; unfold sepN; split <;> simp
        have z2 : (bstr (st ++ sp)).size = st.length + sp.length := by rw [← size_list, list_bstr, List.length_append]
        have e2 : bstr (st ++ sp) ++ ⟨#[46]⟩ = bstr (st ++ (sp ++ [46])) := by rw [← List.append_assoc]; exact bstr_app (st ++ sp) [46]
        have d2 := fun W => cat_run (P := Tryd.prog) (bstr (st ++ sp)) ⟨#[46]⟩ (by rw [z2]; show _ + 1 ≤ _; omega) W
        rw [e2] at d2
        have z3 : (bstr (st ++ (sp ++ [46]))).size = st.length + (sp.length + 1) := by rw [← size_list, list_bstr, List.length_append, List.length_append]; rfl
        have e3 : bstr (st ++ (sp ++ [46])) ++ p = bstr (st ++ (sp ++ ([46] ++ p.data.toList))) := by
          have := bstr_app (st ++ (sp ++ [46])) p.data.toList
          rw [List.append_assoc, List.append_assoc] at this; exact this
        have d3 := fun W => cat_run (P := Tryd.prog) (bstr (st ++ (sp ++ [46]))) p (by rw [z3]; omega) W
        rw [e3] at d3
        have HSp := hide hsp
        have HS2 := hide hst2
        obtain ⟨es, hes⟩ : ∃ es, escN q.data.toList = es := ⟨_, rfl⟩
        have HEs := hide hes
        rw [hes] at E
        have k1 : ((i - 1 : Nat) : Int) = (i : Int) - 1 := by omega
        have K1 := hide k1
        have k2 : IntKind.i64.wrap ((i : Int) - 1) = ((i - 1 : Nat) : Int) := by rw [IntWalk.i64_in _ (by omega)]; omega
        have k3 : ((i - 1 : Nat) : Int) < (L.length : Int) := by omega
        have k4 : (0 : Int) ≤ (i : Int) - 1 := by omega
        have k5 : (i : Int) - 1 < (L.length : Int) := by omega
        have k6 : ((i : Int) - 1).toNat = i - 1 := by omega
        clear hat hat' hstep hlen hbs e1 hsp hspl hst2 z2 e2 z3 e3 hes hp hq k1
        go_wp2_with fail
        refine (E.out _).mono ?_
        rintro e w ⟨rfl, rfl⟩
        clear k2 k3 k4 k5 k6
        go_upto_if 22 with fail
        go_cut [3] (fun v wx => v = .string (bstr (st ++ sp)) ∧ wx = w)
        case first =>
          cases es with
          | true =>
            have hq2 := HSp.out
            rw [if_pos HEs.out] at hq2
            subst hq2
            go_wp2_with fail
            go_meet
            exact ⟨rfl, rfl⟩
          | false =>
            have hq2 := HSp.out
            rw [if_neg (by rw [HEs.out]; decide)] at hq2
            subst hq2
            go_wp2_with fail
            go_meet
            exact ⟨by rw [List.append_nil], rfl⟩
        case rest =>
        obtain ⟨rfl, rfl⟩ := hcut
        clear d1
        go_wp2
        go_round
        case rel => exact ⟨i + 1, by go_num, by omega, by omega, by rw [HS2.out]; rfl⟩
        case measure => simp [intOf]; omega
      · obtain rfl : i = L.length := Nat.le_antisymm hi (Nat.le_of_not_lt hlt)
        have HE := HEnd
        generalize pj ((lists L).take L.length) = st at *
        go_wp2
        go_ret
        exact ⟨by rw [← HE.out]; rfl, rfl⟩
end Go.Proofs.YtiibjeiadcmenaaDoor
