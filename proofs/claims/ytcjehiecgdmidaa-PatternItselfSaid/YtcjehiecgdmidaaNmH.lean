/- Contracts of Path, of both; the reference's ValidPath and Split. -/
import Derived.Test.YtcjehiecgdmidaaNmI
set_option linter.unusedVariables false
set_option linter.unusedSimpArgs false
namespace Go.Proofs.Ytcjehiecgdmidaa
open Go.RowKit Go.Shelf Go.Sort

def lists (L : List ByteArray) : List (List UInt8) := L.map (·.data.toList)
def pathB (L : List ByteArray) : ByteArray := bstr (pathL (lists L))
theorem bstr_app (a b : List UInt8) : bstr a ++ bstr b = bstr (a ++ b) := by
  apply Go.WideShapes.bytes_inj
  rw [list_bstr]; simp [bstr]
/-- what Path has written before it comes to the name k -/
def stP (L : List (List UInt8)) (k : Nat) : List UInt8 := pj (L.take k) ++ (if 0 < k ∧ k < L.length ∧ escN (L.getD (k - 1) []) = true then [32] else [])
theorem pj_len : ∀ (L : List (List UInt8)), L.all vN = true → (pj L).length ≤ 34 * L.length := by
  intro L
  induction L with
  | nil => intro _; exact Nat.zero_le _
  | cons p L ih =>
    intro h
    rw [List.all_cons, Bool.and_eq_true] at h
    have h1 := (vN_len h.1).2
    have h2 := ih h.2
    cases L with
    | nil => show p.length ≤ 34 * 1; omega
    | cons q r =>
      rw [pj_cons _ _ (by simp), List.length_append, List.length_append]
      have h3 : (sepN p).length ≤ 2 := by unfold sepN; split <;> decide
      simp only [List.length_cons] at h2 ⊢
      omega
theorem take_all_vN {L : List (List UInt8)} {k : Nat} (h : ∀ j (hj : j < L.length), j < k → vN L[j] = true) : (L.take k).all vN = true := by
  rw [List.all_eq_true]
  intro x hx
  obtain ⟨j, hj, rfl⟩ := List.mem_iff_getElem.1 hx
  rw [List.length_take] at hj
  rw [List.getElem_take]
  exact h j (by omega) (by omega)
theorem stP_len {L : List (List UInt8)} {k : Nat} (h : ∀ j (hj : j < L.length), j < k → vN L[j] = true) (hk : k ≤ 9) : (stP L k).length ≤ 320 := by
  have h1 := pj_len (L.take k) (take_all_vN h)
  have h2 : (L.take k).length ≤ k := List.length_take_le _ _
  unfold stP
  rw [List.length_append]
  split
  · show _ + 1 ≤ 320; omega
  · show _ + 0 ≤ 320; omega
theorem stP_zero (L : List (List UInt8)) : stP L 0 = [] := by
  unfold stP; rw [if_neg (fun h => absurd h.1 (by decide))]; rfl
theorem stP_end {L : List (List UInt8)} : stP L L.length = pj L := by
  unfold stP; rw [if_neg (fun h => absurd h.2.1 (Nat.lt_irrefl _)), List.append_nil, List.take_length]
/-- a round of Path -/
theorem stP_step {L : List (List UInt8)} {k : Nat} (hk : k < L.length) :
    stP L (k + 1) = (stP L k ++ (if 0 < k then [46] else [])) ++ (L[k] ++ (if escN L[k] = true ∧ k + 1 < L.length then [32] else [])) := by
  have hg : L.getD (k + 1 - 1) [] = L[k] := by rw [Nat.add_sub_cancel, List.getD_eq_getElem?_getD, List.getElem?_eq_getElem hk]; rfl
  have ht : L.take (k + 1) = L.take k ++ [L[k]] := List.take_succ_eq_append_getElem hk
  unfold stP
  rw [hg, ht]
  have e1 : (if 0 < k + 1 ∧ k + 1 < L.length ∧ escN L[k] = true then ([32] : List UInt8) else []) = if escN L[k] = true ∧ k + 1 < L.length then [32] else [] := by
    by_cases h1 : escN L[k] = true <;> by_cases h2 : k + 1 < L.length <;> simp [h1, h2]
  rw [e1]
  rcases Nat.eq_zero_or_pos k with rfl | hp
  · simp [pj]
  · obtain ⟨j, rfl⟩ : ∃ j, k = j + 1 := ⟨k - 1, by omega⟩
    have ht2 : L.take (j + 1) = L.take j ++ [L[j]] := List.take_succ_eq_append_getElem (by omega)
    have hg2 : L.getD (j + 1 - 1) [] = L[j] := by rw [Nat.add_sub_cancel, List.getD_eq_getElem?_getD, List.getElem?_eq_getElem (by omega)]; rfl
    rw [hg2, ht2, List.append_assoc, List.singleton_append, pj_snoc]
    rw [if_pos (show 0 < j + 1 by omega)]
    unfold sepN
    cases he : escN L[j] with
    | true => rw [if_pos (show 0 < j + 1 ∧ j + 1 < L.length ∧ true = true from ⟨hp, hk, rfl⟩)]; simp
    | false => rw [if_neg (show ¬ (0 < j + 1 ∧ j + 1 < L.length ∧ false = true) from fun h => by cases h.2.2)]; simp
theorem pathL_bad {L : List (List UInt8)} {k : Nat} (hk : k < L.length) (h : vN L[k] = false) : pathL L = [] := by
  unfold pathL vpB
  rw [if_neg]
  intro hh
  rw [Bool.and_eq_true] at hh
  have := List.all_eq_true.1 hh.2 _ (List.getElem_mem hk)
  rw [h] at this; cases this
theorem pathL_ok {L : List (List UInt8)} (h0 : 1 ≤ L.length) (h9 : L.length ≤ 9) (h : L.all vN = true) : pathL L = pj L := by
  unfold pathL vpB; rw [if_pos (by rw [h, Bool.and_true]; exact decide_eq_true ⟨h0, h9⟩)]
theorem lists_len (L : List ByteArray) : (lists L).length = L.length := List.length_map _
theorem lists_get (L : List ByteArray) (k : Nat) (h : k < L.length) : (lists L)[k]'(by rw [lists_len]; exact h) = L[k].data.toList := List.getElem_map _

set_option maxRecDepth 20000 in
set_option maxHeartbeats 8000000 in
theorem Path_any (A : Option Addr) (n cap : Nat) (L : List ByteArray) (w : World) (hn : n = L.length) (hl : L.length ≤ 1099511627776) (hw : Sl Value.string w A L) (hz : ∀ s ∈ L, s.size ≤ 1000000) :
    Calls Try.prog 17 #[.slice A n cap] w fun e w' => e = .returned (.string (pathB L)) ∧ Below w.heap.size w w' := by
  subst hn
  have hll := lists_len L
  by_cases hlen : 1 ≤ L.length ∧ L.length ≤ 9
  · have Hw := hide hw
    have HZ := hide hz
    have l1 : ((L.length : Int) == 0) = false := beq_eq_false_iff_ne.2 (by omega)
    have l2 : (L.length : Int) ≤ 9 := by omega
    have HG := hide (fun k (h : k < L.length) => lists_get L k h)
    have hP : ∀ (k : Nat) (h : k < L.length), vN (L[k].data.toList) = false → pathB L = ⟨#[]⟩ := fun k h hv => by
      unfold pathB; rw [pathL_bad (k := k) (by rw [hll]; exact h) (by rw [lists_get L k h]; exact hv)]; rfl
    have HPB := hide hP
    have HPE := hide (show (∀ j (hj : j < L.length), vN (L[j].data.toList) = true) → pathB L = bstr (stP (lists L) L.length) from fun h => by
      unfold pathB
      rw [pathL_ok (by rw [hll]; exact hlen.1) (by rw [hll]; exact hlen.2) (by
        have := take_all_vN (L := lists L) (k := L.length) (fun j hj _ => by rw [lists_get L j (by rw [hll] at hj; exact hj)]; exact h j _)
        rwa [← hll, List.take_length] at this), ← stP_end, hll])
    clear hw hz hP
    go_enter Try.func17, Try.ntmps17
    go_wp2
    go_loopw [3, 16] (fun v k wr => ∃ i : Nat, k = .int .i64 i ∧ i ≤ L.length ∧ v = .string (bstr (stP (lists L) i)) ∧ (∀ j (hj : j < L.length), j < i → vN (L[j].data.toList) = true) ∧ Below w.heap.size w wr) (fun _ k _ => L.length - (intOf k).toNat)
    case atStart => exact ⟨0, rfl, Nat.zero_le _, by rw [stP_zero]; rfl, (fun j hj h => absurd h (Nat.not_lt_zero _)), Below.refl _ _⟩
    case round =>
      obtain ⟨i, rfl, hi, rfl, hall, hb⟩ := hrel
      have HA := hide hall
      have HB := hide hb
      by_cases hlt : i < L.length
      · obtain ⟨b, off, rfl, hbz, hat⟩ := Hw.out.at hlt
        have hc := hat wr hb
        have hstep := stP_step (L := lists L) (k := i) (by rw [hll]; exact hlt)
        rw [lists_get L i hlt, hll] at hstep
        have hz1 := stP_len (L := lists L) (k := i) (fun j hj hji => by rw [lists_get L j (by rw [hll] at hj; exact hj)]; exact hall j _ hji) (by omega)
        have hpz := HZ.out _ (List.getElem_mem hlt)
        have hv2 := fun h => HPB.out i hlt h
        obtain ⟨p, hp⟩ : ∃ p, L[i]'hlt = p := ⟨_, rfl⟩
        have Hp := hide hp
        rw [hp] at hc hstep hpz hv2
        have V := hide (fun W : World => Valid_any p W (by omega))
        have E := hide (fun W : World => Escaped_any p W (by omega))
        have hps := size_list p
        have hbs := size_list (bstr (stP (lists L) i))
        rw [list_bstr] at hbs
        have hall' : vN p.data.toList = true → ∀ j (hj : j < L.length), j < i + 1 → vN (L[j].data.toList) = true := fun hv j hj h => by
          rcases Nat.lt_or_ge j i with h1 | h1
          · exact HA.out j hj h1
          · obtain rfl : j = i := by omega
            rw [Hp.out]; exact hv
        have HA2 := hide hall'
        have HS := hide hstep
        clear hall hb hat hp hall' hstep
        generalize stP (lists L) i = st at *
        cases hv : vN p.data.toList with
        | false =>
          rw [hv] at V
          have Hbad := hide (hv2 hv)
          clear hv hv2 hz1 hpz hps hbs
          go_wp2_with fail
          refine (V.out _).mono ?_
          rintro e w2 ⟨rfl, hb2⟩
          have HB2 := hide (HB.out.trans (hb2.mono HB.out.size))
          clear hb2
          go_wp2
          go_ret
          exact ⟨by rw [Hbad.out]; rfl, HB2.out⟩
        | true =>
          rw [hv] at V
          have HAll := hide (HA2.out hv)
          have hp32 := (vN_len hv).2
          clear hv hv2
          obtain ⟨es, hes⟩ : ∃ es, escN p.data.toList = es := ⟨_, rfl⟩
          have hs2 := HS.out
          rw [hes] at E hs2
          -- the three appends
          obtain ⟨dot, hdot⟩ : ∃ dot : List UInt8, (if 0 < i then [46] else []) = dot := ⟨_, rfl⟩
          have hdl : dot.length ≤ 1 := by rw [← hdot]; split <;> decide
          rw [hdot, List.append_assoc] at hs2
          have d1 := fun W => cat_run (P := Try.prog) (bstr st) ⟨#[46]⟩ (by rw [← hbs]; show _ + 1 ≤ _; omega) W
          have e1 : bstr st ++ ⟨#[46]⟩ = bstr (st ++ [46]) := bstr_app st [46]
          rw [e1] at d1
          have e2 : bstr (st ++ dot) ++ p = bstr (st ++ (dot ++ p.data.toList)) := by rw [← List.append_assoc]; exact bstr_app _ _
          have z2 : (bstr (st ++ dot)).size = st.length + dot.length := by rw [← size_list, list_bstr, List.length_append]
          have d2 := fun W => cat_run (P := Try.prog) (bstr (st ++ dot)) p (by rw [z2]; omega) W
          rw [e2] at d2
          have z3 : (bstr (st ++ (dot ++ p.data.toList))).size = st.length + (dot.length + p.size) := by rw [← size_list, list_bstr, List.length_append, List.length_append, hps]
          have d3 := fun W => cat_run (P := Try.prog) (bstr (st ++ (dot ++ p.data.toList))) ⟨#[32]⟩ (by rw [z3]; show _ + 1 ≤ _; omega) W
          have e3 : bstr (st ++ (dot ++ p.data.toList)) ++ ⟨#[32]⟩ = bstr (st ++ (dot ++ (p.data.toList ++ [32]))) := by
            have := bstr_app (st ++ (dot ++ p.data.toList)) [32]
            rw [List.append_assoc, List.append_assoc] at this; exact this
          rw [e3] at d3
          have HS2 := hide hs2
          have Hdot := hide hdot
          clear hs2 e1 e2 e3 z2 z3 hdl hdot hes hbs hps hpz hz1 hp32
          go_wp2_with fail
          refine (V.out _).mono ?_
          rintro e w2 ⟨rfl, hb2⟩
          have HB2 := hide (HB.out.trans (hb2.mono HB.out.size))
          clear hb2
          go_upto_if 25 with fail
          go_cut [3] (fun v wx => v = .string (bstr (st ++ dot)) ∧ wx = w2)
          case first =>
            by_cases h0 : 0 < i
            · have hd := Hdot.out
              rw [if_pos h0] at hd
              subst hd
              have h0' : (0 : Int) < (i : Int) := by omega
              go_wp2_with fail
              go_meet
              exact ⟨rfl, rfl⟩
            · have hd := Hdot.out
              rw [if_neg h0] at hd
              subst hd
              have h0' : ¬ (0 : Int) < (i : Int) := by omega
              go_wp2_with fail
              go_meet
              exact ⟨by rw [List.append_nil], rfl⟩
          case rest =>
          obtain ⟨rfl, rfl⟩ := hcut
          clear d1
          go_wp2_with fail
          refine (E.out _).mono ?_
          rintro e w3 ⟨rfl, hb3⟩
          have HB3 := hide (HB2.out.trans (hb3.mono HB2.out.size))
          clear hb3
          by_cases hlast : i + 1 < L.length
          · have hl' : (i : Int) + 1 < (L.length : Int) := by omega
            cases es with
            | true =>
              have hs3 := HS2.out
              rw [if_pos ⟨rfl, hlast⟩] at hs3
              have HS3 := hide hs3
              clear hs3 hlast
              go_wp2
              go_roundw
              case rel => exact ⟨i + 1, by go_num, by omega, by rw [HS3.out], HAll.out, HB3.out⟩
              case measure => simp [intOf]; omega
            | false =>
              have hs3 := HS2.out
              rw [if_neg (fun h => by cases h.1), List.append_nil] at hs3
              have HS3 := hide hs3
              clear hs3 hlast
              go_wp2
              go_roundw
              case rel => exact ⟨i + 1, by go_num, by omega, by rw [HS3.out], HAll.out, HB3.out⟩
              case measure => simp [intOf]; omega
          · have hl' : ¬ (i : Int) + 1 < (L.length : Int) := by omega
            have hs3 := HS2.out
            rw [if_neg (fun h => hlast h.2), List.append_nil] at hs3
            have HS3 := hide hs3
            clear hs3 hlast
            cases es
            all_goals
              go_wp2
              go_roundw
              case rel => exact ⟨i + 1, by go_num, by omega, by rw [HS3.out], HAll.out, HB3.out⟩
              case measure => simp [intOf]; omega
      · obtain rfl : i = L.length := Nat.le_antisymm hi (Nat.le_of_not_lt hlt)
        have HE := hide (HPE.out (fun j hj => HA.out j hj hj))
        clear hall hb
        generalize stP (lists L) L.length = st at *
        go_wp2
        go_ret
        exact ⟨by rw [HE.out]; rfl, HB.out⟩
  · have hP : pathB L = ⟨#[]⟩ := by
      unfold pathB pathL vpB
      rw [hll, decide_eq_false hlen, Bool.false_and, if_neg Bool.false_ne_true]; rfl
    rw [hP]
    have h' : ((L.length : Int) == 0) = true ∨ (((L.length : Int) == 0) = false ∧ 9 < (L.length : Int)) := by
      by_cases h : L.length = 0
      · exact .inl (beq_iff_eq.2 (by omega))
      · exact .inr ⟨beq_eq_false_iff_ne.2 (by omega), by omega⟩
    clear hP hlen hz hw hll
    rcases h' with h | ⟨h1, h2⟩
    all_goals
      go_enter Try.func17, Try.ntmps17
      go_wp2
      go_ret
      exact ⟨rfl, Below.refl _ _⟩
end Go.Proofs.Ytcjehiecgdmidaa
