/- Contracts of the reference's Reference; FormatReference of both. -/
import Derived.Test.YtiibjeiadcmenaaDoorNmF
set_option linter.unusedVariables false
set_option linter.unusedSimpArgs false
namespace Go.Proofs.YtiibjeiadcmenaaDoor
open Go.RowKit Go.Shelf Go.Sort

set_option maxRecDepth 20000 in
set_option maxHeartbeats 8000000 in
theorem refReference_any (A : Option Addr) (n cap : Nat) (L : List ByteArray) (w : World) (hn : n = L.length) (hl : L.length ≤ 1099511627776) (hw : Sl Value.string w A L) (hz : ∀ s ∈ L, s.size ≤ 1000000) :
    Calls Tryd.prog 29 #[.slice A n cap] w (Ret5 (refS L) w.heap.size w) := by
  subst hn
  have bad : (L.length = 0 ∨ 2 < L.length) → Calls Tryd.prog 29 #[.slice A L.length cap] w (Ret5 (⟨#[]⟩, false, 0, 0, 3) w.heap.size w) := by
    intro h
    have h' : ((L.length : Int) == 0) = true ∨ (((L.length : Int) == 0) = false ∧ 2 < (L.length : Int)) := by
      rcases h with h | h
      · exact .inl (beq_iff_eq.2 (by omega))
      · exact .inr ⟨beq_eq_false_iff_ne.2 (by omega), by omega⟩
    clear h hz hw
    rcases h' with h | ⟨h1, h2⟩
    all_goals
      go_enter Tryd.func29, Tryd.ntmps29
      go_wp2
      exact bodyPost_ret (v := .tuple #[.string ⟨#[]⟩, .bool false, .int .i64 0, .int .i64 0, .int .i64 3]) (by simp [results, Tryd.results29, go_sem]) rfl ⟨rfl, Below.refl _ _⟩
  by_cases hlen : L.length = 1 ∨ L.length = 2
  · obtain ⟨a, p, hp, hpz, hS, hfirst⟩ : ∃ a p, refS L = refP p ∧ (p.1.size ≤ 1000000 ∧ p.2.1.size ≤ 1000000) ∧ L[0]? = some a ∧
        ((L = [a] ∧ (brk a = none ∧ p = (a, ⟨#[]⟩, false) ∨ ∃ k, brk a = some k ∧ p = (a.extract 0 k, a.extract k a.size, true))) ∨ ∃ b, L = [a, b] ∧ p = (a, b, true)) := by
      match L, hlen with
      | [a], _ =>
        have ha := hz a (by simp)
        cases hb : brk a with
        | none => exact ⟨a, (a, ⟨#[]⟩, false), by simp only [refS, partsS, hb], ⟨ha, Nat.zero_le _⟩, rfl, .inl ⟨rfl, .inl ⟨hb, rfl⟩⟩⟩
        | some k => exact ⟨a, (a.extract 0 k, a.extract k a.size, true), by simp only [refS, partsS, hb], ⟨by simp only [ByteArray.size_extract]; omega, by simp only [ByteArray.size_extract]; omega⟩, rfl, .inl ⟨rfl, .inr ⟨k, hb, rfl⟩⟩⟩
      | [a, b], _ => exact ⟨a, (a, b, true), rfl, ⟨hz a (by simp), hz b (by simp)⟩, rfl, .inr ⟨b, rfl, rfl⟩⟩
      | [], h => simp at h
      | _ :: _ :: _ :: _, h => simp at h
    rw [hp]
    have H0 : 0 < L.length := by omega
    obtain ⟨bA, off, hA, hbz, hat⟩ := hw.at H0
    have hc0 := hat w (Below.refl _ _)
    rw [show L[0]'H0 = a from Option.some.inj (by rw [← hS, List.getElem?_eq_getElem H0])] at hc0
    rw [Nat.add_zero] at hc0
    subst hA
    obtain ⟨nm, text, rg⟩ := p
    simp only at hpz
    have V := hide (fun W : World => refValid_any nm W (by omega))
    have R := hide (fun W : World => refRange_any text W hpz.2)
    rw [← range_eq] at R
    have hRP : refP (nm, text, rg) = if vN nm.data.toList then (if rg then (if (rangeS text.data.toList).2.2 = 0 then (nm, true, (rangeS text.data.toList).1, (rangeS text.data.toList).2.1, 0) else (⟨#[]⟩, false, 0, 0, (rangeS text.data.toList).2.2)) else (nm, false, 0, 0, 0)) else (⟨#[]⟩, false, 0, 0, 4) := rfl
    generalize refP (nm, text, rg) = RP at hRP ⊢
    have hre := range_err text.data.toList
    generalize rangeS text.data.toList = r at R hRP hre
    obtain ⟨r1, r2, r3⟩ := r
    generalize vN nm.data.toList = v at V hRP
    have HRP := hide hRP
    have HF := hide hfirst
    have I := hide (fun W : World => index_any a 91 W (by have := hz a (List.mem_of_getElem? hS); omega))
    have HAZ := hide (hz a (List.mem_of_getElem? hS))
    have Hat := hide hw
    have l1 : ((L.length : Int) == 0) = false := beq_eq_false_iff_ne.2 (by omega)
    have l2 : (L.length : Int) ≤ 2 := by omega
    have l3 : (0 : Int) < (L.length : Int) := by omega
    clear hRP hfirst hp hpz hS hat bad hlen hw hz hl
    go_enter Tryd.func29, Tryd.ntmps29
    go_upto_region 4 with fail
    go_upto_if 26 with fail
    go_cut [7, 8] (fun v7 v8 wx => v7 = .string nm ∧ v8 = .string text ∧ ∃ n, wx = w.drewN n)
    case first =>
      rcases HF.out with ⟨hL, ⟨hb, hp⟩ | ⟨k, hb, hp⟩⟩ | ⟨b, hL, hp⟩
      · obtain ⟨q1, q0⟩ := Prod.mk.inj hp
        obtain ⟨q2, q3⟩ := Prod.mk.inj q0
        subst q1 q2 q3
        clear q0
        have l4 : ((L.length : Int) == 2) = false := by rw [hL]; rfl
        have hb2 := brk_none hb
        clear hL hp hb
        go_wp2_with fail
        refine (I.out _).mono ?_
        rintro e w ⟨rfl, rfl⟩
        generalize idxI 91 nm.data.toList = J at hb2 ⊢
        rcases hb2 with h | ⟨h, h0, h92⟩
        · go_wp2_with fail
          go_meet
          exact ⟨rfl, rfl, 0, rfl⟩
        · have h92' : (((nm[0]'h0).toNat : Int) != 92) = false := by rw [h92]; rfl
          go_wp2_with fail
          go_meet
          exact ⟨rfl, rfl, 0, rfl⟩
      · obtain ⟨hp1, q0⟩ := Prod.mk.inj hp
        obtain ⟨hp2, q3⟩ := Prod.mk.inj q0
        subst q3
        clear q0
        have l4 : ((L.length : Int) == 2) = false := by rw [hL]; rfl
        obtain ⟨hb1, hb2, hb3⟩ := brk_some hb
        have h0 : 0 < a.size := by omega
        have h92 := hb3 h0
        have h92' : (((a[0]'h0).toNat : Int) != 92) = true := by simp only [bne, h92, Bool.not_false]
        have k1 : (0 : Int) ≤ (k : Int) := by omega
        have k2 : (k : Int) ≤ (a.size : Int) := by omega
        have hz := HAZ.out
        rw [hb1] at I
        have HP1 := hide hp1
        have HP2 := hide hp2
        clear hL hp hp1 hp2 hb hb1 hb2 hb3
        go_wp2_with fail
        refine (I.out _).mono ?_
        rintro e w ⟨rfl, rfl⟩
        go_wp2_with fail
        go_quiet (fail)
        go_wp2_with fail
        go_meet
        exact ⟨by rw [HP1.out], by rw [HP2.out], _, rfl⟩
      · obtain ⟨q1, q0⟩ := Prod.mk.inj hp
        obtain ⟨q2, q3⟩ := Prod.mk.inj q0
        subst q1 q2 q3
        clear q0
        have l4 : ((L.length : Int) == 2) = true := by rw [hL]; rfl
        have l5 : (1 : Int) < (L.length : Int) := by rw [hL]; simp
        have H1 : 1 < L.length := by rw [hL]; simp
        obtain ⟨bA', off', hA', _, hat'⟩ := Hat.out.at H1
        obtain ⟨rfl, rfl⟩ : bA' = bA ∧ off' = off := by
          have := Option.some.inj hA'
          injection this with h1 h2
          exact ⟨h1.symm, h2.symm⟩
        have hc1 := hat' w (Below.refl _ _)
        have e1 : L[1]'H1 = text := by simp only [hL]; rfl
        rw [e1] at hc1
        clear hL hp hat' hA' e1
        go_wp2_with fail
        go_meet
        exact ⟨rfl, rfl, 0, rfl⟩
    case rest =>
    obtain ⟨rfl, rfl, n0, rfl⟩ := hcut
    have B0 := hide (Below_drewN (Below.refl w.heap.size w) n0)
    generalize w.drewN n0 = wd at B0 ⊢
    have hlast : (((L.length : Int) == 1) = false ∧ rg = true) ∨ (((L.length : Int) == 1) = true ∧ rg = true ∧ text.toList.isEmpty = false) ∨ (((L.length : Int) == 1) = true ∧ rg = false ∧ text = ⟨#[]⟩) := by
      rcases HF.out with ⟨hL, ⟨hb, hp⟩ | ⟨k, hb, hp⟩⟩ | ⟨b, hL, hp⟩
      · obtain ⟨q1, q0⟩ := Prod.mk.inj hp
        obtain ⟨q2, q3⟩ := Prod.mk.inj q0
        exact .inr (.inr ⟨by rw [hL]; rfl, q3, q2⟩)
      · obtain ⟨q1, q0⟩ := Prod.mk.inj hp
        obtain ⟨q2, q3⟩ := Prod.mk.inj q0
        obtain ⟨_, hk, _⟩ := brk_some hb
        refine .inr (.inl ⟨by rw [hL]; rfl, q3, (toList_pos ?_).2⟩)
        rw [q2, ByteArray.size_extract]; omega
      · obtain ⟨q1, q0⟩ := Prod.mk.inj hp
        obtain ⟨q2, q3⟩ := Prod.mk.inj q0
        exact .inl ⟨by rw [hL]; rfl, q3⟩
    clear HF I HAZ Hat hc0 l1 l2 l3 H0 hbz
    have hR := HRP.out
    clear HRP
    cases v with
    | false =>
      simp only [Bool.false_eq_true, if_false] at hR
      subst hR
      clear hlast
      go_wp2_with fail
      refine (V.out _).mono ?_
      rintro e wx ⟨rfl, rfl⟩
      go_wp2
      exact bodyPost_ret (v := .tuple #[.string ⟨#[]⟩, .bool false, .int .i64 0, .int .i64 0, .int .i64 4]) (by simp [results, Tryd.results29, go_sem]) rfl ⟨rfl, B0.out⟩
    | true =>
      rcases hlast with ⟨l5, rfl⟩ | ⟨l5, rfl, l6⟩ | ⟨l5, rfl, rfl⟩
      rotate_right
      · simp only [Bool.false_eq_true, if_false, if_true] at hR
        subst hR
        go_wp2_with fail
        refine (V.out _).mono ?_
        rintro e wx ⟨rfl, rfl⟩
        go_wp2
        exact bodyPost_ret (v := .tuple #[.string nm, .bool false, .int .i64 0, .int .i64 0, .int .i64 0]) (by simp [results, Tryd.results29, go_sem]) rfl ⟨rfl, B0.out⟩
      all_goals
        simp only [if_true] at hR
        by_cases h0 : r3 = 0
        · subst h0
          simp only [if_true] at hR
          subst hR
          go_wp2_with fail
          refine (V.out _).mono ?_
          rintro e wx ⟨rfl, rfl⟩
          go_wp2_with fail
          refine (R.out _).mono ?_
          rintro e w1 ⟨rfl, hb⟩
          have B1 := hide (B0.out.trans (hb.mono B0.out.size))
          clear hb
          go_wp2
          exact bodyPost_ret (v := .tuple #[.string nm, .bool true, .int .i64 r1, .int .i64 r2, .int .i64 0]) (by simp [results, Tryd.results29, go_sem]) rfl ⟨rfl, B1.out⟩
        · rw [if_neg h0] at hR
          subst hR
          have h0' : (r3 != 0) = true := by simpa using h0
          clear h0 hre
          go_wp2_with fail
          refine (V.out _).mono ?_
          rintro e wx ⟨rfl, rfl⟩
          go_wp2_with fail
          refine (R.out _).mono ?_
          rintro e w1 ⟨rfl, hb⟩
          have B1 := hide (B0.out.trans (hb.mono B0.out.size))
          clear hb
          go_wp2
          exact bodyPost_ret (v := .tuple #[.string ⟨#[]⟩, .bool false, .int .i64 0, .int .i64 0, .int .i64 r3]) (by simp [results, Tryd.results29, go_sem]) rfl ⟨rfl, B1.out⟩
  · have hS : refS L = (⟨#[]⟩, false, 0, 0, 3) := by
      match L, hlen with
      | [], _ => rfl
      | [a], h => simp at h
      | [a, b], h => simp at h
      | _ :: _ :: _ :: _, _ => rfl
    rw [hS]
    exact bad (by omega)

/-- what FormatReference returns -/
def fmtRef (nm : ByteArray) (rg : Bool) (m n : Int) : ByteArray := if vN nm.data.toList then (if rg then (if fmtR m n = ⟨#[]⟩ then ⟨#[]⟩ else nm ++ ⟨#[32]⟩ ++ fmtR m n) else nm) else ⟨#[]⟩
theorem fmtR_size (m n : Int) : (fmtR m n).size ≤ 60 := by
  unfold fmtR
  cases hm : bdB m with
  | false => exact Nat.zero_le _
  | true =>
    cases hn : bdB n with
    | false => exact Nat.zero_le _
    | true =>
      have zm := decB_len m hm
      have zn := decB_len n hn
      have z : ∀ c : UInt8, (⟨#[c]⟩ : ByteArray).size = 1 := fun _ => rfl
      rw [Bool.and_true, if_pos rfl]
      split <;> simp only [ByteArray.size_append, z] <;> omega
theorem isEmpty_dec (t : ByteArray) : t.toList.isEmpty = decide (t = ⟨#[]⟩) := by
  rw [Bool.eq_iff_iff, decide_eq_true_eq, List.isEmpty_iff]
  constructor
  · intro h; exact Go.WideShapes.bytes_inj (by rw [← Lib.toList_data, h])
  · intro h; rw [h, Lib.toList_data]
set_option maxRecDepth 20000 in
set_option maxHeartbeats 8000000 in
theorem FormatReference_any (nm : ByteArray) (rg : Bool) (m n : Int) (w : World) (hz : nm.size ≤ 900) (hg : Gl w) :
    Calls Tryd.prog 30 #[.string nm, .bool rg, .int .i64 m, .int .i64 n] w fun e w' => e = .returned (.string (fmtRef nm rg m n)) ∧ Below w.heap.size w w' := by
  have V := hide (fun W : World => Valid_any nm W (by omega))
  have F := hide (fun (W : World) (h : Gl W) => FormatRange_any m n W h)
  have G := hide hg
  clear hg
  have zs := fmtR_size m n
  have he := isEmpty_dec (fmtR m n)
  have hS : fmtRef nm rg m n = if vN nm.data.toList then (if rg then (if fmtR m n = ⟨#[]⟩ then ⟨#[]⟩ else nm ++ ⟨#[32]⟩ ++ fmtR m n) else nm) else ⟨#[]⟩ := rfl
  have d1 := fun W => cat_run (P := Tryd.prog) nm ⟨#[32]⟩ (by show _ + 1 ≤ _; omega) W
  have d2 := fun W => cat_run (P := Tryd.prog) (nm ++ ⟨#[32]⟩) (fmtR m n) (by rw [ByteArray.size_append]; show _ + 1 + _ ≤ _; omega) W
  generalize fmtRef nm rg m n = R at hS ⊢
  generalize fmtR m n = fr at *
  generalize vN nm.data.toList = v at V hS
  clear zs
  cases v with
  | false =>
    simp only [Bool.false_eq_true, if_false] at hS
    subst hS
    clear he
    have B0 := hide (Below.refl w.heap.size w)
    go_enter Tryd.func30, Tryd.ntmps30
    go_wp2_with fail
    refine (V.out _).mono ?_
    rintro e w1 ⟨rfl, hb⟩
    have B1 := hide (B0.out.trans (hb.mono B0.out.size))
    clear hb
    go_wp2
    go_ret
    exact ⟨rfl, B1.out⟩
  | true =>
    cases rg with
    | false =>
      simp only [Bool.false_eq_true, if_false, if_true] at hS
      subst hS
      clear he
      have B0 := hide (Below.refl w.heap.size w)
      go_enter Tryd.func30, Tryd.ntmps30
      go_wp2_with fail
      refine (V.out _).mono ?_
      rintro e w1 ⟨rfl, hb⟩
      have B1 := hide (B0.out.trans (hb.mono B0.out.size))
      clear hb
      go_wp2
      go_ret
      exact ⟨rfl, B1.out⟩
    | true =>
      simp only [if_true] at hS
      by_cases h0 : fr = ⟨#[]⟩
      · rw [if_pos h0] at hS
        rw [decide_eq_true h0] at he
        subst hS
        clear h0
        have B0 := hide (Below.refl w.heap.size w)
        go_enter Tryd.func30, Tryd.ntmps30
        go_wp2_with fail
        refine (V.out _).mono ?_
        rintro e w1 ⟨rfl, hb⟩
        have B1 := hide (B0.out.trans (hb.mono B0.out.size))
        clear hb
        go_wp2_with fail
        refine (F.out _ (G.out.below B1.out)).mono ?_
        rintro e w2 ⟨rfl, hb⟩
        have B2 := hide (B1.out.trans (hb.mono B1.out.size))
        clear hb
        go_wp2
        go_ret
        exact ⟨rfl, B2.out⟩
      · rw [if_neg h0] at hS
        rw [decide_eq_false h0] at he
        subst hS
        clear h0
        have B0 := hide (Below.refl w.heap.size w)
        go_enter Tryd.func30, Tryd.ntmps30
        go_wp2_with fail
        refine (V.out _).mono ?_
        rintro e w1 ⟨rfl, hb⟩
        have B1 := hide (B0.out.trans (hb.mono B0.out.size))
        clear hb
        go_wp2_with fail
        refine (F.out _ (G.out.below B1.out)).mono ?_
        rintro e w2 ⟨rfl, hb⟩
        have B2 := hide (B1.out.trans (hb.mono B1.out.size))
        clear hb
        go_wp2
        go_ret
        exact ⟨rfl, B2.out⟩
set_option maxRecDepth 20000 in
set_option maxHeartbeats 8000000 in
theorem refFormatReference_any (nm : ByteArray) (rg : Bool) (m n : Int) (w : World) (hz : nm.size ≤ 900) :
    Calls Tryd.prog 31 #[.string nm, .bool rg, .int .i64 m, .int .i64 n] w fun e w' => e = .returned (.string (fmtRef nm rg m n)) ∧ Below w.heap.size w w' := by
  have V := hide (fun W : World => refValid_any nm W (by omega))
  have F := hide (fun (W : World) => refFormatRange_any m n W)
  have zs := fmtR_size m n
  have he := isEmpty_dec (fmtR m n)
  have hS : fmtRef nm rg m n = if vN nm.data.toList then (if rg then (if fmtR m n = ⟨#[]⟩ then ⟨#[]⟩ else nm ++ ⟨#[32]⟩ ++ fmtR m n) else nm) else ⟨#[]⟩ := rfl
  have d1 := fun W => cat_run (P := Tryd.prog) nm ⟨#[32]⟩ (by show _ + 1 ≤ _; omega) W
  have d2 := fun W => cat_run (P := Tryd.prog) (nm ++ ⟨#[32]⟩) (fmtR m n) (by rw [ByteArray.size_append]; show _ + 1 + _ ≤ _; omega) W
  generalize fmtRef nm rg m n = R at hS ⊢
  generalize fmtR m n = fr at *
  generalize vN nm.data.toList = v at V hS
  clear zs
  cases v with
  | false =>
    simp only [Bool.false_eq_true, if_false] at hS
    subst hS
    clear he
    have B0 := hide (Below.refl w.heap.size w)
    go_enter Tryd.func31, Tryd.ntmps31
    go_wp2_with fail
    refine (V.out _).mono ?_
    rintro e wx ⟨rfl, rfl⟩
    go_wp2
    go_ret
    exact ⟨rfl, B0.out⟩
  | true =>
    cases rg with
    | false =>
      simp only [Bool.false_eq_true, if_false, if_true] at hS
      subst hS
      clear he
      have B0 := hide (Below.refl w.heap.size w)
      go_enter Tryd.func31, Tryd.ntmps31
      go_wp2_with fail
      refine (V.out _).mono ?_
      rintro e wx ⟨rfl, rfl⟩
      go_wp2
      go_ret
      exact ⟨rfl, B0.out⟩
    | true =>
      simp only [if_true] at hS
      by_cases h0 : fr = ⟨#[]⟩
      · rw [if_pos h0] at hS
        rw [decide_eq_true h0] at he
        subst hS
        clear h0
        have B0 := hide (Below.refl w.heap.size w)
        go_enter Tryd.func31, Tryd.ntmps31
        go_wp2_with fail
        refine (V.out _).mono ?_
        rintro e wx ⟨rfl, rfl⟩
        go_wp2_with fail
        refine (F.out _).mono ?_
        rintro e w1 ⟨rfl, hb⟩
        have B1 := hide (B0.out.trans (hb.mono B0.out.size))
        clear hb
        go_wp2
        go_ret
        exact ⟨rfl, B1.out⟩
      · rw [if_neg h0] at hS
        rw [decide_eq_false h0] at he
        subst hS
        clear h0
        have B0 := hide (Below.refl w.heap.size w)
        go_enter Tryd.func31, Tryd.ntmps31
        go_wp2_with fail
        refine (V.out _).mono ?_
        rintro e wx ⟨rfl, rfl⟩
        go_wp2_with fail
        refine (F.out _).mono ?_
        rintro e w1 ⟨rfl, hb⟩
        have B1 := hide (B0.out.trans (hb.mono B0.out.size))
        clear hb
        go_wp2_with fail
        refine (F.out _).mono ?_
        rintro e w2 ⟨rfl, hb⟩
        have B2 := hide (B1.out.trans (hb.mono B1.out.size))
        clear hb
        go_wp2
        go_ret
        exact ⟨rfl, B2.out⟩
end Go.Proofs.YtiibjeiadcmenaaDoor
