/- Contracts of Reference and FormatReference, of both packages. -/
import Derived.Test.YtiibjeiadcmenaaDoorNmE
import Derived.Test.YtiibjeiadcmenaaDoorNmV
set_option linter.unusedVariables false
set_option linter.unusedSimpArgs false
namespace Go.Proofs.YtiibjeiadcmenaaDoor
open Go.RowKit Go.Shelf Go.Sort

/-- the first place of [, if the name is plain -/
def brk (a : ByteArray) : Option Nat := if 0 ≤ idxI 91 a.data.toList ∧ a.data.toList.head? ≠ some 92 then some (idxI 91 a.data.toList).toNat else none
/-- the name of a reference, the text of its range, and whether it has one -/
def partsS : List ByteArray → Option (ByteArray × ByteArray × Bool)
  | [a] => match brk a with | some k => some (a.extract 0 k, a.extract k a.size, true) | none => some (a, ⟨#[]⟩, false)
  | [a, b] => some (a, b, true)
  | _ => none
def Ref := ByteArray × Bool × Int × Int × Int
/-- what Reference returns, by the parts -/
def refP (p : ByteArray × ByteArray × Bool) : ByteArray × Bool × Int × Int × Int :=
  if vN p.1.data.toList then (if p.2.2 then (if (rangeS p.2.1.data.toList).2.2 = 0 then (p.1, true, (rangeS p.2.1.data.toList).1, (rangeS p.2.1.data.toList).2.1, 0) else (⟨#[]⟩, false, 0, 0, (rangeS p.2.1.data.toList).2.2)) else (p.1, false, 0, 0, 0)) else (⟨#[]⟩, false, 0, 0, 4)
def refS (L : List ByteArray) : ByteArray × Bool × Int × Int × Int := match partsS L with | some p => refP p | none => (⟨#[]⟩, false, 0, 0, 3)
def Ret5 (r : ByteArray × Bool × Int × Int × Int) (B : Nat) (w : World) (e : Ending) (w' : World) : Prop :=
  e = .returned (.tuple #[.string r.1, .bool r.2.1, .int .i64 r.2.2.1, .int .i64 r.2.2.2.1, .int .i64 r.2.2.2.2]) ∧ Below B w w'
theorem range_err (l : List UInt8) : (rangeS l).2.2 = 0 ∨ (rangeS l).2.2 = 2 ∨ (rangeS l).2.2 = 3 := by
  unfold rangeS; split
  · simp
  · split <;> simp
theorem idxI_cons (x : Int) (a : UInt8) (t : List UInt8) : idxI x (a :: t) = if ((a.toNat : Int) == x) = true then 0 else if idxI x t = -1 then -1 else idxI x t + 1 := by
  unfold idxI
  rw [List.findIdx?_cons]
  by_cases h : ((a.toNat : Int) == x) = true
  · rw [if_pos h, if_pos h]; rfl
  · rw [if_neg h, if_neg h]
    cases t.findIdx? (fun c => (c.toNat : Int) == x) with
    | none => rfl
    | some k =>
      show ((k + 1 : Nat) : Int) = if (k : Int) = -1 then -1 else (k : Int) + 1
      rw [if_neg (by omega)]; rfl
theorem indexByte_idxI (l : List UInt8) : Lib.indexByte l 91 = idxI 91 l := by
  induction l with
  | nil => rfl
  | cons a t ih =>
    have e : Lib.indexByte (a :: t) 91 = if (a == 91) = true then 0 else if (Lib.indexByte t 91 == -1) = true then -1 else Lib.indexByte t 91 + 1 := rfl
    rw [e, idxI_cons, ih]
    have h : ((a == 91) = true) = (((a.toNat : Int) == 91) = true) := by
      rw [beq_iff_eq, beq_iff_eq]
      exact propext (u8_eq a 91 (by decide))
    have h2 : ((idxI 91 t == -1) = true) = (idxI 91 t = -1) := by rw [beq_iff_eq]
    simp only [h, h2]
/-- the facts of the first bracket, as a walk reads them -/
theorem brk_some {a : ByteArray} {k : Nat} (h : brk a = some k) : idxI 91 a.data.toList = k ∧ k < a.size ∧ ∀ h0 : 0 < a.size, (((a[0]'h0).toNat : Int) == 92) = false := by
  unfold brk at h
  split at h
  · rename_i hc
    have hk := Option.some.inj h
    rcases idxI_cases 91 a.data.toList with ⟨h1, _⟩ | ⟨k', h1, hk', _⟩
    · rw [h1] at hc; exact absurd hc.1 (by decide)
    · rw [h1] at hk
      obtain rfl : k' = k := by simpa using hk
      refine ⟨h1, by rw [← size_list]; exact hk', fun h0 => beq_eq_false_iff_ne.2 fun e => hc.2 ?_⟩
      rw [hd_at a h0]; congr 1; exact (u8_eq _ 92 (by decide)).2 e
  · cases h
theorem brk_none {a : ByteArray} (h : brk a = none) : idxI 91 a.data.toList < 0 ∨ (0 ≤ idxI 91 a.data.toList ∧ ∃ h0 : 0 < a.size, ((a[0]'h0).toNat : Int) = 92) := by
  unfold brk at h
  split at h
  · cases h
  · rename_i hc
    by_cases h1 : 0 ≤ idxI 91 a.data.toList
    · right
      have h2 : a.data.toList.head? = some 92 := by
        rcases Decidable.em (a.data.toList.head? = some 92) with h | h
        · exact h
        · exact absurd ⟨h1, h⟩ hc
      have h0 : 0 < a.size := by
        rw [← size_list]
        cases hl : a.data.toList with
        | nil => rw [hl] at h2; cases h2
        | cons b t => simp
      refine ⟨h1, h0, ?_⟩
      rw [hd_at a h0] at h2
      exact (u8_eq _ 92 (by decide)).1 (Option.some.inj h2)
    · left; omega

set_option maxRecDepth 20000 in
set_option maxHeartbeats 8000000 in
theorem Reference_any (A : Option Addr) (n cap : Nat) (L : List ByteArray) (w : World) (hn : n = L.length) (hl : L.length ≤ 1099511627776) (hw : Sl Value.string w A L) (hz : ∀ s ∈ L, s.size ≤ 1000000) :
    Calls Tryd.prog 28 #[.slice A n cap] w (Ret5 (refS L) w.heap.size w) := by
  subst hn
  have bad : (L.length = 0 ∨ 2 < L.length) → Calls Tryd.prog 28 #[.slice A L.length cap] w (Ret5 (⟨#[]⟩, false, 0, 0, 3) w.heap.size w) := by
    intro h
    have h' : ((L.length : Int) == 0) = true ∨ (((L.length : Int) == 0) = false ∧ 2 < (L.length : Int)) := by
      rcases h with h | h
      · exact .inl (beq_iff_eq.2 (by omega))
      · exact .inr ⟨beq_eq_false_iff_ne.2 (by omega), by omega⟩
    clear h hz hw
    rcases h' with h | ⟨h1, h2⟩
    all_goals
      go_enter Tryd.func28, Tryd.ntmps28
      go_wp2
      exact bodyPost_ret (v := .tuple #[.string ⟨#[]⟩, .bool false, .int .i64 0, .int .i64 0, .int .i64 3]) (by simp [results, Tryd.results28, go_sem]) rfl ⟨rfl, Below.refl _ _⟩
  by_cases hlen : L.length = 1 ∨ L.length = 2
  · obtain ⟨a, p, hp, hpz, hS, hfirst⟩ : ∃ a p, refS L = refP p ∧ (p.1.size ≤ 1000000 ∧ p.2.1.size ≤ 1000000) ∧ L[0]? = some a ∧
        ((L = [a] ∧ (brk a = none ∧ p = (a, ⟨#[]⟩, false) ∨ ∃ k, brk a = some k ∧ p = (a.extract 0 k, a.extract k a.size, true))) ∨ ∃ b, L = [a, b] ∧ p = (a, b, true)) := by
      match L, hlen with
      | [a], _ =>
        have ha := hz a (by simp)
        cases hb : brk a with
        | none => exact ⟨a, (a, ⟨#[]⟩, false), by simp only [refS, partsS, hb], ⟨ha, Nat.zero_le _⟩, rfl, .inl ⟨rfl, .inl ⟨hb, rfl⟩⟩⟩
        | some k => exact ⟨a, (a.extract 0 k, a.extract k a.size, true), by simp only [refS, partsS, hb], ⟨by simp only [ByteArray.size_extract]; omega, by simp only [ByteArray.size_extract]; omega⟩, rfl, .inl ⟨rfl, .inr ⟨k, hb, rfl⟩⟩⟩
      | [a, b], _ => exact ⟨a, (a, b, true), rfl, ⟨hz a (by simp), hz b (by simp)⟩, rfl, .inr ⟨b, rfl, rfl⟩⟩
      | [], h => simp at h
      | _ :: _ :: _ :: _, h => simp at h
    rw [hp]
    have H0 : 0 < L.length := by omega
    obtain ⟨bA, off, hA, hbz, hat⟩ := hw.at H0
    have hc0 := hat w (Below.refl _ _)
    rw [show L[0]'H0 = a from Option.some.inj (by rw [← hS, List.getElem?_eq_getElem H0])] at hc0
    rw [Nat.add_zero] at hc0
    subst hA
    obtain ⟨nm, text, rg⟩ := p
    simp only at hpz
    have V := hide (fun W : World => Valid_any nm W (by omega))
    have R := hide (fun W : World => Range_any text W hpz.2)
    have hRP : refP (nm, text, rg) = if vN nm.data.toList then (if rg then (if (rangeS text.data.toList).2.2 = 0 then (nm, true, (rangeS text.data.toList).1, (rangeS text.data.toList).2.1, 0) else (⟨#[]⟩, false, 0, 0, (rangeS text.data.toList).2.2)) else (nm, false, 0, 0, 0)) else (⟨#[]⟩, false, 0, 0, 4) := rfl
    generalize refP (nm, text, rg) = RP at hRP ⊢
    have hre := range_err text.data.toList
    generalize rangeS text.data.toList = r at R hRP hre
    obtain ⟨r1, r2, r3⟩ := r
    generalize vN nm.data.toList = v at V hRP
    have HRP := hide hRP
    have HF := hide hfirst
    have I := hide (fun W : World => Tryd.strings_IndexByte a 91 W)
    rw [show ((91 : Int).toNat.toUInt8) = 91 from rfl, indexByte_idxI] at I
    have HAZ := hide (hz a (List.mem_of_getElem? hS))
    have Hat := hide hw
    have l1 : ((L.length : Int) == 0) = false := beq_eq_false_iff_ne.2 (by omega)
    have l2 : (L.length : Int) ≤ 2 := by omega
    have l3 : (0 : Int) < (L.length : Int) := by omega
    clear hRP hfirst hp hpz hS hat bad hlen hw hz hl
    go_enter Tryd.func28, Tryd.ntmps28
    go_upto_region 4 with fail
    go_upto_if 27 with fail
    go_cut [7, 8, 9] (fun v7 v8 v9 wx => v7 = .string nm ∧ v8 = .string text ∧ v9 = .bool rg ∧ ∃ n, wx = w.drewN n)
    case first =>
      rcases HF.out with ⟨hL, ⟨hb, hp⟩ | ⟨k, hb, hp⟩⟩ | ⟨b, hL, hp⟩
      · obtain ⟨q1, q0⟩ := Prod.mk.inj hp
        obtain ⟨q2, q3⟩ := Prod.mk.inj q0
        subst q1 q2 q3
        clear q0
        have l4 : ((L.length : Int) == 2) = false := by rw [hL]; rfl
        have hb2 := brk_none hb
        clear hL hp hb
        go_wp2_with fail
        refine (I.out _).mono ?_
        rintro e w ⟨rfl, rfl⟩
        generalize idxI 91 nm.data.toList = J at hb2 ⊢
        rcases hb2 with h | ⟨h, h0, h92⟩
        · go_wp2_with fail
          go_meet
          exact ⟨rfl, rfl, rfl, 0, rfl⟩
        · have h92' : (((nm[0]'h0).toNat : Int) != 92) = false := by rw [h92]; rfl
          go_wp2_with fail
          go_meet
          exact ⟨rfl, rfl, rfl, 0, rfl⟩
      · obtain ⟨hp1, q0⟩ := Prod.mk.inj hp
        obtain ⟨hp2, q3⟩ := Prod.mk.inj q0
        subst q3
        clear q0
        have l4 : ((L.length : Int) == 2) = false := by rw [hL]; rfl
        obtain ⟨hb1, hb2, hb3⟩ := brk_some hb
        have h0 : 0 < a.size := by omega
        have h92 := hb3 h0
        have h92' : (((a[0]'h0).toNat : Int) != 92) = true := by simp only [bne, h92, Bool.not_false]
        have k1 : (0 : Int) ≤ (k : Int) := by omega
        have k2 : (k : Int) ≤ (a.size : Int) := by omega
        have hz := HAZ.out
        rw [hb1] at I
        have HP1 := hide hp1
        have HP2 := hide hp2
        clear hL hp hp1 hp2 hb hb1 hb2 hb3
        go_wp2_with fail
        refine (I.out _).mono ?_
        rintro e w ⟨rfl, rfl⟩
        go_wp2_with fail
        go_quiet (fail)
        go_wp2_with fail
        go_meet
        exact ⟨by rw [HP1.out], by rw [HP2.out], rfl, _, rfl⟩
      · obtain ⟨q1, q0⟩ := Prod.mk.inj hp
        obtain ⟨q2, q3⟩ := Prod.mk.inj q0
        subst q1 q2 q3
        clear q0
        have l4 : ((L.length : Int) == 2) = true := by rw [hL]; rfl
        have l5 : (1 : Int) < (L.length : Int) := by rw [hL]; simp
        have H1 : 1 < L.length := by rw [hL]; simp
        obtain ⟨bA', off', hA', _, hat'⟩ := Hat.out.at H1
        obtain ⟨rfl, rfl⟩ : bA' = bA ∧ off' = off := by
          have := Option.some.inj hA'
          injection this with h1 h2
          exact ⟨h1.symm, h2.symm⟩
        have hc1 := hat' w (Below.refl _ _)
        have e1 : L[1]'H1 = text := by simp only [hL]; rfl
        rw [e1] at hc1
        clear hL hp hat' hA' e1
        go_wp2_with fail
        go_meet
        exact ⟨rfl, rfl, rfl, 0, rfl⟩
    case rest =>
    obtain ⟨rfl, rfl, rfl, n0, rfl⟩ := hcut
    have B0 := hide (Below_drewN (Below.refl w.heap.size w) n0)
    generalize w.drewN n0 = wd at B0 ⊢
    clear HF I HAZ Hat hc0 l1 l2 l3 H0 hbz
    have hR := HRP.out
    clear HRP
    cases v with
    | false =>
      simp only [Bool.false_eq_true, if_false] at hR
      subst hR
      go_wp2_with fail
      refine (V.out _).mono ?_
      rintro e w1 ⟨rfl, hb⟩
      have B1 := hide (B0.out.trans (hb.mono B0.out.size))
      clear hb
      go_wp2
      exact bodyPost_ret (v := .tuple #[.string ⟨#[]⟩, .bool false, .int .i64 0, .int .i64 0, .int .i64 4]) (by simp [results, Tryd.results28, go_sem]) rfl ⟨rfl, B1.out⟩
    | true =>
      cases rg with
      | false =>
        simp only [Bool.false_eq_true, if_false, if_true] at hR
        subst hR
        go_wp2_with fail
        refine (V.out _).mono ?_
        rintro e w1 ⟨rfl, hb⟩
        have B1 := hide (B0.out.trans (hb.mono B0.out.size))
        clear hb
        go_wp2
        exact bodyPost_ret (v := .tuple #[.string nm, .bool false, .int .i64 0, .int .i64 0, .int .i64 0]) (by simp [results, Tryd.results28, go_sem]) rfl ⟨rfl, B1.out⟩
      | true =>
        simp only [if_true] at hR
        by_cases h0 : r3 = 0
        · subst h0
          simp only [if_true] at hR
          subst hR
          go_wp2_with fail
          refine (V.out _).mono ?_
          rintro e w1 ⟨rfl, hb⟩
          have B1 := hide (B0.out.trans (hb.mono B0.out.size))
          clear hb
          go_wp2_with fail
          refine (R.out _).mono ?_
          rintro e w2 ⟨rfl, hb⟩
          have B2 := hide (B1.out.trans (hb.mono B1.out.size))
          clear hb
          go_wp2
          exact bodyPost_ret (v := .tuple #[.string nm, .bool true, .int .i64 r1, .int .i64 r2, .int .i64 0]) (by simp [results, Tryd.results28, go_sem]) rfl ⟨rfl, B2.out⟩
        · rw [if_neg h0] at hR
          subst hR
          have h0' : (r3 != 0) = true := by simpa using h0
          clear h0 hre
          go_wp2_with fail
          refine (V.out _).mono ?_
          rintro e w1 ⟨rfl, hb⟩
          have B1 := hide (B0.out.trans (hb.mono B0.out.size))
          clear hb
          go_wp2_with fail
          refine (R.out _).mono ?_
          rintro e w2 ⟨rfl, hb⟩
          have B2 := hide (B1.out.trans (hb.mono B1.out.size))
          clear hb
          go_wp2
          exact bodyPost_ret (v := .tuple #[.string ⟨#[]⟩, .bool false, .int .i64 0, .int .i64 0, .int .i64 r3]) (by simp [results, Tryd.results28, go_sem]) rfl ⟨rfl, B2.out⟩
  · have hS : refS L = (⟨#[]⟩, false, 0, 0, 3) := by
      match L, hlen with
      | [], _ => rfl
      | [a], h => simp at h
      | [a, b], h => simp at h
      | _ :: _ :: _ :: _, _ => rfl
    rw [hS]
    exact bad (by omega)
end Go.Proofs.YtiibjeiadcmenaaDoor
