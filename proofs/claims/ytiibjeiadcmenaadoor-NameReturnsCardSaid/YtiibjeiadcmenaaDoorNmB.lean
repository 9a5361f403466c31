/- Contracts of the scanner of package name: take, number; Range. -/
import Derived.Test.YtiibjeiadcmenaaDoorNmA
import Derived.Deep.DeepCutAuto
import Derived.Deep.CutBlock
set_option linter.unusedVariables false
namespace Go.Proofs.YtiibjeiadcmenaaDoor
open Go.RowKit Go.Shelf Go.Sort

def bstr (l : List UInt8) : ByteArray := ⟨l.toArray⟩
theorem bstr_list (s : ByteArray) : bstr s.data.toList = s := rfl
theorem list_bstr (l : List UInt8) : (bstr l).data.toList = l := rfl
abbrev SC (w : World) (b : Nat) (l : List UInt8) : Prop := Row w b 53 #[.string (bstr l)]

set_option maxHeartbeats 2000000 in
theorem take_any (b : Nat) (l p : List UInt8) (w : World) (hr : SC w b l) :
    Calls Tryd.prog 38 #[.pointer (some ⟨b, 0, none⟩), .string (bstr p)] w fun e w' => e = .returned (.bool (takeS l p).1) ∧ SC w' b (takeS l p).2 ∧ Keeps (fun c => c = b) w w' := by
  have hc : w.cell? ⟨b, 0, none⟩ = some (.string (bstr l)) := hr.cell 0
  have hf : w.frozen? ⟨b, 0, none⟩ = false := hr.frozen 0
  have T := hide (fun W : World => Tryd.strings_CutPrefix (bstr l) (bstr p) W)
  rw [list_bstr, list_bstr, takeS_eq] at *
  have Hr := hide hr
  clear hr
  generalize hx : bstr l = x at *
  generalize hy : bstr p = y at *
  generalize hz : Lib.trimPrefix l p = z at *
  generalize Lib.hasPrefix l p = q at *
  clear hx hy hz
  go_enter Tryd.func38, Tryd.ntmps38
  go_wp2_with fail
  refine (T.out _).mono ?_
  rintro e w1 ⟨rfl, rfl⟩
  go_wp2
  go_ret
  exact ⟨rfl, Hr.out.set_ 0 _, (Keeps.refl (fun c => c = b) _).set (.inl rfl) 0 _⟩

theorem atoi_any (ds : ByteArray) (N : Nat) (hN : ds.size = N) (hd : ∀ j (h : j < ds.data.toList.length), isD ds.data.toList[j] = true) (h1 : 1 ≤ N) (h2 : N ≤ 18) (w : World) :
    Calls Tryd.prog 53 #[.string ds] w fun e w' => e = .returned (.tuple #[.int .i64 (dv ds.data.toList : Nat), .nilIface]) ∧ Below w.heap.size w w' := by
  have hl := size_list ds
  refine (Tryd.strconv_Atoi ds (dv ds.data.toList : Nat) (by omega) ?_ w).mono ?_
  · have := atoi_dv ds.data.toList N (fun j h _ => hd j h) (by omega) h1
    rwa [List.take_of_length_le (by omega)] at this
  · rintro e w' ⟨rfl, t, rfl⟩
    exact ⟨rfl, rfl, rfl, rfl, by rw [Lib.bytesWorld_size]; omega, fun k hk => Lib.bytesWorld_at_old w _ _ k hk⟩

theorem nd_bytes (r : ByteArray) : nd r.data.toList ≤ r.size ∧ (∀ j (h : j < r.size), j < nd r.data.toList → 48 ≤ (r[j]'h).toNat ∧ (r[j]'h).toNat ≤ 57) ∧ (∀ h : nd r.data.toList < r.size, ¬ (48 ≤ (r[nd r.data.toList]'h).toNat ∧ (r[nd r.data.toList]'h).toNat ≤ 57)) := by
  have hsz := size_list r
  refine ⟨hsz ▸ nd_le _, fun j h hj => ?_, fun h => ?_⟩
  · have := nd_in r.data.toList j (by omega) hj
    rw [Array.getElem_toList] at this
    simp only [isD, decide_eq_true_eq] at this
    exact this
  · have := nd_end r.data.toList (by omega)
    simp only [isD, decide_eq_false_iff_not] at this
    rw [Array.getElem_toList] at this
    exact this

set_option maxRecDepth 20000 in
set_option maxHeartbeats 8000000 in
theorem number_any (b : Nat) (l : List UInt8) (w : World) (hr : SC w b l) (hz : l.length ≤ 1000000) :
    Calls Tryd.prog 39 #[.pointer (some ⟨b, 0, none⟩)] w fun e w' => e = .returned (.tuple #[.int .i64 (numS l).1, .bool (numS l).2.1]) ∧ SC w' b (numS l).2.2 ∧ Keeps (fun c => c = b) w w' := by
  have T := hide (take_any b l [45] w hr)
  have hS : numS l = if badD (takeS l [45]).2 (takeS l [45]).1 then (0, false, (takeS l [45]).2.drop (nd (takeS l [45]).2))
    else ((if (takeS l [45]).1 then -((dv ((takeS l [45]).2.take (nd (takeS l [45]).2)) : Nat) : Int) else ((dv ((takeS l [45]).2.take (nd (takeS l [45]).2)) : Nat) : Int)), true, (takeS l [45]).2.drop (nd (takeS l [45]).2)) := rfl
  have hz2 : (takeS l [45]).2.length ≤ 1000000 := by
    rw [takeS_one]; split
    · rw [List.length_tail]; omega
    · exact hz
  generalize numS l = NR at hS ⊢
  generalize takeS l [45] = tk at T hS hz2
  obtain ⟨neg, l1⟩ := tk
  simp only at hS hz2
  clear hr hz
  obtain ⟨r, rfl⟩ : ∃ r : ByteArray, l1 = r.data.toList := ⟨bstr l1, rfl⟩
  obtain ⟨n1, n2, n3⟩ := nd_bytes r
  have hin := nd_in r.data.toList
  have hlen := size_list r
  have hz3 : r.size ≤ 1000000 := by omega
  obtain ⟨N, hN⟩ : ∃ N, nd r.data.toList = N := ⟨_, rfl⟩
  rw [hN] at n1 n2 hS hin
  have N3 : Hid (∀ h : N < r.size, ¬ (48 ≤ (r[N]'h).toNat ∧ (r[N]'h).toNat ≤ 57)) := hide (by subst hN; exact n3)
  have N2 := hide n2
  have Hin := hide hin
  have HS := hide hS
  have HN := hide hN
  clear n2 n3 hin hS hN hlen hz2
  go_enter Tryd.func39, Tryd.ntmps39
  go_wp2_with fail
  refine T.out.mono ?_
  rintro e w1 ⟨rfl, hrow, hk⟩
  have hc : w1.cell? ⟨b, 0, none⟩ = some (.string r) := hrow.cell 0
  have hf : w1.frozen? ⟨b, 0, none⟩ = false := hrow.frozen 0
  have Hrow := hide hrow
  have HK := hide hk
  clear hrow hk
  go_upto_block 0 with fail
  go_cut [5] (fun v wx => v = .int .i64 N ∧ wx = w1)
  case first =>
    go_wp2_with fail
    go_loop [5] (fun v => ∃ k : Nat, v = .int .i64 k ∧ k ≤ N) (fun v => N - (intOf v).toNat)
    case atStart => exact ⟨0, rfl, Nat.zero_le _⟩
    case round =>
      obtain ⟨k, rfl, hk⟩ := hrel
      by_cases hlt : k < N
      · have hks : k < r.size := by omega
        have hd := N2.out k hks hlt
        have hks' : (k : Int) < (r.size : Int) := by omega
        have hd1 : (48 : Int) ≤ ((r[k]'hks).toNat : Int) := by omega
        have hd2 : ((r[k]'hks).toNat : Int) ≤ 57 := by omega
        go_wp2
        go_round
        case rel => exact ⟨k + 1, by go_num, by omega⟩
        case measure => simp [intOf]; omega
      · obtain rfl : k = N := Nat.le_antisymm hk (Nat.le_of_not_lt hlt)
        have EX : (¬ (k : Int) < (r.size : Int)) ∨ (∃ h : k < r.size, (k : Int) < (r.size : Int) ∧ ((r[k]'h).toNat : Int) < 48) ∨ (∃ h : k < r.size, (k : Int) < (r.size : Int) ∧ (48 : Int) ≤ ((r[k]'h).toNat : Int) ∧ (57 : Int) < ((r[k]'h).toNat : Int)) := by
          by_cases h : k < r.size
          · have := N3.out h
            by_cases h2 : 48 ≤ (r[k]'h).toNat
            · exact .inr (.inr ⟨h, by omega, by omega, by omega⟩)
            · exact .inr (.inl ⟨h, by omega, by omega⟩)
          · exact .inl (by omega)
        rcases EX with e1 | ⟨h1, e1, e2⟩ | ⟨h1, e1, e2, e3⟩
        all_goals (go_wp2_with fail; go_meet; exact ⟨rfl, rfl⟩)
  case rest =>
    obtain ⟨rfl, rfl⟩ := hcut
    have ks : (N : Int) ≤ (r.size : Int) := by omega
    have hrest : (bstr (r.data.toList.drop N)) = r.extract N r.size := by
      apply Go.WideShapes.bytes_inj
      rw [list_bstr, Lib.extract_to_end]
    have hbad : badD r.data.toList neg = decide (N < 1 ∨ 9 < N ∨ (r.data.toList.head? = some 48 ∧ (1 < N ∨ neg = true))) := by
      unfold badD; rw [HN.out]
    have Hrest := hide hrest
    clear hrest
    by_cases a1 : N < 1
    · have hS := HS.out
      rw [hbad, decide_eq_true (.inl a1), if_pos rfl] at hS
      have hS2 := hide hS
      clear hS hbad
      go_wp2
      go_ret2
      exact ⟨by rw [hS2.out]; rfl, by rw [hS2.out]; show Row _ _ _ #[.string (bstr _)]; rw [Hrest.out]; exact Hrow.out.set_ 0 _, HK.out.set (.inl rfl) 0 _⟩
    by_cases a2 : 9 < N
    · have hS := HS.out
      rw [hbad, decide_eq_true (.inr (.inl a2)), if_pos rfl] at hS
      have hS2 := hide hS
      clear hS hbad
      go_wp2
      go_ret2
      exact ⟨by rw [hS2.out]; rfl, by rw [hS2.out]; show Row _ _ _ #[.string (bstr _)]; rw [Hrest.out]; exact Hrow.out.set_ 0 _, HK.out.set (.inl rfl) 0 _⟩
    have z0 : 0 < r.size := by omega
    obtain ⟨ds, hds⟩ : ∃ ds, r.extract 0 N = ds := ⟨_, rfl⟩
    have dz : ds.size = N := by rw [← hds, ByteArray.size_extract]; omega
    have dl : ds.data.toList = r.data.toList.take N := by rw [← hds]; exact Lib.extract_from_zero r N
    have d0 : 0 < ds.size := by omega
    have dh : r.data.toList.head? = some (ds[0]'d0) := by
      rw [hd_at r z0]
      have h1 := hd_at ds d0
      rw [dl, List.head?_take, if_neg (by omega), hd_at r z0] at h1
      exact h1
    have AT := hide (fun W : World => atoi_any ds N dz (fun j h => by
      simp only [dl] at h ⊢
      rw [List.getElem_take]
      exact Hin.out j (by rw [List.length_take] at h; omega) (by rw [List.length_take] at h; omega)) (by omega) (by omega) W)
    rw [dl] at AT
    have Hds := hide hds
    have hnb := dv_lt r.data.toList N (fun j h hj => Hin.out j h hj) (by rw [size_list]; exact n1)
    have hnb2 : dv (r.data.toList.take N) < 1000000000 := by
      have h2 := Nat.pow_le_pow_right (n := 10) (by decide) (show N ≤ 9 by omega)
      have e : (10 : Nat) ^ 9 = 1000000000 := by decide
      omega
    have HNB := hide hnb2
    have hn0 : (0 : Int) ≤ ((dv (r.data.toList.take N) : Nat) : Int) := by omega
    have hn1 : ((dv (r.data.toList.take N) : Nat) : Int) ≤ 1000000000 := by omega
    clear hnb hnb2 hds
    by_cases a3 : ds[0]'d0 = 48 ∧ (1 < N ∨ neg = true)
    · have hS := HS.out
      rw [hbad, decide_eq_true (.inr (.inr ⟨by rw [dh, a3.1], a3.2⟩)), if_pos rfl] at hS
      have hS2 := hide hS
      have m1 : ((ds[0]'d0).toNat : Int) = 48 := by rw [a3.1]; rfl
      have m2 : (1 : Int) < (N : Int) ∨ (¬ (1 : Int) < (N : Int) ∧ neg = true) := by
        by_cases h : 1 < N
        · exact .inl (by omega)
        · exact .inr ⟨by omega, a3.2.resolve_left h⟩
      clear hS hbad a3 dh dl
      generalize dv (r.data.toList.take N) = num at *
      go_upto_region 6 with fail
      rw [Hds.out]
      rcases m2 with m2 | ⟨m2, rfl⟩
      all_goals
        go_wp2
        go_ret2
        exact ⟨by rw [hS2.out]; rfl, by rw [hS2.out]; show Row _ _ _ #[.string (bstr _)]; rw [Hrest.out]; exact Hrow.out.set_ 0 _, HK.out.set (.inl rfl) 0 _⟩
    · have hS := HS.out
      rw [hbad, decide_eq_false (fun h => h.elim a1 fun h => h.elim a2 fun h => a3 ⟨Option.some.inj (dh.symm.trans h.1), h.2⟩), if_neg Bool.false_ne_true] at hS
      have hS2 := hide hS
      have m : ((((ds[0]'d0).toNat : Int) == 48) = false) ∨ (((ds[0]'d0).toNat : Int) = 48 ∧ ¬ (1 : Int) < (N : Int) ∧ neg = false) := by
        by_cases h : ds[0]'d0 = 48
        · refine .inr ⟨by rw [h]; rfl, by have : ¬ 1 < N := fun h' => a3 ⟨h, .inl h'⟩
                                          omega, ?_⟩
          cases neg with
          | false => rfl
          | true => exact absurd ⟨h, .inr rfl⟩ a3
        · exact .inl (beq_eq_false_iff_ne.2 fun e => h (UInt8.toNat_inj.1 (by have : ((48 : UInt8).toNat : Int) = 48 := rfl; omega)))
      clear hS hbad a3 dh dl
      generalize ((dv (r.data.toList.take N) : Nat) : Int) = num at AT hS2 hn0 hn1
      have hw1 : IntKind.i64.wrap (-num) = -num := IntWalk.i64_in _ (by omega)
      go_upto_region 6 with fail
      rw [Hds.out]
      rcases m with m | ⟨m, m2, rfl⟩
      · cases neg with
        | true =>
          go_wp2_with fail
          refine (AT.out _).mono ?_
          rintro e w2 ⟨rfl, hb⟩
          have HB := hide hb
          clear hb
          go_wp2
          go_ret2
          exact ⟨by rw [hS2.out]; rfl, by rw [hS2.out]; show Row _ _ _ #[.string (bstr _)]; rw [Hrest.out]; exact (Hrow.out.set_ 0 _).below HB.out (Hrow.out.set_ 0 _).lt, (HK.out.set (.inl rfl) 0 _).trans (Keeps.of_below HB.out (Nat.le_refl _))⟩
        | false =>
          go_wp2_with fail
          refine (AT.out _).mono ?_
          rintro e w2 ⟨rfl, hb⟩
          have HB := hide hb
          clear hb
          go_wp2
          go_ret2
          exact ⟨by rw [hS2.out]; rfl, by rw [hS2.out]; show Row _ _ _ #[.string (bstr _)]; rw [Hrest.out]; exact (Hrow.out.set_ 0 _).below HB.out (Hrow.out.set_ 0 _).lt, (HK.out.set (.inl rfl) 0 _).trans (Keeps.of_below HB.out (Nat.le_refl _))⟩
      · go_wp2_with fail
        refine (AT.out _).mono ?_
        rintro e w2 ⟨rfl, hb⟩
        have HB := hide hb
        clear hb
        go_wp2
        go_ret2
        exact ⟨by rw [hS2.out]; rfl, by rw [hS2.out]; show Row _ _ _ #[.string (bstr _)]; rw [Hrest.out]; exact (Hrow.out.set_ 0 _).below HB.out (Hrow.out.set_ 0 _).lt, (HK.out.set (.inl rfl) 0 _).trans (Keeps.of_below HB.out (Nat.le_refl _))⟩
end Go.Proofs.YtiibjeiadcmenaaDoor
