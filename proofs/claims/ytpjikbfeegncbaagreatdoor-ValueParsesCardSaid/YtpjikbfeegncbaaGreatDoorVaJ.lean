/- Contracts of strings.ContainsRune at the runes beyond ASCII, and of value's digits. -/
import Derived.Test.YtpjikbfeegncbaaGreatDoorVaI
import Derived.Laws.Runes
import Derived.Laws.RangeAny
set_option linter.unusedVariables false
set_option linter.unusedSimpArgs false
namespace Go.Proofs.YtpjikbfeegncbaaGreatDoor
open Go.RowKit Go.Shelf Go.Sort

def setD : ByteArray := ⟨#[48, 49, 120, 122, 88, 90]⟩
theorem setD_lt : ∀ (i : Nat) (h : i < setD.size), (setD[i]'h).toNat < 128 := by
  intro i h
  have hm : setD[i]'h ∈ setD.data.toList := List.mem_of_getElem? (Lib.data_getElem? setD i h)
  have hall : ∀ b ∈ setD.data.toList, b.toNat < 128 := by decide
  exact hall _ hm
theorem setD_index (a : Nat) (c : UInt8) (hc : 128 ≤ c.toNat) : Lib.indexByte (setD.extract a 6).data.toList c = -1 := by
  rcases Int.lt_or_le (Lib.indexByte (setD.extract a 6).data.toList c) 0 with h | h
  · have := Lib.indexByte_ge (setD.extract a 6).data.toList c; omega
  · exfalso
    have h2 := Lib.indexByte_some (l := (setD.extract a 6).data.toList) (c := c) (o := (Lib.indexByte (setD.extract a 6).data.toList c).toNat) (by omega)
    have hm : c ∈ (setD.extract a 6).data.toList := List.mem_of_getElem? h2.1
    have hm2 := mem_extract hm
    have : ∀ b ∈ setD.data.toList, b.toNat < 128 := by decide
    have := this c hm2
    omega
set_option maxRecDepth 100000 in
set_option maxHeartbeats 8000000 in
theorem indexRune_high (r : Int) (w : World) (h1 : 128 ≤ r) (h2 : r ≤ 2147483647) :
    Calls Tryz.prog 100 #[.string setD, .int .i32 r] w fun e w' => e = .returned (.int .i64 (-1)) ∧ Below w.heap.size w w' := by
  have VR := hide (fun W : World => Tryz.utf8_ValidRune r W)
  have hsz : setD.size = 6 := rfl
  have hg0 : (0 : Int) ≤ r := by omega
  have hg1 : ¬ r < 128 := by omega
  by_cases hbad : r = 65533
  · subst hbad
    have hch := setD_lt
    have Hch := hide hch
    clear hch
    generalize setD = sd at *
    go_enter Tryz.func100, Tryz.ntmps100
    go_wp2
    go_loopw [176] (fun _ wr => ∃ pos : Nat, pos ≤ sd.size ∧ wr = w.iter sd pos) (fun _ wr => sd.size - wr.iterPos w.heap.size)
    case atStart => exact ⟨0, Nat.zero_le _, rfl⟩
    case round =>
      obtain ⟨pos, hp, rfl⟩ := hrel
      by_cases hlt : pos < sd.size
      · have hc := Hch.out pos hlt
        have hdec := decode_ascii sd pos hlt hc
        obtain ⟨c, hcc⟩ : ∃ c, (sd[pos]'hlt).toNat = c := ⟨_, rfl⟩
        rw [hcc] at hdec hc
        have hnx := fun ty => run_next_any (P := Tryz.prog) w sd pos ty hlt
        rw [hdec] at hnx
        simp only at hnx
        have hne : (((c : Nat) : Int) == 65533) = false := beq_eq_false_iff_ne.2 (by omega)
        clear hdec hcc
        go_wp2
        go_roundw
        case rel => exact ⟨pos + 1, hlt, rfl⟩
        case measure => rw [World.iterPos_iter, World.iterPos_iter]; omega
      · have hnx := fun ty => run_next_end (P := Tryz.prog) w sd pos ty hlt
        go_wp2
        go_ret
        exact ⟨rfl, (Below.refl _ _).alloc (Nat.le_refl _) _⟩
  · have hbad' : (r == 65533) = false := beq_eq_false_iff_ne.2 hbad
    cases hv : Lib.validRune r with
    | false =>
      rw [hv] at VR
      clear hv
      generalize setD = sd at *
      go_enter Tryz.func100, Tryz.ntmps100
      go_wp2_with fail
      refine (VR.out _).mono ?_
      rintro e wx ⟨rfl, rfl⟩
      go_wp2
      go_ret
      exact ⟨rfl, Below.refl _ _⟩
    | true =>
      rw [hv] at VR
      have hv2 : Utf8.valid r = true := by
        rw [validRune_eq]
        unfold validRune
        unfold Lib.validRune at hv
        have := of_decide_eq_true hv
        exact decide_eq_true (by omega)
      obtain ⟨en1, en2, en3⟩ := encode_facts r hv2 h1
      obtain ⟨E, hE⟩ : ∃ E, Utf8.encode r = E := ⟨_, rfl⟩
      rw [hE] at en1 en2 en3
      have Hen := hE
      have hlast : E.size - 1 < E.size := by omega
      have hl128 := en3 hlast
      obtain ⟨n, hn⟩ : ∃ n, E.size = n + 1 := ⟨E.size - 1, by omega⟩
      have hnE : n < E.size := by omega
      have hl2 : 128 ≤ (E[n]'hnE).toNat := by
        have e : E.size - 1 = n := by omega
        simp only [e] at hl128
        exact hl128
      have hn6 : n < setD.size := by show n < 6; omega
      have hd128 := setD_lt n hn6
      have hnI : (n : Int) < 6 := by omega
      have hnI2 : (n : Int) ≤ 3 := by omega
      have hn1 : (1 : Int) ≤ (n : Int) := by omega
      have hne : (((setD[n]'hn6).toNat : Int) != ((E[n]'hnE).toNat : Int)) = true := by
        have : ((setD[n]'hn6).toNat : Int) ≠ ((E[n]'hnE).toNat : Int) := by omega
        simpa using this
      have IB := hide (fun W : World => Tryz.strings_IndexByte (setD.extract (n + 1) 6) ((E[n]'hnE).toNat : Int) W)
      rw [show (((E[n]'hnE).toNat : Int)).toNat.toUInt8 = E[n]'hnE by simp, setD_index (n + 1) _ hl2] at IB
      have hlen : (E.size : Int) - 1 = (n : Int) := by omega
      have hEle : (E.size : Int) ≤ 4 := by omega
      have hwr : IntKind.i64.wrap ((n : Int) + 1) = (n : Int) + 1 := IntWalk.i64_in _ (by omega)
      have hp16 : (n : Int) + 1 ≤ 6 := by omega
      have hp10 : (0 : Int) ≤ (n : Int) + 1 := by omega
      have hp1n : ((n : Int) + 1).toNat = n + 1 := by omega
      have hnEI : (n : Int) < (E.size : Int) := by omega
      clear hv hv2 en1 en2 en3 hl128 hlast hd128 hl2 hn
      generalize setD = sd at *
      go_enter Tryz.func100, Tryz.ntmps100
      go_wp2_with fail
      refine (VR.out _).mono ?_
      rintro e wx ⟨rfl, rfl⟩
      go_wp2_with fail
      go_step3
      go_upto_region 2 with fail
      try rw [hE]
      clear hE Hen
      go_wp2_with fail
      go_loopw [9] (fun v wr => v = .int .i64 (n : Int) ∧ wr = wx) (fun _ _ => 0)
      case atStart => exact ⟨by first | rfl | (congr 1; omega), rfl⟩
      case round =>
        obtain ⟨rfl, rfl⟩ := hrel
        go_wp2_with fail
        go_step3
        go_wp2_with fail
        go_quiet (fail)
        go_wp2_with fail
        go_quiet ((exact (IB.out _).mono (fun _ _ h => ⟨h.1, _, h.2⟩)))
        go_wp2
        show bodyPost Tryz.prog Tryz.f100 (fun e w' => e = .returned (.int .i64 (-1)) ∧ Below wr.heap.size wr w') Exit.ret _ _
        go_ret
        exact ⟨rfl, Below_drewN (Below.refl _ _) _⟩
theorem containsRune_high (r : Int) (w : World) (h1 : 128 ≤ r) (h2 : r ≤ 2147483647) :
    Calls Tryz.prog 70 #[.string setD, .int .i32 r] w fun e w' => e = .returned (.bool false) ∧ Below w.heap.size w w' := by
  have IR := hide (fun W : World => indexRune_high r W h1 h2)
  generalize setD = sd at *
  go_enter Tryz.func70, Tryz.ntmps70
  go_wp2_with fail
  refine (IR.out _).mono ?_
  rintro e wx ⟨rfl, hb⟩
  have Hb := hide hb
  clear hb
  go_wp2
  go_ret
  exact ⟨rfl, Hb.out⟩
theorem setD_mem (c : UInt8) : decide (0 ≤ Lib.indexByte setD.data.toList c) = dgB c := by
  have hl : setD.data.toList = [48, 49, 120, 122, 88, 90] := rfl
  rw [hl]
  by_cases h : c = 48 ∨ c = 49 ∨ c = 120 ∨ c = 122 ∨ c = 88 ∨ c = 90
  · rw [dgB_of h]
    rcases h with rfl | rfl | rfl | rfl | rfl | rfl <;> decide
  · have hd : dgB c = false := by
      cases hh : dgB c with
      | false => rfl
      | true => exact absurd (dgB_cases hh) h
    rw [hd]
    refine decide_eq_false ?_
    intro h0
    have h2 := Lib.indexByte_some (l := [48, 49, 120, 122, 88, 90]) (c := c) (o := (Lib.indexByte [48, 49, 120, 122, 88, 90] c).toNat) (by omega)
    have hm : c ∈ ([48, 49, 120, 122, 88, 90] : List UInt8) := List.mem_of_getElem? h2.1
    simp only [List.mem_cons, List.not_mem_nil, or_false] at hm
    exact h hm
theorem dgB_high {c : UInt8} (h : 128 ≤ c.toNat) : dgB c = false := by
  cases hh : dgB c with
  | false => rfl
  | true => rcases dgB_cases hh with rfl | rfl | rfl | rfl | rfl | rfl <;> exact absurd h (by decide)
/-- digits: whether a text is digits of Bits, in either case -/
def digV (l : List UInt8) : Bool := decide (l ≠ []) && l.all dgB
set_option maxRecDepth 20000 in
set_option maxHeartbeats 8000000 in
theorem valDigits_any (l : List UInt8) (w : World) (hz : l.length ≤ 1000000) :
    Calls Tryz.prog 109 #[.string (bsV l)] w fun e w' => e = .returned (.bool (digV l)) ∧ Below w.heap.size w w' := by
  have hsz := bs_size l
  have hget := bs_get l
  have Hget := hide hget
  obtain ⟨R, hR⟩ : ∃ R, digV l = R := ⟨_, rfl⟩
  have HR := hide hR
  rw [hR]
  have hne : (bsV l).toList.isEmpty = decide (l = []) := by
    rw [Lib.toList_data, bsV_list, Bool.eq_iff_iff, decide_eq_true_eq, List.isEmpty_iff]
  have Hne := hide hne
  clear hget hR hne
  go_enter Tryz.func109, Tryz.ntmps109
  go_wp2
  go_loopw [7] (fun _ wr => ∃ pos : Nat, pos ≤ l.length ∧ wr = w.iter (bsV l) pos ∧ (∀ j (hj : j < l.length), j < pos → dgB l[j] = true)) (fun _ wr => l.length - wr.iterPos w.heap.size)
  case atStart => exact ⟨0, Nat.zero_le _, rfl, fun j hj h => absurd h (Nat.not_lt_zero _)⟩
  case round =>
    obtain ⟨pos, hp, rfl, hall⟩ := hrel
    have Hall := hide hall
    clear hall
    by_cases hlt : pos < l.length
    · have hltS : pos < (bsV l).size := by rw [hsz]; exact hlt
      have hg := Hget.out pos hltS
      obtain ⟨c, hc⟩ : ∃ c, l[pos]'hlt = c := ⟨_, rfl⟩
      rw [hc] at hg
      have hbad : dgB c = false → R = false := fun h => by
        rw [← HR.out]; unfold digV
        have : l.all dgB = false := by
          rw [List.all_eq_false]
          exact ⟨c, hc ▸ List.getElem_mem hlt, by rw [h]; decide⟩
        rw [this, Bool.and_false]
      have hnx := fun ty => run_next_any (P := Tryz.prog) w (bsV l) pos ty hltS
      rcases Nat.lt_or_ge c.toNat 128 with h128 | h128
      · have hdec := decode_ascii (bsV l) pos hltS (by rw [hg]; exact h128)
        rw [hg] at hdec
        rw [hdec] at hnx
        simp only at hnx
        have CR := hide (fun W : World => Tryz.strings_ContainsRune_ascii setD ((c.toNat : Nat) : Int) W (by omega) (by omega))
        rw [show (((c.toNat : Nat) : Int)).toNat.toUInt8 = c by simp, setD_mem] at CR
        have hset : setD = ⟨#[48, 49, 120, 122, 88, 90]⟩ := rfl
        rw [hset] at CR
        cases hd : dgB c with
        | true =>
          rw [hd] at CR
          have Hall2 := hide (show ∀ j (hj : j < l.length), j < pos + 1 → dgB l[j] = true from fun j hj h => by
            rcases Nat.lt_or_ge j pos with h1 | h1
            · exact Hall.out j hj h1
            · obtain rfl : j = pos := by omega
              rw [hc]; exact hd)
          clear hd hbad hdec hg hc hset
          go_wp2_with fail
          refine (CR.out _).mono ?_
          rintro e wx ⟨rfl, rfl⟩
          go_wp2
          go_roundw
          case rel => exact ⟨pos + 1, hlt, rfl, Hall2.out⟩
          case measure => rw [World.iterPos_iter, World.iterPos_iter]; omega
        | false =>
          rw [hd] at CR
          have Hb := hide (hbad hd)
          clear hd hbad hdec hg hc hset
          go_wp2_with fail
          refine (CR.out _).mono ?_
          rintro e wx ⟨rfl, rfl⟩
          go_wp2
          go_ret
          exact ⟨ret_b Hb.out, (Below.refl _ _).alloc (Nat.le_refl _) _⟩
      · have hh := decode_high (bsV l) pos hltS (by rw [hg]; exact h128)
        have hle := decode_le (bsV l) pos
        obtain ⟨q, hq⟩ : ∃ q, Utf8.decode (bsV l) pos = q := ⟨_, rfl⟩
        rw [hq] at hh hle hnx
        have CR := hide (fun W : World => containsRune_high ((q.1 : Nat) : Int) W (by omega) (by omega))
        have hset : setD = ⟨#[48, 49, 120, 122, 88, 90]⟩ := rfl
        rw [hset] at CR
        have Hb := hide (hbad (dgB_high h128))
        clear hbad hg hc hset hq
        go_wp2_with fail
        refine (CR.out _).mono ?_
        rintro e wx ⟨rfl, hb⟩
        have HB := hide (((Below.refl w.heap.size w).alloc (Nat.le_refl _) (.stringIter (bsV l) (pos + q.2))).trans (hb.mono (show w.heap.size ≤ (w.alloc (.stringIter (bsV l) (pos + q.2))).heap.size by rw [World.size_alloc]; omega)))
        clear hb
        go_wp2
        go_ret
        exact ⟨ret_b Hb.out, HB.out⟩
    · obtain rfl : pos = l.length := by omega
      have hnx := fun ty => run_next_end (P := Tryz.prog) w (bsV l) l.length ty (by rw [hsz]; omega)
      have hRv : R = decide (l ≠ []) := by
        rw [← HR.out]; unfold digV
        have : l.all dgB = true := by
          rw [List.all_eq_true]
          intro x hx
          obtain ⟨j, hj, rfl⟩ := List.mem_iff_getElem.1 hx
          exact Hall.out j hj hj
        rw [this, Bool.and_true]
      by_cases h0 : l = []
      · have he := Hne.out
        rw [decide_eq_true h0] at he
        have hRf : R = false := by rw [hRv, h0]; rfl
        have hen : (bsV l).toList = [] := List.isEmpty_iff.1 he
        have he' : (!(bsV l).toList.isEmpty) = false := by rw [he]; rfl
        subst hRf
        clear hRv h0
        go_wp2
        go_ret
        exact ⟨rfl, (Below.refl _ _).alloc (Nat.le_refl _) _⟩
      · have he := Hne.out
        rw [decide_eq_false h0] at he
        have hRt : R = true := by rw [hRv]; exact decide_eq_true h0
        have hen : ¬ (bsV l).toList = [] := fun e => by rw [e] at he; cases he
        have he' : (!(bsV l).toList.isEmpty) = true := by rw [he]; rfl
        subst hRt
        clear hRv h0
        go_wp2
        go_ret
        exact ⟨rfl, (Below.refl _ _).alloc (Nat.le_refl _) _⟩
end Go.Proofs.YtpjikbfeegncbaaGreatDoor
