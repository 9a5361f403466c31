/- Contracts of value's parseBits and parseEvent. -/
import Derived.Test.YtpjikbfeegncbaaGreatDoorVaJ
set_option linter.unusedVariables false
set_option linter.unusedSimpArgs false
namespace Go.Proofs.YtpjikbfeegncbaaGreatDoor
open Go.RowKit Go.Shelf Go.Sort

theorem bytesWorld_frozen (w : World) (e : TypeId) (s : ByteArray) (j : Nat) (hj : j < s.size) : (Lib.bytesWorld w e s).frozen? ⟨w.heap.size, j, none⟩ = false := by
  have h := Lib.bytesWorld_at_new w e s
  have hc := Lib.bytesWorld_cell w e s j hj
  have hlt : j < (Lib.bytesCells w e s).size := by
    rcases Nat.lt_or_ge j (Lib.bytesCells w e s).size with h1 | h1
    · exact h1
    · simp [World.cell?, h, Array.getElem?_eq_none h1] at hc
  simp [World.frozen?, h]
  omega
/-- a text with its letters in lower case, so far -/
def mixL (l : List UInt8) (i : Nat) : List UInt8 := (l.take i).map lowC ++ l.drop i
theorem mixL_len (l : List UInt8) (i : Nat) : (mixL l i).length = l.length := by
  unfold mixL; rw [List.length_append, List.length_map, List.length_take, List.length_drop]; omega
theorem mixL_get (l : List UInt8) (i j : Nat) (hj : j < l.length) : (mixL l i)[j]'(by rw [mixL_len]; exact hj) = if j < i then lowC l[j] else l[j] := by
  unfold mixL
  by_cases h : j < i
  · rw [if_pos h, List.getElem_append_left (by rw [List.length_map, List.length_take]; omega), List.getElem_map, List.getElem_take]
  · rw [if_neg h, List.getElem_append_right (by rw [List.length_map, List.length_take]; omega), List.getElem_drop]
    congr 1
    rw [List.length_map, List.length_take]; omega
set_option maxRecDepth 20000 in
set_option maxHeartbeats 8000000 in
theorem parseBits_any (n : Int) (l : List UInt8) (w : World) (hz : l.length ≤ 1000000) (h1 : 1 ≤ n) (h2 : n ≤ 128) :
    Calls Tryz.prog 81 #[.int .i64 n, .string (bsV l)] w fun e w' => e = .returned (.tuple #[.string (bsV (bitsV n l).1), .int .i64 (bitsV n l).2]) ∧ Below w.heap.size w w' := by
  have D := hide (fun W : World => valDigits_any l W hz)
  have hsz := bs_size l
  cases hd : digV l with
  | false =>
    rw [hd] at D
    have hR : bitsV n l = ([], 3) := by
      unfold bitsV extendV
      rw [if_neg (by omega), if_pos]
      unfold digV at hd
      by_cases h0 : l = []
      · left; rw [h0]; rfl
      · right
        rw [decide_eq_true h0, Bool.true_and] at hd
        rw [all_low]; exact hd
    rw [hR]
    clear hR hd
    go_enter Tryz.func81, Tryz.ntmps81
    go_wp2_with fail
    refine (D.out _).mono ?_
    rintro e wx ⟨rfl, hb⟩
    have Hb := hide hb
    clear hb
    go_wp2
    go_ret2
    exact ⟨rfl, Hb.out⟩
  | true =>
    rw [hd] at D
    have hd2 := hd
    unfold digV at hd2
    rw [Bool.and_eq_true, decide_eq_true_eq] at hd2
    by_cases hlong : n < l.length
    · have hR : bitsV n l = ([], 8) := by
        unfold bitsV extendV
        rw [if_neg (by omega), if_neg, if_pos (by rw [List.length_map]; exact hlong)]
        rintro (h | h)
        · exact hd2.1 (List.map_eq_nil_iff.1 h)
        · rw [all_low, hd2.2] at h; cases h
      rw [hR]
      have hI : n < ((bsV l).size : Int) := by rw [hsz]; exact hlong
      clear hR hd hd2
      go_enter Tryz.func81, Tryz.ntmps81
      go_wp2_with fail
      refine (D.out _).mono ?_
      rintro e wx ⟨rfl, hb⟩
      have Hb := hide hb
      clear hb
      go_wp2
      go_ret2
      exact ⟨rfl, Hb.out⟩
    · have hI : ¬ n < ((bsV l).size : Int) := by rw [hsz]; exact hlong
      have EX := hide (fun W : World => bvExtend_any n (bsV (l.map lowC)) W (by rw [bs_size, List.length_map]; exact hz))
      have hlist : (bsV (l.map lowC)).data.toList = l.map lowC := bsV_list _
      rw [hlist] at EX
      have hbv : bitsV n l = extendV n (l.map lowC) := rfl
      rw [← hbv] at EX
      obtain ⟨R, hR⟩ : ∃ R, bitsV n l = R := ⟨_, rfl⟩
      rw [hR] at EX ⊢
      have hlen0 : 0 < l.length := List.length_pos_iff.2 hd2.1
      clear hR hd hd2 hlist hbv
      go_enter Tryz.func81, Tryz.ntmps81
      go_wp2_with fail
      refine (D.out _).mono ?_
      rintro e w1 ⟨rfl, hb⟩
      have Hb := hide hb
      clear hb
      have hcv := Lib.run_convert_string_bytes (P := Tryz.prog) w1 9 60 5 (bsV l) Tryz.underlying9 Tryz.underlying60 Tryz.underlying5
      have hW0 : Below w1.heap.size w1 (Lib.bytesWorld w1 5 (bsV l)) := ⟨rfl, rfl, rfl, by rw [Lib.bytesWorld_size]; omega, fun k hk => Lib.bytesWorld_at_old w1 _ _ k hk⟩
      have hWc : ∀ j, ∀ hj : j < l.length, (Lib.bytesWorld w1 5 (bsV l)).cell? ⟨w1.heap.size, j, none⟩ = some (by8 ((mixL l 0)[j]'(by rw [mixL_len]; exact hj))) := fun j hj => by
        rw [Lib.bytesWorld_cell w1 _ (bsV l) j (by omega), List.getD_eq_getElem?_getD, bsV_list, List.getElem?_eq_getElem hj, mixL_get l 0 j hj]; rfl
      have hWf : ∀ j, ∀ hj : j < l.length, (Lib.bytesWorld w1 5 (bsV l)).frozen? ⟨w1.heap.size, j, none⟩ = false := fun j hj => bytesWorld_frozen w1 _ _ j (by omega)
      generalize Lib.bytesWorld w1 5 (bsV l) = wB at hcv hW0 hWc hWf
      have HWc := hide hWc
      have HWf := hide hWf
      have HW0 := hide hW0
      clear hWc hWf hW0
      go_wp2
      clear hcv
      go_loopw [22] (fun v wr => ∃ i : Nat, v = .int .i64 i ∧ i ≤ l.length ∧ (∀ j, ∀ hj : j < l.length, wr.cell? ⟨w1.heap.size, j, none⟩ = some (by8 ((mixL l i)[j]'(by rw [mixL_len]; exact hj)))) ∧ (∀ j, ∀ hj : j < l.length, wr.frozen? ⟨w1.heap.size, j, none⟩ = false) ∧ Below w1.heap.size w1 wr) (fun v _ => l.length - (intOf v).toNat)
      case atStart => exact ⟨0, rfl, Nat.zero_le _, HWc.out, HWf.out, HW0.out⟩
      case round =>
        obtain ⟨i, rfl, hi, hc, hf, hbl⟩ := hrel
        have Hc := hide hc
        have Hf := hide hf
        have Hbl := hide hbl
        clear hc hf hbl
        by_cases hlt : i < l.length
        · have hcell := Hc.out i hlt
          have hfz := Hf.out i hlt
          have hmi := mixL_get l i i hlt
          rw [if_neg (Nat.lt_irrefl _)] at hmi
          rw [hmi] at hcell
          obtain ⟨c, hcc⟩ : ∃ c, l[i]'hlt = c := ⟨_, rfl⟩
          rw [hcc] at hcell
          unfold by8 at hcell
          have hnext : ∀ (W : World), (∀ j, ∀ hj : j < l.length, W.cell? ⟨w1.heap.size, j, none⟩ = some (by8 (if j = i then lowC c else (mixL l i)[j]'(by rw [mixL_len]; exact hj)))) → ∀ j, ∀ hj : j < l.length, W.cell? ⟨w1.heap.size, j, none⟩ = some (by8 ((mixL l (i + 1))[j]'(by rw [mixL_len]; exact hj))) := fun W h j hj => by
            rw [h j hj, mixL_get l (i + 1) j hj, mixL_get l i j hj]
            congr 2
            by_cases hji : j = i
            · subst hji; rw [if_pos rfl, if_pos (Nat.lt_succ_self _), hcc]
            · rw [if_neg hji]
              by_cases hlt2 : j < i
              · rw [if_pos hlt2, if_pos (by omega)]
              · rw [if_neg hlt2, if_neg (by omega)]
          have Hnext := hide hnext
          have Hset := hide (fun (v : UInt8) => (show ∀ j, ∀ hj : j < l.length, (wr.setCell ⟨w1.heap.size, i, none⟩ (.int .u8 (v.toNat : Int))).cell? ⟨w1.heap.size, j, none⟩ = some (by8 (if j = i then v else (mixL l i)[j]'(by rw [mixL_len]; exact hj))) from fun j hj => by
            by_cases hji : j = i
            · subst hji; rw [if_pos rfl]; exact World.cell?_setCell_same _ _ _ hcell
            · rw [if_neg hji, World.cell?_setCell_other _ _ _ _ (fun e => hji (by injection e with _ e2 _; exact e2.symm))]; exact Hc.out j hj))
          clear hmi hnext hcc
          by_cases hX : c = 88
          · subst hX
            go_wp2
            go_roundw
            case rel => exact ⟨i + 1, by go_num, by omega, Hnext.out _ (Hset.out 120), fun j hj => by rw [World.frozen?_setCell]; exact Hf.out j hj, Hbl.out.setCell (p := ⟨w1.heap.size, i, none⟩) (Nat.le_refl _) _⟩
            case measure => simp [intOf]; omega
          · by_cases hZ : c = 90
            · subst hZ
              go_wp2
              go_roundw
              case rel => exact ⟨i + 1, by go_num, by omega, Hnext.out _ (Hset.out 122), fun j hj => by rw [World.frozen?_setCell]; exact Hf.out j hj, Hbl.out.setCell (p := ⟨w1.heap.size, i, none⟩) (Nat.le_refl _) _⟩
              case measure => simp [intOf]; omega
            · have e1 : ((c.toNat : Int) == 88) = false := beq_eq_false_iff_ne.2 (fun e => hX ((u8i c 88).1 e))
              have e2 : ((c.toNat : Int) == 90) = false := beq_eq_false_iff_ne.2 (fun e => hZ ((u8i c 90).1 e))
              have hlow : lowC c = c := by unfold lowC; rw [if_neg hX, if_neg hZ]
              have Hsame := hide (Hnext.out wr (fun j hj => by
                rw [Hc.out j hj]
                by_cases hji : j = i
                · subst hji
                  rw [if_pos rfl, hlow]
                  have := Hc.out j hj
                  rw [hcell] at this
                  exact congrArg some (Option.some.inj this).symm
                · rw [if_neg hji]))
              clear hX hZ hlow Hset
              go_wp2
              go_roundw
              case rel => exact ⟨i + 1, by go_num, by omega, Hsame.out, Hf.out, Hbl.out⟩
              case measure => simp [intOf]; omega
        · obtain rfl : i = l.length := by omega
          have hmix : mixL l l.length = l.map lowC := by unfold mixL; rw [List.take_length, List.drop_length, List.append_nil]
          have hml : (l.map lowC).length = l.length := List.length_map _
          have hsl : Sl by8 wr (some ⟨w1.heap.size, 0, none⟩) (l.map lowC) := fun hp => ⟨w1.heap.size, 0, rfl, fun j hj => by
            rw [Nat.zero_add, Hc.out j (by rw [← hml]; exact hj)]
            simp only [hmix]⟩
          have hcv2 := fun cap => conv_sl cap hsl (by rw [hml]; exact hlen0)
          rw [hml] at hcv2
          clear hmix hml hsl
          go_wp2_with fail
          refine (EX.out _).mono ?_
          rintro e w9 ⟨rfl, hb⟩
          have HB := hide (Hb.out.trans ((Hbl.out.mono Hb.out.size).trans (hb.mono (Nat.le_trans Hb.out.size Hbl.out.size))))
          clear hb
          go_wp2
          go_ret2
          exact ⟨rfl, HB.out⟩
set_option maxRecDepth 20000 in
set_option maxHeartbeats 4000000 in
theorem parseEvent_any (n : Int) (l : List UInt8) (w : World) (hz : l.length ≤ 1000000) :
    Calls Tryz.prog 94 #[.int .i64 n, .string (bsV l)] w fun e w' => e = .returned (.tuple #[.string ⟨#[]⟩, .int .i64 (if l.length = 1 ∧ l.all dgB = true then 0 else 3)]) ∧ Below w.heap.size w w' := by
  have D := hide (fun W : World => valDigits_any l W hz)
  have hsz := bs_size l
  by_cases h1 : l.length = 1
  · have hI : (((bsV l).size : Int) != 1) = false := by rw [hsz, h1]; rfl
    have hne : l ≠ [] := fun e => by rw [e] at h1; cases h1
    have hdv : digV l = l.all dgB := by unfold digV; rw [decide_eq_true hne, Bool.true_and]
    rw [hdv] at D
    cases hd : l.all dgB with
    | true =>
      rw [hd] at D
      rw [if_pos ⟨h1, rfl⟩]
      clear hd hdv hne h1 hsz
      go_enter Tryz.func94, Tryz.ntmps94
      go_wp2_with fail
      refine (D.out _).mono ?_
      rintro e wx ⟨rfl, hb⟩
      have Hb := hide hb
      clear hb
      go_wp2
      go_ret2
      exact ⟨rfl, Hb.out⟩
    | false =>
      rw [hd] at D
      rw [if_neg (fun h => by cases h.2)]
      clear hd hdv hne h1 hsz
      go_enter Tryz.func94, Tryz.ntmps94
      go_wp2_with fail
      refine (D.out _).mono ?_
      rintro e wx ⟨rfl, hb⟩
      have Hb := hide hb
      clear hb
      go_wp2
      go_ret2
      exact ⟨rfl, Hb.out⟩
  · have hI : (((bsV l).size : Int) != 1) = true := by
      rw [hsz]
      have : (l.length : Int) ≠ 1 := by omega
      simpa using this
    rw [if_neg (fun h => h1 h.1)]
    clear h1 hsz
    go_enter Tryz.func94, Tryz.ntmps94
    go_wp2
    go_ret2
    exact ⟨rfl, Below.refl _ _⟩
end Go.Proofs.YtpjikbfeegncbaaGreatDoor
