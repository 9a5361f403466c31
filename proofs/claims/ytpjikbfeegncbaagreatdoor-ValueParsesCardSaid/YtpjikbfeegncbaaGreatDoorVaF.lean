/- Contracts of the closures of decimal.scan. -/
import Derived.Test.YtpjikbfeegncbaaGreatDoorVaE
set_option linter.unusedVariables false
set_option linter.unusedSimpArgs false
namespace Go.Proofs.YtpjikbfeegncbaaGreatDoor
open Go.RowKit Go.Shelf Go.Sort

/-- where the scanner of a text stands -/
structure At (W : World) (pa ps : Nat) (k : Nat) (l : List UInt8) : Prop where
  pos : Row W pa 3 #[.int .i64 (k : Nat)]
  txt : Row W ps 9 #[.string (bsV l)]
theorem At.keep {W W' : World} {pa ps k : Nat} {l : List UInt8} (h : At W pa ps k l) {C : Nat → Prop} (hk : Keeps C W W') (h1 : ¬ C pa) (h2 : ¬ C ps) : At W' pa ps k l := ⟨h.pos.keep hk h1, h.txt.keep hk h2⟩
theorem At.drewN {W : World} {pa ps k : Nat} {l : List UInt8} (h : At W pa ps k l) (n : Nat) : At (W.drewN n) pa ps k l := ⟨h.pos.drewN n, h.txt.drewN n⟩
/-- whether the next byte is one of some -/
def oneB (set : List UInt8) (r : List UInt8) : Bool := match r.head? with | some c => set.contains c | none => false
set_option maxRecDepth 20000 in
set_option maxHeartbeats 8000000 in
theorem one_any (set l : List UInt8) (pa ps k : Nat) (w : World) (hne : pa ≠ ps) (hz : set.length ≤ 8) (hl : l.length ≤ 1000000) (hk : k ≤ l.length) (ha : At w pa ps k l) :
    Calls Tryz.prog 129 #[.string (bsV set), .pointer (some ⟨pa, 0, none⟩), .pointer (some ⟨ps, 0, none⟩)] w fun e w' => e = .returned (.bool (oneB set (l.drop k))) ∧ At w' pa ps (k + (if oneB set (l.drop k) then 1 else 0)) l ∧ Keeps (fun c => c = pa) w w' := by
  have hsz := bs_size set
  have hlz := bs_size l
  have Ha := hide ha
  obtain ⟨R, hR⟩ : ∃ R, oneB set (l.drop k) = R := ⟨_, rfl⟩
  have HR := hide hR
  rw [hR]
  clear ha hR
  have hset : ∀ (i : Nat) (h : i < (bsV set).size), (bsV set)[i]'h = set[i]'(by rw [← hsz]; exact h) := bs_get set
  have htxt : ∀ (i : Nat) (h : i < (bsV l).size), (bsV l)[i]'h = l[i]'(by rw [← hlz]; exact h) := bs_get l
  have HSet := hide hset
  have HTxt := hide htxt
  clear hset htxt
  go_enter Tryz.func129, Tryz.ntmps129
  go_wp2
  go_loopw [8] (fun v wr => ∃ i : Nat, v = .int .i64 i ∧ i ≤ set.length ∧ (∀ j (hj : j < set.length), j < i → (l.drop k).head? ≠ some set[j]) ∧ At wr pa ps k l ∧ Keeps (fun c => c = pa) w wr) (fun v _ => set.length - (intOf v).toNat)
  case atStart => exact ⟨0, rfl, Nat.zero_le _, (fun j hj h => absurd h (Nat.not_lt_zero _)), Ha.out, Keeps.refl _ _⟩
  case round =>
    obtain ⟨i, rfl, hi, hno, hat, hkp⟩ := hrel
    have Hno := hide hno
    have Hat := hide hat
    have Hkp := hide hkp
    have hca : wr.cell? ⟨pa, 0, none⟩ = some (.int .i64 (k : Nat)) := hat.pos.cell 0
    have hcs : wr.cell? ⟨ps, 0, none⟩ = some (.string (bsV l)) := hat.txt.cell 0
    have hfa : wr.frozen? ⟨pa, 0, none⟩ = false := hat.pos.frozen 0
    have hkI : (k : Int) ≤ 1000000 := by omega
    clear hno hat hkp
    by_cases hlt : i < set.length
    · have hltI : (i : Int) < ((bsV set).size : Int) := by rw [hsz]; omega
      have hltN : i < (bsV set).size := by rw [hsz]; exact hlt
      have hgs := HSet.out i hltN
      by_cases hin : k < l.length
      · have hinI : (k : Int) < ((bsV l).size : Int) := by rw [hlz]; omega
        have hinN : k < (bsV l).size := by rw [hlz]; exact hin
        have hgl := HTxt.out k hinN
        have hhd : (l.drop k).head? = some (l[k]'hin) := by rw [List.head?_drop, List.getElem?_eq_getElem hin]
        by_cases heq : l[k]'hin = set[i]'hlt
        · have e1 : ((((bsV l)[k]'hinN).toNat : Int) == (((bsV set)[i]'hltN).toNat : Int)) = true := by rw [hgl, hgs, heq]; simp
          have hRt : R = true := by
            rw [← HR.out]; unfold oneB; rw [hhd, heq]
            simp
          subst hRt
          have hk1 : ((k + 1 : Nat) : Int) = (k : Int) + 1 := by omega
          have HAt := hide (fun n : Nat => (show At ((wr.drewN n).setCell ⟨pa, 0, none⟩ (.int .i64 ((k : Int) + 1))) pa ps (k + 1) l from ⟨by rw [← hk1]; exact (Hat.out.drewN n).pos.set_ 0 (.int .i64 ((k + 1 : Nat) : Int)), (Hat.out.drewN n).txt.off (b := pa) (fun h => hne h.symm) 0 _⟩))
          clear hgl hgs hhd heq HR hk1
          generalize bsV l = lb at *
          generalize bsV set = sb at *
          go_upto_region 4 with fail
          go_quiet (fail)
          go_wp2
          go_ret
          exact ⟨rfl, HAt.out _, (Hkp.out.drewN _).set (.inl rfl) 0 _⟩
        · have e1 : ((((bsV l)[k]'hinN).toNat : Int) == (((bsV set)[i]'hltN).toNat : Int)) = false := by
            rw [hgl, hgs]; exact beq_eq_false_iff_ne.2 (fun e => heq ((u8i _ _).1 e))
          have Hno2 := hide (show ∀ j (hj : j < set.length), j < i + 1 → (l.drop k).head? ≠ some set[j] from fun j hj h => by
            rcases Nat.lt_or_ge j i with h1 | h1
            · exact Hno.out j hj h1
            · obtain rfl : j = i := by omega
              rw [hhd]; exact fun e => heq (Option.some.inj e))
          clear hgl hgs hhd heq
          generalize bsV l = lb at *
          generalize bsV set = sb at *
          go_upto_region 4 with fail
          go_quiet (fail)
          go_wp2
          go_roundw
          case rel => exact ⟨i + 1, by go_num, by omega, Hno2.out, Hat.out.drewN _, Hkp.out.drewN _⟩
          case measure => simp [intOf]; omega
      · have hinI : ¬ (k : Int) < ((bsV l).size : Int) := by rw [hlz]; omega
        have hhd : (l.drop k).head? = none := by rw [List.head?_drop]; exact List.getElem?_eq_none (by omega)
        have Hno2 := hide (show ∀ j (hj : j < set.length), j < i + 1 → (l.drop k).head? ≠ some set[j] from fun j hj h => by rw [hhd]; simp)
        clear hgs hhd
        generalize bsV l = lb at *
        generalize bsV set = sb at *
        go_upto_region 4 with fail
        go_quiet (fail)
        go_wp2
        go_roundw
        case rel => exact ⟨i + 1, by go_num, by omega, Hno2.out, Hat.out.drewN _, Hkp.out.drewN _⟩
        case measure => simp [intOf]; omega
    · obtain rfl : i = set.length := by omega
      have hRf : R = false := by
        rw [← HR.out]; unfold oneB
        cases hh : (l.drop k).head? with
        | none => rfl
        | some c =>
          cases hc : set.contains c with
          | false => exact hc
          | true =>
            obtain ⟨j, hj, hjc⟩ := List.mem_iff_getElem.1 (show c ∈ set by simpa using hc)
            exact absurd (by rw [hh, hjc]) (Hno.out j hj hj)
      subst hRf
      have hltI : ¬ (set.length : Int) < ((bsV set).size : Int) := by rw [hsz]; omega
      clear HR
      generalize bsV l = lb at *
      generalize bsV set = sb at *
      go_wp2
      go_ret
      exact ⟨rfl, Hat.out, Hkp.out⟩
set_option maxRecDepth 20000 in
set_option maxHeartbeats 8000000 in
theorem digits_any (l : List UInt8) (pa ps k : Nat) (w : World) (hne : pa ≠ ps) (hl : l.length ≤ 1000000) (hk : k ≤ l.length) (ha : At w pa ps k l) :
    Calls Tryz.prog 130 #[.pointer (some ⟨pa, 0, none⟩), .pointer (some ⟨ps, 0, none⟩)] w fun e w' => e = .returned (.string (bsV ((l.drop k).take (nd (l.drop k))))) ∧ At w' pa ps (k + nd (l.drop k)) l ∧ Keeps (fun c => c = pa) w w' := by
  have hlz := bs_size l
  have Ha := hide ha
  have htxt : ∀ (i : Nat) (h : i < (bsV l).size), (bsV l)[i]'h = l[i]'(by rw [← hlz]; exact h) := bs_get l
  have HTxt := hide htxt
  have hca0 : w.cell? ⟨pa, 0, none⟩ = some (.int .i64 (k : Nat)) := ha.pos.cell 0
  obtain ⟨N, hN⟩ : ∃ N, nd (l.drop k) = N := ⟨_, rfl⟩
  have hNle : N ≤ l.length - k := by rw [← hN, ← List.length_drop]; exact nd_le _
  have Hin := hide (show ∀ j (h : k + j < l.length), j < N → isD l[k + j] = true from fun j h hj => by
    have := nd_in (l.drop k) j (by rw [List.length_drop]; omega) (by rw [hN]; exact hj)
    rwa [List.getElem_drop] at this)
  have Hend := hide (show ∀ (h : k + N < l.length), isD l[k + N] = false from fun h => by
    have := nd_end (l.drop k) (by rw [List.length_drop, hN]; omega)
    rw [List.getElem_drop] at this
    simp only [hN] at this
    exact this)
  have hres : bsV ((l.drop k).take N) = (bsV l).extract k (k + N) := by
    apply Go.WideShapes.bytes_inj
    rw [bsV_list, Lib.extract_data, bsV_list, Nat.add_sub_cancel_left]
  have Hres := hide hres
  rw [hN]
  clear ha htxt hN hres
  go_enter Tryz.func130, Tryz.ntmps130
  go_wp2
  clear hca0
  go_loopg [21] N (fun g v wr => ∃ j : Nat, j + g = N ∧ At wr pa ps (k + j) l ∧ Keeps (fun c => c = pa) w wr)
  case atStart => exact ⟨0, Nat.zero_add _, Ha.out, Keeps.refl _ _⟩
  case round =>
    obtain ⟨j, hj, hat, hkp⟩ := hrel
    have Hat := hide hat
    have Hkp := hide hkp
    have hca : wr.cell? ⟨pa, 0, none⟩ = some (.int .i64 ((k + j : Nat) : Int)) := hat.pos.cell 0
    have hcs : wr.cell? ⟨ps, 0, none⟩ = some (.string (bsV l)) := hat.txt.cell 0
    have hfa : wr.frozen? ⟨pa, 0, none⟩ = false := hat.pos.frozen 0
    clear hat hkp
    obtain ⟨p, hp⟩ : ∃ p, k + j = p := ⟨_, rfl⟩
    have hpI : (p : Int) ≤ 1000000 := by omega
    rw [hp] at hca
    by_cases hin : p < l.length
    · have hinI : (p : Int) < ((bsV l).size : Int) := by rw [hlz]; omega
      have hinN : p < (bsV l).size := by rw [hlz]; exact hin
      have hgl := HTxt.out p hinN
      by_cases hlt : j < N
      · have hd := Hin.out j (by rw [hp]; exact hin) hlt
        simp only [hp] at hd
        rw [← hgl] at hd
        simp only [isD, decide_eq_true_eq] at hd
        have g1 : (48 : Int) ≤ (((bsV l)[p]'hinN).toNat : Int) := by omega
        have g2 : (((bsV l)[p]'hinN).toNat : Int) ≤ 57 := by omega
        have hk1 : ((k + (j + 1) : Nat) : Int) = (p : Int) + 1 := by omega
        have HAt := hide (show At (wr.setCell ⟨pa, 0, none⟩ (.int .i64 ((p : Int) + 1))) pa ps (k + (j + 1)) l from ⟨by rw [← hk1]; exact Hat.out.pos.set_ 0 (.int .i64 ((k + (j + 1) : Nat) : Int)), Hat.out.txt.off (b := pa) (fun h => hne h.symm) 0 _⟩)
        clear hgl hd hk1 hp
        generalize bsV l = lb at *
        go_wp2
        go_roundg (N - (j + 1))
        case measure => omega
        case rel => exact ⟨j + 1, by omega, HAt.out, Hkp.out.set (.inl rfl) 0 _⟩
      · obtain rfl : j = N := by omega
        have hd := Hend.out (by rw [hp]; exact hin)
        simp only [hp] at hd
        rw [← hgl] at hd
        simp only [isD, decide_eq_false_iff_not] at hd
        have hk1 : (k : Int) ≤ (p : Int) := by omega
        have hk2 : (p : Int) ≤ ((bsV l).size : Int) := by omega
        have hr2 := Hres.out
        rw [hp] at hr2
        have Hr2 := hide hr2
        clear hgl Hres hr2
        by_cases g1 : (48 : Int) ≤ (((bsV l)[p]'hinN).toNat : Int)
        · have g2 : ¬ (((bsV l)[p]'hinN).toNat : Int) ≤ 57 := by omega
          clear hd
          generalize bsV l = lb at *
          go_wp2
          go_ret
          exact ⟨ret_s Hr2.out, hp ▸ Hat.out, Hkp.out⟩
        · clear hd
          generalize bsV l = lb at *
          go_wp2
          go_ret
          exact ⟨ret_s Hr2.out, hp ▸ Hat.out, Hkp.out⟩
    · have hinI : ¬ (p : Int) < ((bsV l).size : Int) := by rw [hlz]; omega
      obtain rfl : j = N := by omega
      have hk1 : (k : Int) ≤ (p : Int) := by omega
      have hk2 : (p : Int) ≤ ((bsV l).size : Int) := by omega
      have hr2 := Hres.out
      rw [hp] at hr2
      have Hr2 := hide hr2
      clear Hres hr2
      generalize bsV l = lb at *
      go_wp2
      go_ret
      exact ⟨ret_s Hr2.out, hp ▸ Hat.out, Hkp.out⟩
end Go.Proofs.YtpjikbfeegncbaaGreatDoor
