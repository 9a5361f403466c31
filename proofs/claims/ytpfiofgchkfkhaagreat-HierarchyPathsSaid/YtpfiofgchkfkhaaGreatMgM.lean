/- MgM: the texts HkF HlA in one. -/
import Derived.Test.YtpfiofgchkfkhaaGreatMgL
import Derived.Laws.OwnMore
import Derived.Test.YtpfiofgchkfkhaaGreatMgK
import Derived.Test.YtpfiofgchkfkhaaGreatMgJ
/- Contract of the reference's Path. -/
set_option linter.unusedVariables false
set_option linter.unusedSimpArgs false
namespace Go.Proofs.YtpfiofgchkfkhaaGreat
open Go.RowKit Go.Shelf Go.Maps
/-- the names on the path of a scope, none where there is no such scope -/
def refP (scs : List Sc) (i : Int) : List ByteArray := if 0 ≤ i ∧ i < scs.length then pathH scs i else []
theorem refP_step {scs : List Sc} (hd : DeclS scs) {i : Int} (h0 : 0 ≤ i) (h1 : i < scs.length) : refP scs i = refP scs (scH scs i.toNat).parent ++ [(scH scs i.toNat).name] := by
  obtain ⟨k, rfl⟩ : ∃ k : Nat, i = k := ⟨i.toNat, by omega⟩
  have hk : k < scs.length := by omega
  obtain ⟨q1, q2⟩ := hd k hk
  have e : ((k : Int)).toNat = k := rfl
  rw [e]
  unfold refP
  rw [if_pos ⟨h0, h1⟩, pathH_step hd hk]
  by_cases h : 0 ≤ (scH scs k).parent
  · rw [if_pos ⟨h, by omega⟩]
  · rw [if_neg (by omega), pathH_neg _ (by omega)]
theorem refP_out {scs : List Sc} {i : Int} (h : ¬ (0 ≤ i ∧ i < scs.length)) : refP scs i = [] := by unfold refP; rw [if_neg h]
theorem refP_in {scs : List Sc} {i : Int} (h1 : -1 ≤ i) (h2 : i < scs.length) : refP scs i = pathH scs i := by
  unfold refP
  by_cases h : 0 ≤ i
  · rw [if_pos ⟨h, h2⟩]
  · rw [if_neg (by omega), pathH_neg _ (by omega)]
theorem refP_len (scs : List Sc) (i : Int) : (refP scs i).length ≤ scs.length := by
  unfold refP
  split
  · rename_i h
    rw [pathH_len]
    have := upF_len scs (i.toNat + 1) i
    show (upF scs (i.toNat + 1) i).length ≤ _
    omega
  · exact Nat.zero_le _
set_option maxRecDepth 20000 in
set_option maxHeartbeats 8000000 in
theorem refPath_any {w : World} {scs : List Sc} {A : Option Addr} (cap : Nat) (i : Int) (hs : ScS w A scs) (hd : DeclS scs) (hl : scs.length ≤ 100000) :
    Calls Tryz.prog 40 #[.slice A scs.length cap, .int .i64 i] w fun e w' => ∃ g c, e = .returned (.slice (some ⟨g, 0, none⟩) (refP scs i).length c) ∧ w'.ownsRow w.heap.size 9 1 (.slice (some ⟨g, 0, none⟩) (refP scs i).length c) (refP scs i).length ((refP scs i).map Value.string) ∧ Below w.heap.size w w' := by
  have HS := hide hs
  have HD := hide hd
  have HPL := hide (fun j => refP_len scs j)
  have HST := hide (fun (j : Int) (h0 : 0 ≤ j) (h1 : j < scs.length) => refP_step hd h0 h1)
  have HOUT := hide (fun (j : Int) (h : ¬ (0 ≤ j ∧ j < scs.length)) => refP_out h)
  obtain ⟨P, hP⟩ : ∃ P, refP scs i = P := ⟨_, rfl⟩
  have hPl := HPL.out i
  rw [hP] at hPl ⊢
  have HP := hide hP
  obtain ⟨n, hn⟩ : ∃ n, scs.length = n := ⟨_, rfl⟩
  have HST' := HST.out
  have HOUT' := HOUT.out
  rw [hn] at HST' HOUT' hl hPl
  rw [hn]
  have Hn := hide hn
  have HST2 := hide HST'
  have HOUT2 := hide HOUT'
  clear hs hd hP hn HST HST' HOUT HOUT'
  go_enter Tryz.func40, Tryz.ntmps40
  go_wp2_with fail
  have HB0 := hide ((Below.refl w.heap.size w).alloc (Nat.le_refl _) (.cells #[] 9))
  have HO0 := hide (World.ownsRow_lit (base := w.heap.size) (e := 9) (size := 1) w #[] 0 (Nat.le_refl _) (by decide) rfl)
  go_loopw [1, 5] (fun v v5 wr => ∃ (k : Int) (L : List ByteArray) (g c : Nat), v = .int .i64 k ∧ v5 = .slice (some ⟨g, 0, none⟩) L.length c ∧ L.length ≤ n ∧ Hid (P = refP scs k ++ L) ∧ Hid (wr.ownsRow w.heap.size 9 1 (.slice (some ⟨g, 0, none⟩) L.length c) L.length (L.map Value.string)) ∧ Hid (Below w.heap.size w wr)) (fun v _ _ => (intOf v + 1).toNat)
  case atStart => exact ⟨i, [], w.heap.size, 0, rfl, rfl, Nat.zero_le _, hide (by rw [List.append_nil]; exact HP.out.symm), HO0, HB0⟩
  case round =>
    obtain ⟨k, L, g, c, rfl, rfl, hL, HE, HO, HB⟩ := hrel
    by_cases hk : 0 ≤ k ∧ k < n
    · obtain ⟨hk0, hk1⟩ := hk
      have hix : k.toNat < scs.length := by rw [Hn.out]; omega
      have hstep := HST2.out k hk0 hk1
      obtain ⟨q1, q2⟩ := HD.out k.toNat hix
      rw [scH_at hix] at hstep q1 q2
      obtain ⟨b, off, rfl, hbz, hat⟩ := sc_at HS.out hix
      obtain ⟨c0, _, c2⟩ := hat wr HB.out
      have HE2 := hide (show P = refP scs (scs[k.toNat]'hix).parent ++ ((scs[k.toNat]'hix).name :: L) by rw [HE.out, hstep, List.append_assoc]; rfl)
      have hat3 := fun (W : World) (hb : Below w.heap.size w W) => (hat W hb).2.2
      generalize scs[k.toNat]'hix = x at *
      obtain ⟨nm, ty, pa⟩ := x
      simp only at c0 c2 q1 q2 HE2 hat3
      have hpk : ¬ k ≤ pa := by omega
      have hLn : L.length + 1 ≤ n := by
        have h1 := congrArg List.length HE.out
        rw [hstep, List.length_append, List.length_append, List.length_singleton] at h1
        omega
      have HA3 := hide hat3
      have HO1 := hide (World.ownsRow_lit (base := w.heap.size) (e := 9) (size := 1) wr #[.string nm] 1 HB.out.size (by decide) rfl)
      have HB1 := hide (HB.out.alloc HB.out.size (.cells #[.string nm] 9))
      have HOA := hide (HO.out.alloc (.cells #[.string nm] 9))
      have HH1 := hide (show 1 + L.length ≤ maxLen by unfold maxLen; omega)
      have HH2 := hide (show (1 + L.length) * 16 ≤ 140737488355328 by omega)
      have HZ := hide (show w.heap.size ≤ (wr.alloc (.cells #[.string nm] 9)).heap.size by rw [World.size_alloc]; have := HB.out.size; omega)
      clear hat hat3 hstep
      go_wp2_with (at_builtin; refine wpList_append_at _ rfl _ _ 34 rfl w.heap.size 9 infoStrH Tryz.underlying34 rfl (by decide) _ 1 [.string nm] rfl HO1.out ⟨g, 0, none⟩ L.length c (L.map Value.string) rfl (by rw [List.length_map, Nat.mul_one]) (fun j u hu => by rw [show ((⟨g, 0, none⟩ : Addr).add j) = ⟨g, j, none⟩ by unfold Addr.add; split <;> simp_all, World.ownsRow.cellAt HOA.out j (by have := (List.getElem?_eq_some_iff.1 hu).1; rw [List.length_map] at this; omega)]; exact hu) (by intro u hu; obtain ⟨s, _, rfl⟩ := List.mem_map.1 hu; rfl) HH1.out HH2.out HZ.out ?_; intro v' w5 hown5 hgrow5 hnn _; have c2' := HA3.out w5 (HB1.out.grown hgrow5 HZ.out (fun j hj => (World.ownsRow.lt HO1.out j hj).1)))
      have HB5 := hide (HB1.out.grown hgrow5 HZ.out (fun j hj => (World.ownsRow.lt HO1.out j hj).1))
      have hl2 : 1 + L.length = (nm :: L).length := by rw [List.length_cons]; omega
      rw [hl2] at hown5
      obtain ⟨g5, cap5, hv', _⟩ := World.ownsRow.form hown5 (by simp)
      subst hv'
      have HO5 := hide (show w5.ownsRow w.heap.size 9 1 (.slice (some ⟨g5, 0, none⟩) (nm :: L).length cap5) (nm :: L).length ((nm :: L).map Value.string) from hown5)
      clear hown5 hgrow5 hnn hl2
      go_wp2
      go_roundw
      case rel => exact ⟨pa, nm :: L, g5, cap5, by first | rfl | trivial, by first | rfl | trivial, by rw [List.length_cons]; omega, HE2, HO5, HB5⟩
      case measure => simp [intOf]; omega
    · have hE := hide (show L = P by rw [HE.out, HOUT2.out k hk]; rfl)
      by_cases hk0 : 0 ≤ k
      · have hk1 : ¬ k < n := fun h => hk ⟨hk0, h⟩
        go_wp2
        go_ret
        refine ⟨g, c, by rw [← hE.out]; first | done | rfl, ?_, HB.out⟩
        rw [← hE.out]; exact HO.out
      · go_wp2
        any_goals first | (rename_i hu hb; exact (undef_bool hu).elim) | skip
        go_ret
        refine ⟨g, c, by rw [← hE.out]; first | done | rfl, ?_, HB.out⟩
        rw [← hE.out]; exact HO.out
end Go.Proofs.YtpfiofgchkfkhaaGreat

/- Contracts of the reference's declared, same, inside. -/
set_option linter.unusedVariables false
set_option linter.unusedSimpArgs false
namespace Go.Proofs.YtpfiofgchkfkhaaGreat
open Go.RowKit Go.Shelf Go.Maps
def insB (scs : List Sc) (outer i : Int) : Bool := decide (outer.toNat ∈ upH scs i)
set_option maxRecDepth 20000 in
set_option maxHeartbeats 4000000 in
theorem inside_any {w : World} {scs : List Sc} {A : Option Addr} (cap : Nat) (outer i : Int) (hs : ScS w A scs) (hd : DeclS scs) (hl : scs.length ≤ 100000) (ho : 0 ≤ outer) (ho2 : outer < scs.length) (hi : i < scs.length) (hi1 : -1 ≤ i) :
    Calls Tryz.prog 37 #[.slice A scs.length cap, .int .i64 outer, .int .i64 i] w fun e w' => e = .returned (.bool (insB scs outer i)) ∧ w = w' := by
  have HS := hide hs
  have HD := hide hd
  have hV : insB scs outer i = decide (outer.toNat ∈ upH scs i) := rfl
  generalize insB scs outer i = r at *
  have HV := hide hV
  obtain ⟨n, hn⟩ : ∃ n, scs.length = n := ⟨_, rfl⟩
  rw [hn] at hl ho2 hi ⊢
  have Hn := hide hn
  clear hs hd hV hn
  go_enter Tryz.func37, Tryz.ntmps37
  go_wp2_with fail
  go_loopw [2] (fun v wr => ∃ k : Int, v = .int .i64 k ∧ -1 ≤ k ∧ k < n ∧ Hid (outer.toNat ∈ upH scs i ↔ outer.toNat ∈ upH scs k) ∧ w = wr) (fun v _ => (intOf v + 1).toNat)
  case atStart => exact ⟨i, rfl, hi1, hi, hide Iff.rfl, rfl⟩
  case round =>
    obtain ⟨k, rfl, hk1, hk2, HK, rfl⟩ := hrel
    by_cases hgt : outer < k
    · have hix : k.toNat < scs.length := by rw [Hn.out]; omega
      obtain ⟨q1, q2⟩ := HD.out k.toNat hix
      have hst : outer.toNat ∈ upH scs k ↔ outer.toNat ∈ upH scs (scH scs k.toNat).parent := by
        obtain ⟨j, rfl⟩ : ∃ j : Nat, k = j := ⟨k.toNat, by omega⟩
        have e : ((j : Int)).toNat = j := rfl
        rw [e] at hix ⊢
        rw [upH_step HD.out hix, List.mem_cons]
        constructor
        · rintro (h | h)
          · omega
          · exact h
        · exact .inr
      rw [scH_at hix] at q1 q2 hst
      obtain ⟨b, off, rfl, hbz, hat⟩ := sc_at HS.out hix
      obtain ⟨_, _, c2⟩ := hat w (Below.refl _ _)
      have HK2 := hide (HK.out.trans hst)
      generalize scs[k.toNat]'hix = x at *
      obtain ⟨nm, ty, pa⟩ := x
      simp only at c2 q1 q2 HK2
      have hk0 : 0 ≤ k := by omega
      clear hat hst
      go_wp2
      go_roundw
      case rel => exact ⟨pa, by first | rfl | trivial, q1, by omega, HK2, by first | rfl | trivial⟩
      case measure => simp [intOf]; omega
    · have hr : r = decide (k = outer) := by
        rw [HV.out]
        by_cases e : k = outer
        · rw [decide_eq_true e]
          refine decide_eq_true (HK.out.2 ?_)
          obtain ⟨j, rfl⟩ : ∃ j : Nat, k = j := ⟨k.toNat, by omega⟩
          have e2 : outer.toNat = j := by omega
          rw [e2]
          exact up_self HD.out (by rw [Hn.out]; omega)
        · rw [decide_eq_false e]
          refine decide_eq_false (fun h => ?_)
          have h2 := upH_le HD.out (scs.length + 1) k (by rw [Hn.out]; omega) (by rw [Hn.out]; omega) _ (HK.out.1 h)
          omega
      have HR := hide hr
      clear hr
      by_cases e : k = outer
      · subst e
        have HR2 := hide (show r = true by rw [HR.out]; exact decide_eq_true rfl)
        go_wp2
        go_ret
        exact ⟨by rw [HR2.out]; first | done | rfl | simp, rfl⟩
      · have e1 : (k == outer) = false := beq_eq_false_iff_ne.2 e
        have HR2 := hide (show r = false by rw [HR.out]; exact decide_eq_false e)
        go_wp2
        go_ret
        exact ⟨by rw [HR2.out]; first | done | rfl | simp, rfl⟩
theorem declB_noS {scs : List Sc} {vs : List Va} {i : Nat} (h : i < scs.length) (hn : scs[i].parent < -1 ∨ (i : Int) ≤ scs[i].parent) : declB scs vs = false := by
  unfold declB
  rw [Bool.and_eq_false_iff]
  left
  refine decide_eq_false (fun hd => ?_)
  have := hd i h
  rw [scH_at h] at this
  omega
theorem declB_noV {scs : List Sc} {vs : List Va} {i : Nat} (h : i < vs.length) (hn : ¬ (-1 ≤ vs[i].scope ∧ vs[i].scope < scs.length ∧ 0 ≤ vs[i].signal)) : declB scs vs = false := by
  unfold declB
  rw [Bool.and_eq_false_iff]
  right
  rw [List.all_eq_false]
  exact ⟨_, List.getElem_mem h, by unfold declV; simpa using hn⟩
theorem declB_all {scs : List Sc} {vs : List Va} (h1 : ∀ i (h : i < scs.length), -1 ≤ scs[i].parent ∧ scs[i].parent < (i : Int)) (h2 : ∀ i (h : i < vs.length), -1 ≤ vs[i].scope ∧ vs[i].scope < scs.length ∧ 0 ≤ vs[i].signal) : declB scs vs = true := by
  unfold declB
  rw [Bool.and_eq_true, decide_eq_true_eq, List.all_eq_true]
  refine ⟨fun i h => by rw [scH_at h]; exact h1 i h, fun v hv => ?_⟩
  obtain ⟨i, hi, rfl⟩ := List.mem_iff_getElem.1 hv
  exact decide_eq_true (h2 i hi)
set_option maxRecDepth 20000 in
set_option maxHeartbeats 4000000 in
theorem refDecl_any {w : World} {scs : List Sc} {vs : List Va} {A A' : Option Addr} (cap cap' : Nat) (hs : ScS w A scs) (hv : VaS w A' vs) (hl : scs.length ≤ 1000000) (hl' : vs.length ≤ 1000000) :
    Calls Tryz.prog 65 #[.slice A scs.length cap, .slice A' vs.length cap'] w fun e w' => e = .returned (.bool (declB scs vs)) ∧ w = w' := by
  have HS := hide hs
  have HV := hide hv
  have HN1 := hide (fun (i : Nat) (h : i < scs.length) (hn : scs[i].parent < -1 ∨ (i : Int) ≤ scs[i].parent) => declB_noS (vs := vs) h hn)
  have HN2 := hide (fun (i : Nat) (h : i < vs.length) (hn : ¬ (-1 ≤ vs[i].scope ∧ vs[i].scope < scs.length ∧ 0 ≤ vs[i].signal)) => declB_noV (scs := scs) h hn)
  have HN3 := hide (@declB_all scs vs)
  generalize declB scs vs = r at *
  obtain ⟨n, hn⟩ : ∃ n, scs.length = n := ⟨_, rfl⟩
  obtain ⟨m, hm⟩ : ∃ m, vs.length = m := ⟨_, rfl⟩
  have Hn := hide hn
  have Hm := hide hm
  rw [hn] at hl ⊢
  rw [hm] at hl' ⊢
  clear hs hv hn hm
  go_enter Tryz.func65, Tryz.ntmps65
  go_wp2_with fail
  go_loopw [5] (fun v wr => ∃ i : Nat, v = .int .i64 (i : Int) ∧ i ≤ n ∧ Hid (∀ j (h : j < scs.length), j < i → -1 ≤ scs[j].parent ∧ scs[j].parent < (j : Int)) ∧ w = wr) (fun v _ => n - (intOf v).toNat)
  case atStart => exact ⟨0, rfl, Nat.zero_le _, hide (fun j h h2 => absurd h2 (by omega)), rfl⟩
  case round =>
    obtain ⟨i, rfl, hi, HA, rfl⟩ := hrel
    by_cases hlt : i < n
    · have hi' : (i : Int) < (n : Int) := by omega
      have hi0 : (0 : Int) ≤ (i : Int) := by omega
      have hw1 : IntKind.i64.wrap ((i : Int) + 1) = (i : Int) + 1 := IntWalk.i64_in _ (by omega)
      have hix : i < scs.length := by rw [Hn.out]; exact hlt
      obtain ⟨b, off, rfl, hbz, hat⟩ := sc_at HS.out hix
      obtain ⟨_, _, c2⟩ := hat w (Below.refl _ _)
      have HV1 := hide (fun h => HN1.out i hix h)
      have HA2 := hide (fun (h : -1 ≤ scs[i].parent ∧ scs[i].parent < (i : Int)) (j : Nat) (hj : j < scs.length) (hji : j < i + 1) => show -1 ≤ scs[j].parent ∧ scs[j].parent < (j : Int) from by
        rcases Nat.lt_or_ge j i with h1 | h1
        · exact HA.out j hj h1
        · obtain rfl : j = i := by omega
          exact h)
      generalize scs[i]'hix = x at *
      obtain ⟨nm, ty, pa⟩ := x
      simp only at c2 HV1 HA2
      clear hat
      by_cases h1 : pa < -1
      · have HR := hide (HV1.out (.inl h1))
        clear HV1 HA2
        go_wp2
        any_goals first | (rename_i hu hb; exact (undef_bool hu).elim) | skip
        go_ret
        exact ⟨by rw [HR.out]; first | done | rfl, rfl⟩
      · by_cases h2 : (i : Int) ≤ pa
        · have HR := hide (HV1.out (.inr h2))
          clear HV1 HA2
          go_wp2
          go_ret
          exact ⟨by rw [HR.out]; first | done | rfl, rfl⟩
        · have HA3 := hide (HA2.out ⟨by omega, by omega⟩)
          clear HV1 HA2
          go_wp2
          go_roundw
          case rel => exact ⟨i + 1, by go_num, by omega, HA3, by first | rfl | trivial⟩
          case measure => simp [intOf]; omega
    · obtain rfl : i = n := by omega
      have hi' : ¬ (i : Int) < (i : Int) := by omega
      go_wp2_with fail
      go_loopw [6] (fun v wr => ∃ k : Nat, v = .int .i64 (k : Int) ∧ k ≤ m ∧ Hid (∀ j (h : j < vs.length), j < k → -1 ≤ vs[j].scope ∧ vs[j].scope < scs.length ∧ 0 ≤ vs[j].signal) ∧ w = wr) (fun v _ => m - (intOf v).toNat)
      case atStart => exact ⟨0, rfl, Nat.zero_le _, hide (fun j h h2 => absurd h2 (by omega)), rfl⟩
      case round =>
        obtain ⟨k, rfl, hk, HB, rfl⟩ := hrel
        by_cases hlt2 : k < m
        · have hk' : (k : Int) < (m : Int) := by omega
          have hk0 : (0 : Int) ≤ (k : Int) := by omega
          have hw1 : IntKind.i64.wrap ((k : Int) + 1) = (k : Int) + 1 := IntWalk.i64_in _ (by omega)
          have hix : k < vs.length := by rw [Hm.out]; exact hlt2
          obtain ⟨b, off, rfl, hbz, hat⟩ := va_at HV.out hix
          obtain ⟨_, _, c2, c3, _⟩ := hat w (Below.refl _ _)
          have HV1 := hide (fun h => HN2.out k hix h)
          have HA2 := hide (fun (h : -1 ≤ vs[k].scope ∧ vs[k].scope < scs.length ∧ 0 ≤ vs[k].signal) (j : Nat) (hj : j < vs.length) (hji : j < k + 1) => show -1 ≤ vs[j].scope ∧ vs[j].scope < scs.length ∧ 0 ≤ vs[j].signal from by
            rcases Nat.lt_or_ge j k with h1 | h1
            · exact HB.out j hj h1
            · obtain rfl : j = k := by omega
              exact h)
          rw [Hn.out] at HV1 HA2
          generalize vs[k]'hix = x at *
          obtain ⟨nm, ty, sc, sg, rg, msb, lsb⟩ := x
          simp only at c2 c3 HV1 HA2
          clear hat
          by_cases h1 : sc < -1
          · have HR := hide (HV1.out (fun h => by omega))
            clear HV1 HA2
            go_wp2
            any_goals first | (rename_i hu hb; exact (undef_bool hu).elim) | skip
            go_ret
            exact ⟨by rw [HR.out]; first | done | rfl, rfl⟩
          · by_cases h2 : (i : Int) ≤ sc
            · have HR := hide (HV1.out (fun h => by omega))
              clear HV1 HA2
              go_wp2
              any_goals first | (rename_i hu hb; exact (undef_bool hu).elim) | skip
              go_ret
              exact ⟨by rw [HR.out]; first | done | rfl, rfl⟩
            · by_cases h3 : sg < 0
              · have HR := hide (HV1.out (fun h => by omega))
                clear HV1 HA2
                go_wp2
                go_ret
                exact ⟨by rw [HR.out]; first | done | rfl, rfl⟩
              · have HA3 := hide (HA2.out ⟨by omega, by omega, by omega⟩)
                clear HV1 HA2
                go_wp2
                go_roundw
                case rel => exact ⟨k + 1, by go_num, by omega, hide (fun j hj h => by have := HA3.out j hj h; rw [Hn.out]; exact this), by first | rfl | trivial⟩
                case measure => simp [intOf]; omega
        · obtain rfl : k = m := by omega
          have hk' : ¬ (k : Int) < (k : Int) := by omega
          have HR := hide (show r = true from HN3.out (fun j hj => HA.out j hj (by rw [← Hn.out]; exact hj)) (fun j hj => HB.out j hj (by rw [← Hm.out]; exact hj)))
          go_wp2
          go_ret
          exact ⟨by rw [HR.out]; first | done | rfl, rfl⟩
end Go.Proofs.YtpfiofgchkfkhaaGreat
