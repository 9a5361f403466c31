/- MgN: the texts HlB in one. -/
import Derived.Test.YtpfiofgchkfkhaaGreatMgM
import Derived.Test.YtpfiofgchkfkhaaGreatMgI
import Derived.Test.YtpfiofgchkfkhaaGreatMgC
import Derived.Deep.RegionHeld3
import Derived.BigQuiet
import Derived.Deep.QuietTactic
/- Contracts of the reference's same and check. -/
set_option linter.unusedVariables false
set_option linter.unusedSimpArgs false
namespace Go.Proofs.YtpfiofgchkfkhaaGreat
open Go.RowKit Go.Shelf Go.Maps
def sameVB (a b : Va) : Bool := decide (a.name = b.name) && decide (a.ranged = b.ranged) && decide (a.msb = b.msb) && decide (a.lsb = b.lsb)
theorem nodup_pairs {α β : Type} {f : α → β} {xs : List α} (h : ∀ a (ha : a < xs.length) b (hb : b < a), f xs[a] ≠ f (xs[b]'(Nat.lt_trans hb ha))) : (xs.map f).Nodup := by
  unfold List.Nodup
  rw [List.pairwise_map, List.pairwise_iff_getElem]
  intro i j hi hj hij e
  exact h j hj i hij e.symm
theorem not_nodup_pair {α β : Type} [DecidableEq β] {f : α → β} {xs : List α} {a b : Nat} (ha : a < xs.length) (hb : b < a) (h : f xs[a] = f (xs[b]'(Nat.lt_trans hb ha))) : ¬ (xs.map f).Nodup := fun hn => by
  have := nodup_keys hn (List.getElem?_eq_getElem ha) (List.getElem?_eq_getElem (Nat.lt_trans hb ha)) h
  omega
section
variable {scs : List Sc} {vs : List Va}
theorem ck1 (h1 : 32 < scs.length ∨ 128 < vs.length) : checkE scs vs = 9 := by unfold checkE; rw [if_pos h1]
theorem ck2 (h1 : ¬ (32 < scs.length ∨ 128 < vs.length)) (h2 : declB scs vs = false) : checkE scs vs = 1 := by unfold checkE; rw [if_neg h1, if_pos h2]
theorem ck3 (h1 : ¬ (32 < scs.length ∨ 128 < vs.length)) (h2 : declB scs vs = true) (h3 : deepB scs = true) : checkE scs vs = 9 := by
  unfold checkE; rw [if_neg h1, if_neg (by rw [h2]; decide), if_pos h3]
theorem ck4 (h1 : ¬ (32 < scs.length ∨ 128 < vs.length)) (h2 : declB scs vs = true) (h3 : deepB scs = false) (h4 : (scs.any badS || vs.any badN) = true) : checkE scs vs = 4 := by
  unfold checkE; rw [if_neg h1, if_neg (by rw [h2]; decide), if_neg (by rw [h3]; decide), if_pos h4]
theorem ck5 (h1 : ¬ (32 < scs.length ∨ 128 < vs.length)) (h2 : declB scs vs = true) (h3 : deepB scs = false) (h4 : (scs.any badS || vs.any badN) = false) (h5 : ((scs.any fun x => badT x.typ 4) || (vs.any fun v => badT v.typ 18)) = true) : checkE scs vs = 7 := by
  unfold checkE; rw [if_neg h1, if_neg (by rw [h2]; decide), if_neg (by rw [h3]; decide), if_neg (by rw [h4]; decide), if_pos h5]
theorem ck6 (h1 : ¬ (32 < scs.length ∨ 128 < vs.length)) (h2 : declB scs vs = true) (h3 : deepB scs = false) (h4 : (scs.any badS || vs.any badN) = false) (h5 : ((scs.any fun x => badT x.typ 4) || (vs.any fun v => badT v.typ 18)) = false) (h6 : vs.any badR = true) : checkE scs vs = 2 := by
  unfold checkE; rw [if_neg h1, if_neg (by rw [h2]; decide), if_neg (by rw [h3]; decide), if_neg (by rw [h4]; decide), if_neg (by rw [h5]; decide), if_pos h6]
theorem ck7 (h1 : ¬ (32 < scs.length ∨ 128 < vs.length)) (h2 : declB scs vs = true) (h3 : deepB scs = false) (h4 : (scs.any badS || vs.any badN) = false) (h5 : ((scs.any fun x => badT x.typ 4) || (vs.any fun v => badT v.typ 18)) = false) (h6 : vs.any badR = false) (h7 : ¬ (scs.map childK).Nodup ∨ ¬ (vs.map entryK).Nodup) : checkE scs vs = 5 := by
  unfold checkE; rw [if_neg h1, if_neg (by rw [h2]; decide), if_neg (by rw [h3]; decide), if_neg (by rw [h4]; decide), if_neg (by rw [h5]; decide), if_neg (by rw [h6]; decide), if_pos h7]
theorem ck8 (h1 : ¬ (32 < scs.length ∨ 128 < vs.length)) (h2 : declB scs vs = true) (h3 : deepB scs = false) (h4 : (scs.any badS || vs.any badN) = false) (h5 : ((scs.any fun x => badT x.typ 4) || (vs.any fun v => badT v.typ 18)) = false) (h6 : vs.any badR = false) (h7 : (scs.map childK).Nodup) (h8 : (vs.map entryK).Nodup) : checkE scs vs = 0 := by
  unfold checkE; rw [if_neg h1, if_neg (by rw [h2]; decide), if_neg (by rw [h3]; decide), if_neg (by rw [h4]; decide), if_neg (by rw [h5]; decide), if_neg (by rw [h6]; decide), if_neg (by rintro (h | h); exact h h7; exact h h8)]
end
theorem any_none {α : Type} {xs : List α} {f : α → Bool} (h : ∀ j (hj : j < xs.length), f xs[j] = false) : xs.any f = false := by
  rw [List.any_eq_false]
  intro x hx
  obtain ⟨j, hj, rfl⟩ := List.mem_iff_getElem.1 hx
  rw [h j hj]; decide
theorem any_one {α : Type} {xs : List α} {f : α → Bool} {j : Nat} (hj : j < xs.length) (h : f xs[j] = true) : xs.any f = true := List.any_eq_true.2 ⟨_, List.getElem_mem hj, h⟩
theorem decl_of {scs : List Sc} {vs : List Va} (h : declB scs vs = true) : DeclS scs := by
  unfold declB at h
  rw [Bool.and_eq_true, decide_eq_true_eq] at h
  exact h.1
theorem deep_hit {scs : List Sc} {i : Nat} (hi : i < scs.length) (h : 8 < (refP scs (i : Int)).length) : deepB scs = true := by
  rw [refP_in (by omega) (by omega)] at h
  unfold deepB
  exact List.any_eq_true.2 ⟨i, List.mem_range.2 hi, decide_eq_true h⟩
theorem deep_none {scs : List Sc} (h : ∀ i, i < scs.length → ¬ 8 < (refP scs (i : Int)).length) : deepB scs = false := by
  unfold deepB
  rw [List.any_eq_false]
  intro i hi
  have hi' := List.mem_range.1 hi
  have h2 := h i hi'
  rw [refP_in (by omega) (by omega)] at h2
  simpa using h2
set_option maxRecDepth 20000 in
set_option maxHeartbeats 4000000 in
theorem refSame_any (a b : Va) (w : World) : Calls Tryz.prog 68 #[vaV a, vaV b] w fun e w' => e = .returned (.bool (sameVB a b)) ∧ Below w.heap.size w w' := by
  have hV : sameVB a b = (decide (a.name = b.name) && decide (a.ranged = b.ranged) && decide (a.msb = b.msb) && decide (a.lsb = b.lsb)) := rfl
  generalize sameVB a b = r at *
  obtain ⟨nm, ty, sc, sg, rg, msb, lsb⟩ := a
  obtain ⟨nm2, ty2, sc2, sg2, rg2, msb2, lsb2⟩ := b
  unfold vaV
  simp only at hV ⊢
  have HV := hide hV
  clear hV
  have HB := hide (((Below.refl w.heap.size w).alloc (Nat.le_refl _) (.cells #[.string nm, .int .i64 ty, .int .i64 sc, .int .i64 sg, .bool rg, .int .i64 msb, .int .i64 lsb] 33)).alloc (by rw [World.size_alloc]; exact Nat.le_succ _) (.cells #[.string nm2, .int .i64 ty2, .int .i64 sc2, .int .i64 sg2, .bool rg2, .int .i64 msb2, .int .i64 lsb2] 33))
  by_cases g0 : nm = nm2
  · subst g0
    by_cases g1 : rg = rg2
    · subst g1
      by_cases g2 : msb = msb2
      · subst g2
        by_cases g3 : lsb = lsb2
        · subst g3
          have HR := hide (show r = true by rw [HV.out]; simp [])
          go_enter Tryz.func68, Tryz.ntmps68
          go_wp2
          any_goals first | (rename_i hu hb; exact (undef_bool hu).elim) | skip
          go_ret
          exact ⟨by rw [HR.out]; first | done | rfl | simp, HB.out⟩
        · skip
          have e1 : (lsb == lsb2) = false := beq_eq_false_iff_ne.2 g3
          have HR := hide (show r = false by rw [HV.out]; simp [g3])
          go_enter Tryz.func68, Tryz.ntmps68
          go_wp2
          any_goals first | (rename_i hu hb; exact (undef_bool hu).elim) | skip
          go_ret
          exact ⟨by rw [HR.out]; first | done | rfl | simp, HB.out⟩
      · skip
        have e1 : (msb == msb2) = false := beq_eq_false_iff_ne.2 g2
        have HR := hide (show r = false by rw [HV.out]; simp [g2])
        go_enter Tryz.func68, Tryz.ntmps68
        go_wp2
        any_goals first | (rename_i hu hb; exact (undef_bool hu).elim) | skip
        go_ret
        exact ⟨by rw [HR.out]; first | done | rfl | simp, HB.out⟩
    · skip
      have e1 : (rg == rg2) = false := beq_eq_false_iff_ne.2 g1
      have HR := hide (show r = false by rw [HV.out]; simp [g1])
      go_enter Tryz.func68, Tryz.ntmps68
      go_wp2
      any_goals first | (rename_i hu hb; exact (undef_bool hu).elim) | skip
      go_ret
      exact ⟨by rw [HR.out]; first | done | rfl | simp, HB.out⟩
  · skip
    have e1 : (nm.toList == nm2.toList) = false := by rw [bytes_beqH]; exact decide_eq_false g0
    have e2 : ¬ nm.toList = nm2.toList := fun e => g0 ((bytes_iffH nm nm2).1 e)
    have HR := hide (show r = false by rw [HV.out]; simp [g0])
    go_enter Tryz.func68, Tryz.ntmps68
    go_wp2
    any_goals first | (rename_i hu hb; exact (undef_bool hu).elim) | skip
    go_ret
    exact ⟨by rw [HR.out]; first | done | rfl | simp, HB.out⟩
set_option maxRecDepth 20000 in
set_option maxHeartbeats 16000000 in
theorem refCheck_any (scs : List Sc) (vs : List Va) (A A' : Option Addr) (cap cap' : Nat) (w : World) (H : InH w scs vs A A' cap') :
    Calls Tryz.prog 32 #[.slice A scs.length cap, .slice A' vs.length cap'] w fun e w' => e = .returned (.int .i64 (checkE scs vs)) ∧ Below w.heap.size w w' := by
  have HS := hide H.hs
  have HVS := hide H.hv
  have HZS := hide H.z
  have HZV := hide H.z'
  have DE := hide (fun (W : World) (hb : Below w.heap.size w W) => refDecl_any cap cap' (sc_below H.hs hb) (va_below H.hv hb) H.hl H.hl')
  have RP := hide (fun (hd : DeclS scs) (hl : scs.length ≤ 100000) (i : Int) (W : World) (hb : Below w.heap.size w W) => refPath_any cap i (sc_below H.hs hb) hd hl)
  have C1 := hide (@ck1 scs vs)
  have C2 := hide (@ck2 scs vs)
  have C3 := hide (@ck3 scs vs)
  have C4 := hide (@ck4 scs vs)
  have C5 := hide (@ck5 scs vs)
  have C6 := hide (@ck6 scs vs)
  have C7 := hide (@ck7 scs vs)
  have C8 := hide (@ck8 scs vs)
  generalize checkE scs vs = E at *
  obtain ⟨n, hn⟩ : ∃ n, scs.length = n := ⟨_, rfl⟩
  obtain ⟨m, hm⟩ : ∃ m, vs.length = m := ⟨_, rfl⟩
  have hl0 := H.hl
  have hl0' := H.hl'
  have DE' := DE.out
  have RP' := RP.out
  rw [hn] at DE' RP' hl0
  rw [hm] at DE' hl0'
  rw [hn, hm]
  have Hn := hide hn
  have Hm := hide hm
  have DE2 := hide DE'
  have RP2 := hide RP'
  clear H DE DE' RP RP' hn hm
  by_cases hlong : 32 < n ∨ 128 < m
  · have HR := hide (show E = 9 from C1.out (by rw [Hn.out, Hm.out]; exact hlong))
    rcases Classical.em (32 < n) with h1 | h1
    · have h1' : (32 : Int) < (n : Int) := by omega
      go_enter Tryz.func32, Tryz.ntmps32
      go_wp2
      any_goals first | (rename_i hu hb; exact (undef_bool hu).elim) | skip
      go_ret
      exact ⟨by rw [HR.out]; first | done | rfl, Below.refl _ _⟩
    · have h1' : ¬ (32 : Int) < (n : Int) := by omega
      have h2' : (128 : Int) < (m : Int) := by omega
      go_enter Tryz.func32, Tryz.ntmps32
      go_wp2
      any_goals first | (rename_i hu hb; exact (undef_bool hu).elim) | skip
      go_ret
      exact ⟨by rw [HR.out]; first | done | rfl, Below.refl _ _⟩
  have H1 := hide (show ¬ (32 < scs.length ∨ 128 < vs.length) by rw [Hn.out, Hm.out]; exact hlong)
  have hn32 : n ≤ 32 := by omega
  have hm128 : m ≤ 128 := by omega
  have hn1 : ¬ (32 : Int) < (n : Int) := by omega
  have hm1 : ¬ (128 : Int) < (m : Int) := by omega
  clear hlong C1
  go_enter Tryz.func32, Tryz.ntmps32
  go_wp2_with fail
  refine (DE2.out w (Below.refl _ _)).mono ?_
  rintro e w1 ⟨rfl, rfl⟩
  have HB := hide (Below.refl w.heap.size w)
  cases hdb : declB scs vs with
  | false =>
    have HR := hide (show E = 1 from C2.out H1.out hdb)
    go_wp2
    any_goals first | (rename_i hu hb; exact (undef_bool hu).elim) | skip
    go_ret
    exact ⟨by rw [HR.out]; first | done | rfl, HB.out⟩
  | true =>
    have H2 := hide hdb
    have HD := hide (decl_of hdb)
    have RP3 := hide (RP2.out (decl_of hdb) (by omega))
    clear hdb
    go_wp2_with fail
    go_loopw [5] (fun v wr => ∃ i : Nat, v = .int .i64 (i : Int) ∧ i ≤ n ∧ Hid (∀ j, j < scs.length → j < i → ¬ 8 < (refP scs (j : Int)).length) ∧ Hid (Below w.heap.size w wr)) (fun v _ => n - (intOf v).toNat)
    case atStart => exact ⟨0, rfl, Nat.zero_le _, hide (fun j h h2 => absurd h2 (by omega)), HB⟩
    case round =>
      obtain ⟨i, rfl, hi, HA, HB⟩ := hrel
      by_cases hlt : i < n
      · have hi' : (i : Int) < (n : Int) := by omega
        have hi0 : (0 : Int) ≤ (i : Int) := by omega
        have hw1 : IntKind.i64.wrap ((i : Int) + 1) = (i : Int) + 1 := IntWalk.i64_in _ (by omega)
        have hix : i < scs.length := by rw [Hn.out]; exact hlt
        have RPi := hide (RP3.out (i : Int))
        have HH := hide (fun h => deep_hit hix h)
        have hpl := refP_len scs (i : Int)
        rw [Hn.out] at hpl
        have HA2 := hide (fun (h : ¬ 8 < (refP scs (i : Int)).length) (j : Nat) (hj : j < scs.length) (hji : j < i + 1) => show ¬ 8 < (refP scs (j : Int)).length from by
          rcases Nat.lt_or_ge j i with h1 | h1
          · exact HA.out j hj h1
          · obtain rfl : j = i := by omega
            exact h)
        generalize refP scs (i : Int) = P at *
        go_wp2_with fail
        refine (RPi.out wr HB.out).mono ?_
        rintro e w5 ⟨g5, c5, rfl, _, hb5⟩
        have HB2 := hide (HB.out.trans (hb5.mono HB.out.size))
        clear hb5
        by_cases h8 : 8 < P.length
        · have h8' : (8 : Int) < (P.length : Int) := by omega
          have HR := hide (show E = 9 from C3.out H1.out H2.out (HH.out h8))
          go_wp2
          any_goals first | (rename_i hu hb; exact (undef_bool hu).elim) | skip
          go_ret
          exact ⟨by rw [HR.out]; first | done | rfl, HB2.out⟩
        · have h8' : ¬ (8 : Int) < (P.length : Int) := by omega
          have HA3 := hide (HA2.out h8)
          go_wp2
          go_roundw
          case rel => exact ⟨i + 1, by go_num, by omega, HA3, HB2⟩
          case measure => simp [intOf]; omega
      · obtain rfl : n = i := by omega
        have hi' : ¬ (n : Int) < (n : Int) := by omega
        have H3 := hide (deep_none (fun j hj => HA.out j hj (by rw [← Hn.out]; exact hj)))
        clear HA
        go_wp2_with fail
        go_loopw [6] (fun v wr => ∃ i : Nat, v = .int .i64 (i : Int) ∧ i ≤ n ∧ Hid (∀ j (h : j < scs.length), j < i → badS scs[j] = false) ∧ Hid (Below w.heap.size w wr)) (fun v _ => n - (intOf v).toNat)
        case atStart => exact ⟨0, rfl, Nat.zero_le _, hide (fun j h h2 => absurd h2 (by omega)), HB⟩
        case round =>
          obtain ⟨i, rfl, hi, HA, HB⟩ := hrel
          by_cases hlt : i < n
          · have hi' : (i : Int) < (n : Int) := by omega
            have hi0 : (0 : Int) ≤ (i : Int) := by omega
            have hw1 : IntKind.i64.wrap ((i : Int) + 1) = (i : Int) + 1 := IntWalk.i64_in _ (by omega)
            have hix : i < scs.length := by rw [Hn.out]; exact hlt
            obtain ⟨b, off, rfl, hbz, hat⟩ := sc_at HS.out hix
            obtain ⟨c0, c1, c2⟩ := hat wr HB.out
            have hz := HZS.out _ (List.getElem_mem hix)
            have HH := hide (fun h => any_one (f := fun x : Sc => badS x) hix h)
            have HA2 := hide (fun (h : badS scs[i] = false) (j : Nat) (hj : j < scs.length) (hji : j < i + 1) => show badS scs[j] = false from by
              rcases Nat.lt_or_ge j i with h1 | h1
              · exact HA.out j hj h1
              · obtain rfl : j = i := by omega
                exact h)
            generalize scs[i]'hix = x at *
            obtain ⟨nm, ty, pa⟩ := x
            simp only at c0 c1 c2 hz HH HA2
            clear hat
            have RV := hide (refValid_any nm wr (by omega))
            have hbv : badS ⟨nm, ty, pa⟩ = !vN nm.data.toList := rfl
            rw [hbv] at HH HA2
            clear hbv
            go_wp2_with fail
            refine RV.out.mono ?_
            rintro e w5 ⟨rfl, rfl⟩
            have HB2 := HB
            cases hv : vN nm.data.toList with
            | false =>
              have HR := hide (show E = 4 from C4.out H1.out H2.out H3.out (by rw [HH.out (by rw [hv]; rfl)]; rfl))
              go_wp2
              any_goals first | (rename_i hu hb; exact (undef_bool hu).elim) | skip
              go_ret
              exact ⟨by rw [HR.out]; first | done | rfl, HB2.out⟩
            | true =>
              have HA3 := hide (HA2.out (by rw [hv]; rfl))
              go_wp2
              go_roundw
              case rel => exact ⟨i + 1, by go_num, by omega, HA3, HB2⟩
              case measure => simp [intOf]; omega
          · obtain rfl : n = i := by omega
            have hi' : ¬ (n : Int) < (n : Int) := by omega
            have HN6 := hide (any_none (f := fun x : Sc => badS x) (fun j hj => HA.out j hj (by rw [← Hn.out]; exact hj)))
            clear HA
            go_wp2_with fail
            go_loopw [7] (fun v wr => ∃ i : Nat, v = .int .i64 (i : Int) ∧ i ≤ m ∧ Hid (∀ j (h : j < vs.length), j < i → badN vs[j] = false) ∧ Hid (Below w.heap.size w wr)) (fun v _ => m - (intOf v).toNat)
            case atStart => exact ⟨0, rfl, Nat.zero_le _, hide (fun j h h2 => absurd h2 (by omega)), HB⟩
            case round =>
              obtain ⟨i, rfl, hi, HA, HB⟩ := hrel
              by_cases hlt : i < m
              · have hi' : (i : Int) < (m : Int) := by omega
                have hi0 : (0 : Int) ≤ (i : Int) := by omega
                have hw1 : IntKind.i64.wrap ((i : Int) + 1) = (i : Int) + 1 := IntWalk.i64_in _ (by omega)
                have hix : i < vs.length := by rw [Hm.out]; exact hlt
                obtain ⟨b, off, rfl, hbz, hat⟩ := va_at HVS.out hix
                obtain ⟨c0, c1, c2, c3, c4, c5, c6⟩ := hat wr HB.out
                have hz := HZV.out _ (List.getElem_mem hix)
                have HH := hide (fun h => any_one (f := fun x : Va => badN x) hix h)
                have HA2 := hide (fun (h : badN vs[i] = false) (j : Nat) (hj : j < vs.length) (hji : j < i + 1) => show badN vs[j] = false from by
                  rcases Nat.lt_or_ge j i with h1 | h1
                  · exact HA.out j hj h1
                  · obtain rfl : j = i := by omega
                    exact h)
                generalize vs[i]'hix = x at *
                obtain ⟨nm, ty, sc, sg, rg, msb, lsb⟩ := x
                simp only at c0 c1 c2 c3 c4 c5 c6 hz HH HA2
                clear hat
                have RV := hide (refValid_any nm wr (by omega))
                have hbv : badN ⟨nm, ty, sc, sg, rg, msb, lsb⟩ = !vN nm.data.toList := rfl
                rw [hbv] at HH HA2
                clear hbv
                go_wp2_with fail
                refine RV.out.mono ?_
                rintro e w5 ⟨rfl, rfl⟩
                have HB2 := HB
                cases hv : vN nm.data.toList with
                | false =>
                  have HR := hide (show E = 4 from C4.out H1.out H2.out H3.out (by rw [HH.out (by rw [hv]; rfl), Bool.or_true]))
                  go_wp2
                  any_goals first | (rename_i hu hb; exact (undef_bool hu).elim) | skip
                  go_ret
                  exact ⟨by rw [HR.out]; first | done | rfl, HB2.out⟩
                | true =>
                  have HA3 := hide (HA2.out (by rw [hv]; rfl))
                  go_wp2
                  go_roundw
                  case rel => exact ⟨i + 1, by go_num, by omega, HA3, HB2⟩
                  case measure => simp [intOf]; omega
              · obtain rfl : m = i := by omega
                have hi' : ¬ (m : Int) < (m : Int) := by omega
                have HN7 := hide (any_none (f := fun x : Va => badN x) (fun j hj => HA.out j hj (by rw [← Hm.out]; exact hj)))
                clear HA
                have H4 := hide (show (scs.any badS || vs.any badN) = false by rw [show scs.any badS = false from HN6.out, show vs.any badN = false from HN7.out]; rfl)
                go_wp2_with fail
                go_loopw [8] (fun v wr => ∃ i : Nat, v = .int .i64 (i : Int) ∧ i ≤ n ∧ Hid (∀ j (h : j < scs.length), j < i → badT (scs[j]).typ 4 = false) ∧ Hid (Below w.heap.size w wr)) (fun v _ => n - (intOf v).toNat)
                case atStart => exact ⟨0, rfl, Nat.zero_le _, hide (fun j h h2 => absurd h2 (by omega)), HB⟩
                case round =>
                  obtain ⟨i, rfl, hi, HA, HB⟩ := hrel
                  by_cases hlt : i < n
                  · have hi' : (i : Int) < (n : Int) := by omega
                    have hi0 : (0 : Int) ≤ (i : Int) := by omega
                    have hw1 : IntKind.i64.wrap ((i : Int) + 1) = (i : Int) + 1 := IntWalk.i64_in _ (by omega)
                    have hix : i < scs.length := by rw [Hn.out]; exact hlt
                    obtain ⟨b, off, rfl, hbz, hat⟩ := sc_at HS.out hix
                    obtain ⟨c0, c1, c2⟩ := hat wr HB.out
                    have hz := HZS.out _ (List.getElem_mem hix)
                    have HH := hide (fun h => any_one (f := fun x : Sc => badT (x).typ 4) hix h)
                    have HA2 := hide (fun (h : badT (scs[i]).typ 4 = false) (j : Nat) (hj : j < scs.length) (hji : j < i + 1) => show badT (scs[j]).typ 4 = false from by
                      rcases Nat.lt_or_ge j i with h1 | h1
                      · exact HA.out j hj h1
                      · obtain rfl : j = i := by omega
                        exact h)
                    generalize scs[i]'hix = x at *
                    obtain ⟨nm, ty, pa⟩ := x
                    simp only at c0 c1 c2 hz HH HA2
                    clear hat
                    have HB2 := HB
                    by_cases t1 : ty < 0
                    · skip
                      have HR := hide (show E = 7 from C5.out H1.out H2.out H3.out H4.out (by rw [HH.out (by unfold badT; rw [decide_eq_true t1]; rfl)]; rfl))
                      go_wp2
                      any_goals first | (rename_i hu hb; exact (undef_bool hu).elim) | skip
                      go_ret
                      exact ⟨by rw [HR.out]; first | done | rfl, HB2.out⟩
                    · by_cases t2 : (4 : Int) < ty
                      · skip
                        have HR := hide (show E = 7 from C5.out H1.out H2.out H3.out H4.out (by rw [HH.out (by unfold badT; rw [decide_eq_true t2, Bool.or_true])]; rfl))
                        go_wp2
                        any_goals first | (rename_i hu hb; exact (undef_bool hu).elim) | skip
                        go_ret
                        exact ⟨by rw [HR.out]; first | done | rfl, HB2.out⟩
                      · have HA3 := hide (HA2.out (by unfold badT; rw [decide_eq_false t1, decide_eq_false t2]; rfl))
                        go_wp2
                        go_roundw
                        case rel => exact ⟨i + 1, by go_num, by omega, HA3, HB2⟩
                        case measure => simp [intOf]; omega
                  · obtain rfl : n = i := by omega
                    have hi' : ¬ (n : Int) < (n : Int) := by omega
                    have HN8 := hide (any_none (f := fun x : Sc => badT (x).typ 4) (fun j hj => HA.out j hj (by rw [← Hn.out]; exact hj)))
                    clear HA
                    go_wp2_with fail
                    go_loopw [9] (fun v wr => ∃ i : Nat, v = .int .i64 (i : Int) ∧ i ≤ m ∧ Hid (∀ j (h : j < vs.length), j < i → badT (vs[j]).typ 18 = false) ∧ Hid (Below w.heap.size w wr)) (fun v _ => m - (intOf v).toNat)
                    case atStart => exact ⟨0, rfl, Nat.zero_le _, hide (fun j h h2 => absurd h2 (by omega)), HB⟩
                    case round =>
                      obtain ⟨i, rfl, hi, HA, HB⟩ := hrel
                      by_cases hlt : i < m
                      · have hi' : (i : Int) < (m : Int) := by omega
                        have hi0 : (0 : Int) ≤ (i : Int) := by omega
                        have hw1 : IntKind.i64.wrap ((i : Int) + 1) = (i : Int) + 1 := IntWalk.i64_in _ (by omega)
                        have hix : i < vs.length := by rw [Hm.out]; exact hlt
                        obtain ⟨b, off, rfl, hbz, hat⟩ := va_at HVS.out hix
                        obtain ⟨c0, c1, c2, c3, c4, c5, c6⟩ := hat wr HB.out
                        have hz := HZV.out _ (List.getElem_mem hix)
                        have HH := hide (fun h => any_one (f := fun x : Va => badT (x).typ 18) hix h)
                        have HA2 := hide (fun (h : badT (vs[i]).typ 18 = false) (j : Nat) (hj : j < vs.length) (hji : j < i + 1) => show badT (vs[j]).typ 18 = false from by
                          rcases Nat.lt_or_ge j i with h1 | h1
                          · exact HA.out j hj h1
                          · obtain rfl : j = i := by omega
                            exact h)
                        generalize vs[i]'hix = x at *
                        obtain ⟨nm, ty, sc, sg, rg, msb, lsb⟩ := x
                        simp only at c0 c1 c2 c3 c4 c5 c6 hz HH HA2
                        clear hat
                        have HB2 := HB
                        by_cases t1 : ty < 0
                        · skip
                          have HR := hide (show E = 7 from C5.out H1.out H2.out H3.out H4.out (by rw [HH.out (by unfold badT; rw [decide_eq_true t1]; rfl), Bool.or_true]))
                          go_wp2
                          any_goals first | (rename_i hu hb; exact (undef_bool hu).elim) | skip
                          go_ret
                          exact ⟨by rw [HR.out]; first | done | rfl, HB2.out⟩
                        · by_cases t2 : (18 : Int) < ty
                          · skip
                            have HR := hide (show E = 7 from C5.out H1.out H2.out H3.out H4.out (by rw [HH.out (by unfold badT; rw [decide_eq_true t2, Bool.or_true]), Bool.or_true]))
                            go_wp2
                            any_goals first | (rename_i hu hb; exact (undef_bool hu).elim) | skip
                            go_ret
                            exact ⟨by rw [HR.out]; first | done | rfl, HB2.out⟩
                          · have HA3 := hide (HA2.out (by unfold badT; rw [decide_eq_false t1, decide_eq_false t2]; rfl))
                            go_wp2
                            go_roundw
                            case rel => exact ⟨i + 1, by go_num, by omega, HA3, HB2⟩
                            case measure => simp [intOf]; omega
                      · obtain rfl : m = i := by omega
                        have hi' : ¬ (m : Int) < (m : Int) := by omega
                        have HN9 := hide (any_none (f := fun x : Va => badT (x).typ 18) (fun j hj => HA.out j hj (by rw [← Hm.out]; exact hj)))
                        clear HA
                        have H5 := hide (show ((scs.any fun x => badT x.typ 4) || (vs.any fun v => badT v.typ 18)) = false by rw [show (scs.any fun x => badT x.typ 4) = false from HN8.out, show (vs.any fun v => badT v.typ 18) = false from HN9.out]; rfl)
                        go_wp2_with fail
                        go_loopw [10] (fun v wr => ∃ i : Nat, v = .int .i64 (i : Int) ∧ i ≤ m ∧ Hid (∀ j (h : j < vs.length), j < i → badR vs[j] = false) ∧ Hid (Below w.heap.size w wr)) (fun v _ => m - (intOf v).toNat)
                        case atStart => exact ⟨0, rfl, Nat.zero_le _, hide (fun j h h2 => absurd h2 (by omega)), HB⟩
                        case round =>
                          obtain ⟨i, rfl, hi, HA, HB⟩ := hrel
                          by_cases hlt : i < m
                          · have hi' : (i : Int) < (m : Int) := by omega
                            have hi0 : (0 : Int) ≤ (i : Int) := by omega
                            have hw1 : IntKind.i64.wrap ((i : Int) + 1) = (i : Int) + 1 := IntWalk.i64_in _ (by omega)
                            have hix : i < vs.length := by rw [Hm.out]; exact hlt
                            obtain ⟨b, off, rfl, hbz, hat⟩ := va_at HVS.out hix
                            obtain ⟨c0, c1, c2, c3, c4, c5, c6⟩ := hat wr HB.out
                            have hz := HZV.out _ (List.getElem_mem hix)
                            have HH := hide (fun h => any_one (f := fun x : Va => badR x) hix h)
                            have HA2 := hide (fun (h : badR vs[i] = false) (j : Nat) (hj : j < vs.length) (hji : j < i + 1) => show badR vs[j] = false from by
                              rcases Nat.lt_or_ge j i with h1 | h1
                              · exact HA.out j hj h1
                              · obtain rfl : j = i := by omega
                                exact h)
                            generalize vs[i]'hix = x at *
                            obtain ⟨nm, ty, sc, sg, rg, msb, lsb⟩ := x
                            simp only at c0 c1 c2 c3 c4 c5 c6 hz HH HA2
                            clear hat
                            have HBA := hide (HB.out.alloc HB.out.size (.cells #[.string nm, .int .i64 ty, .int .i64 sc, .int .i64 sg, .bool rg, .int .i64 msb, .int .i64 lsb] 33))
                            have RW := hide (refWidth_any msb lsb (wr.alloc (.cells #[.string nm, .int .i64 ty, .int .i64 sc, .int .i64 sg, .bool rg, .int .i64 msb, .int .i64 lsb] 33)))
                            cases rg with
                            | true =>
                              have hbr : badR ⟨nm, ty, sc, sg, true, msb, lsb⟩ = decide (widthS msb lsb = 0) := rfl
                              rw [hbr] at HH HA2
                              clear hbr
                              go_wp2_with fail
                              refine RW.out.mono ?_
                              rintro e w5 ⟨rfl, rfl⟩
                              have HB2 := HBA
                              generalize widthS msb lsb = W9 at *
                              by_cases h0 : W9 = 0
                              · subst h0
                                have HR := hide (show E = 2 from C6.out H1.out H2.out H3.out H4.out H5.out (HH.out rfl))
                                go_wp2
                                any_goals first | (rename_i hu hb; exact (undef_bool hu).elim) | skip
                                go_ret
                                exact ⟨by rw [HR.out]; first | done | rfl, HB2.out⟩
                              · have h0' : (W9 == 0) = false := beq_eq_false_iff_ne.2 h0
                                have HA3 := hide (HA2.out (decide_eq_false h0))
                                go_wp2
                                go_roundw
                                case rel => exact ⟨i + 1, by go_num, by omega, HA3, HB2⟩
                                case measure => simp [intOf]; omega
                            | false =>
                              have hbr : badR ⟨nm, ty, sc, sg, false, msb, lsb⟩ = (decide (msb ≠ 0) || decide (lsb ≠ 0)) := rfl
                              rw [hbr] at HH HA2
                              clear hbr
                              have HB2 := HBA
                              by_cases h0 : msb = 0
                              · subst h0
                                by_cases h1 : lsb = 0
                                · subst h1
                                  have HA3 := hide (HA2.out (by decide))
                                  go_wp2
                                  go_roundw
                                  case rel => exact ⟨i + 1, by go_num, by omega, HA3, HB2⟩
                                  case measure => simp [intOf]; omega
                                · have h1' : (lsb == 0) = false := beq_eq_false_iff_ne.2 h1
                                  have HR := hide (show E = 2 from C6.out H1.out H2.out H3.out H4.out H5.out (HH.out (by simp [h1])))
                                  go_wp2
                                  any_goals first | (rename_i hu hb; exact (undef_bool hu).elim) | skip
                                  go_ret
                                  exact ⟨by rw [HR.out]; first | done | rfl, HB2.out⟩
                              · have h0' : (msb == 0) = false := beq_eq_false_iff_ne.2 h0
                                have HR := hide (show E = 2 from C6.out H1.out H2.out H3.out H4.out H5.out (HH.out (by simp [h0])))
                                go_wp2
                                any_goals first | (rename_i hu hb; exact (undef_bool hu).elim) | skip
                                go_ret
                                exact ⟨by rw [HR.out]; first | done | rfl, HB2.out⟩
                          · obtain rfl : m = i := by omega
                            have hi' : ¬ (m : Int) < (m : Int) := by omega
                            have HN10 := hide (any_none (f := fun x : Va => badR x) (fun j hj => HA.out j hj (by rw [← Hm.out]; exact hj)))
                            clear HA
                            have H6 := hide (show vs.any badR = false from HN10.out)
                            go_wp2_with fail
                            go_loopw [12] (fun v wr => ∃ i : Nat, v = .int .i64 (i : Int) ∧ i ≤ n ∧ Hid (∀ a (ha : a < scs.length), a < i → ∀ b (hb : b < a), childK scs[a] ≠ childK (scs[b]'(Nat.lt_trans hb ha))) ∧ Hid (Below w.heap.size w wr)) (fun v _ => n - (intOf v).toNat)
                            case atStart => exact ⟨0, rfl, Nat.zero_le _, hide (fun j h h2 => absurd h2 (by omega)), HB⟩
                            case round =>
                              obtain ⟨i, rfl, hi, HA, HB⟩ := hrel
                              by_cases hlt : i < n
                              · have hi' : (i : Int) < (n : Int) := by omega
                                have hi0 : (0 : Int) ≤ (i : Int) := by omega
                                have hw1 : IntKind.i64.wrap ((i : Int) + 1) = (i : Int) + 1 := IntWalk.i64_in _ (by omega)
                                have hix : i < scs.length := by rw [Hn.out]; exact hlt
                                obtain ⟨WO, hWO⟩ : ∃ WO, WO = wr := ⟨_, rfl⟩
                                subst hWO
                                go_wp2_with fail
                                go_loopw [13] (fun v wr => ∃ k : Nat, v = .int .i64 (k : Int) ∧ k ≤ i ∧ Hid (∀ b (hb : b < i), b < k → childK (scs[i]'hix) ≠ childK (scs[b]'(Nat.lt_trans hb hix))) ∧ Hid (Below w.heap.size w wr)) (fun v _ => i - (intOf v).toNat)
                                case atStart => exact ⟨0, rfl, Nat.zero_le _, hide (fun j h h2 => absurd h2 (by omega)), HB⟩
                                case round =>
                                  obtain ⟨k, rfl, hk, HC, HB⟩ := hrel
                                  by_cases hlt2 : k < i
                                  · have hk' : (k : Int) < (i : Int) := by omega
                                    have hk0 : (0 : Int) ≤ (k : Int) := by omega
                                    have hkn : (k : Int) < (n : Int) := by omega
                                    have hw2 : IntKind.i64.wrap ((k : Int) + 1) = (k : Int) + 1 := IntWalk.i64_in _ (by omega)
                                    have hkx : k < scs.length := Nat.lt_trans hlt2 hix
                                    have HH := hide (fun (h : childK (scs[i]'hix) = childK (scs[k]'hkx)) => not_nodup_pair hix hlt2 h)
                                    have HC2 := hide (fun (h : childK (scs[i]'hix) ≠ childK (scs[k]'hkx)) (b : Nat) (hb : b < i) (hbk : b < k + 1) => show childK (scs[i]'hix) ≠ childK (scs[b]'(Nat.lt_trans hb hix)) from by
                                      rcases Nat.lt_or_ge b k with h1 | h1
                                      · exact HC.out b hb h1
                                      · obtain rfl : b = k := by omega
                                        exact h)
                                    obtain ⟨b, off, rfl, hbz, hat⟩ := sc_at HS.out hix
                                    obtain ⟨b', off', heq', hbz', hat'⟩ := sc_at HS.out hkx
                                    cases heq'
                                    obtain ⟨c0, c1, c2⟩ := hat wr HB.out
                                    obtain ⟨d0, d1, d2⟩ := hat' wr HB.out
                                    clear hat hat'
                                    generalize scs[i]'hix = x at *
                                    generalize scs[k]'hkx = y at *
                                    obtain ⟨nm, ty, pa⟩ := x
                                    obtain ⟨nm2, ty2, pa2⟩ := y
                                    simp only at c0 c2 d0 d2
                                    have hk1 : childK ⟨nm, ty, pa⟩ = (pa, nm) := rfl
                                    have hk2 : childK ⟨nm2, ty2, pa2⟩ = (pa2, nm2) := rfl
                                    rw [hk1, hk2] at HH HC2
                                    clear hk1 hk2
                                    by_cases e1 : pa = pa2
                                    · subst e1
                                      have q1 : (pa == pa) = true := beq_self_eq_true _
                                      by_cases e2 : nm = nm2
                                      · subst e2
                                        have q2 : (nm.toList == nm.toList) = true := beq_self_eq_true _
                                        have HR := hide (show E = 5 from C7.out H1.out H2.out H3.out H4.out H5.out H6.out (.inl (HH.out rfl)))
                                        go_wp2_with fail
                                        go_quiet (fail)
                                        go_wp2
                                        go_ret
                                        exact ⟨by rw [HR.out]; first | done | rfl, Below_drewN HB.out _⟩
                                      · have q2 : (nm.toList == nm2.toList) = false := by rw [bytes_beqH]; exact decide_eq_false e2
                                        have q3 : ¬ nm.toList = nm2.toList := fun e => e2 ((bytes_iffH nm nm2).1 e)
                                        have HC3 := hide (HC2.out (fun h => e2 (Prod.mk.inj h).2))
                                        go_wp2_with fail
                                        go_quiet (fail)
                                        have HB2 := hide (Below_drewN HB.out nq)
                                        go_wp2
                                        go_roundw
                                        case rel => exact ⟨k + 1, by go_num, by omega, HC3, HB2⟩
                                        case measure => simp [intOf]; omega
                                    · have q1 : (pa == pa2) = false := beq_eq_false_iff_ne.2 e1
                                      have HC3 := hide (HC2.out (fun h => e1 (Prod.mk.inj h).1))
                                      go_wp2_with fail
                                      go_quiet (fail)
                                      have HB2 := hide (Below_drewN HB.out nq)
                                      go_wp2
                                      go_roundw
                                      case rel => exact ⟨k + 1, by go_num, by omega, HC3, HB2⟩
                                      case measure => simp [intOf]; omega
                                  · obtain rfl : k = i := by omega
                                    have hk' : ¬ (k : Int) < (k : Int) := by omega
                                    have HA3 := hide (show ∀ a (ha : a < scs.length), a < k + 1 → ∀ b (hb : b < a), childK scs[a] ≠ childK (scs[b]'(Nat.lt_trans hb ha)) from fun a ha hak b hb => by
                                      rcases Nat.lt_or_ge a k with h1 | h1
                                      · exact HA.out a ha h1 b hb
                                      · obtain rfl : a = k := by omega
                                        exact HC.out b hb hb)
                                    have HB2 := HB
                                    go_wp2
                                    go_roundw
                                    case rel => exact ⟨k + 1, by go_num, by omega, HA3, HB2⟩
                                    case measure => simp [intOf]; omega
                              · obtain rfl : n = i := by omega
                                have hi' : ¬ (n : Int) < (n : Int) := by omega
                                have HD12 := hide (nodup_pairs (f := childK) (xs := scs) (fun a ha b hb => HA.out a ha (by rw [← Hn.out]; exact ha) b hb))
                                clear HA
                                go_wp2_with fail
                                go_loopw [14] (fun v wr => ∃ i : Nat, v = .int .i64 (i : Int) ∧ i ≤ m ∧ Hid (∀ a (ha : a < vs.length), a < i → ∀ b (hb : b < a), entryK vs[a] ≠ entryK (vs[b]'(Nat.lt_trans hb ha))) ∧ Hid (Below w.heap.size w wr)) (fun v _ => m - (intOf v).toNat)
                                case atStart => exact ⟨0, rfl, Nat.zero_le _, hide (fun j h h2 => absurd h2 (by omega)), HB⟩
                                case round =>
                                  obtain ⟨i, rfl, hi, HA, HB⟩ := hrel
                                  by_cases hlt : i < m
                                  · have hi' : (i : Int) < (m : Int) := by omega
                                    have hi0 : (0 : Int) ≤ (i : Int) := by omega
                                    have hw1 : IntKind.i64.wrap ((i : Int) + 1) = (i : Int) + 1 := IntWalk.i64_in _ (by omega)
                                    have hix : i < vs.length := by rw [Hm.out]; exact hlt
                                    obtain ⟨WO, hWO⟩ : ∃ WO, WO = wr := ⟨_, rfl⟩
                                    subst hWO
                                    go_wp2_with fail
                                    go_loopw [15] (fun v wr => ∃ k : Nat, v = .int .i64 (k : Int) ∧ k ≤ i ∧ Hid (∀ b (hb : b < i), b < k → entryK (vs[i]'hix) ≠ entryK (vs[b]'(Nat.lt_trans hb hix))) ∧ Hid (Below w.heap.size w wr)) (fun v _ => i - (intOf v).toNat)
                                    case atStart => exact ⟨0, rfl, Nat.zero_le _, hide (fun j h h2 => absurd h2 (by omega)), HB⟩
                                    case round =>
                                      obtain ⟨k, rfl, hk, HC, HB⟩ := hrel
                                      by_cases hlt2 : k < i
                                      · have hk' : (k : Int) < (i : Int) := by omega
                                        have hk0 : (0 : Int) ≤ (k : Int) := by omega
                                        have hkn : (k : Int) < (m : Int) := by omega
                                        have hw2 : IntKind.i64.wrap ((k : Int) + 1) = (k : Int) + 1 := IntWalk.i64_in _ (by omega)
                                        have hkx : k < vs.length := Nat.lt_trans hlt2 hix
                                        have HH := hide (fun (h : entryK (vs[i]'hix) = entryK (vs[k]'hkx)) => not_nodup_pair hix hlt2 h)
                                        have HC2 := hide (fun (h : entryK (vs[i]'hix) ≠ entryK (vs[k]'hkx)) (b : Nat) (hb : b < i) (hbk : b < k + 1) => show entryK (vs[i]'hix) ≠ entryK (vs[b]'(Nat.lt_trans hb hix)) from by
                                          rcases Nat.lt_or_ge b k with h1 | h1
                                          · exact HC.out b hb h1
                                          · obtain rfl : b = k := by omega
                                            exact h)
                                        obtain ⟨b, off, rfl, hbz, hat⟩ := va_at HVS.out hix
                                        obtain ⟨b', off', heq', hbz', hat'⟩ := va_at HVS.out hkx
                                        cases heq'
                                        obtain ⟨c0, c1, c2, c3, c4, c5, c6⟩ := hat wr HB.out
                                        obtain ⟨d0, d1, d2, d3, d4, d5, d6⟩ := hat' wr HB.out
                                        clear hat hat'
                                        generalize vs[i]'hix = x at *
                                        generalize vs[k]'hkx = y at *
                                        obtain ⟨nm, ty, sc, sg, rg, msb, lsb⟩ := x
                                        obtain ⟨nm2, ty2, sc2, sg2, rg2, msb2, lsb2⟩ := y
                                        simp only at c0 c1 c2 c3 c4 c5 c6 d0 d1 d2 d3 d4 d5 d6
                                        have hk1 : entryK ⟨nm, ty, sc, sg, rg, msb, lsb⟩ = (sc, nm, rg, msb, lsb) := rfl
                                        have hk2 : entryK ⟨nm2, ty2, sc2, sg2, rg2, msb2, lsb2⟩ = (sc2, nm2, rg2, msb2, lsb2) := rfl
                                        rw [hk1, hk2] at HH HC2
                                        clear hk1 hk2
                                        by_cases e1 : sc = sc2
                                        · subst e1
                                          have q1 : (sc == sc) = true := beq_self_eq_true _
                                          have RS := hide (fun W => refSame_any ⟨nm, ty, sc, sg, rg, msb, lsb⟩ ⟨nm2, ty2, sc, sg2, rg2, msb2, lsb2⟩ W)
                                          have RS' := RS.out
                                          unfold vaV at RS'
                                          simp only at RS'
                                          have hsv : sameVB ⟨nm, ty, sc, sg, rg, msb, lsb⟩ ⟨nm2, ty2, sc, sg2, rg2, msb2, lsb2⟩ = true ↔ (nm = nm2 ∧ rg = rg2 ∧ msb = msb2 ∧ lsb = lsb2) := by unfold sameVB; simp [and_assoc]
                                          have HSV := hide hsv
                                          generalize sameVB ⟨nm, ty, sc, sg, rg, msb, lsb⟩ ⟨nm2, ty2, sc, sg2, rg2, msb2, lsb2⟩ = bb at *
                                          have RS2 := hide RS'
                                          clear RS RS' hsv
                                          go_wp2_with fail
                                          go_region_held3 (fun w' => w'.cell? ⟨b, off + i * 7, none⟩ = some (.string nm) ∧ w'.cell? ⟨b, off + i * 7 + 1, none⟩ = some (.int .i64 ty) ∧ w'.cell? ⟨b, off + i * 7 + 2, none⟩ = some (.int .i64 sc) ∧ w'.cell? ⟨b, off + i * 7 + 3, none⟩ = some (.int .i64 sg) ∧ w'.cell? ⟨b, off + i * 7 + 4, none⟩ = some (.bool rg) ∧ w'.cell? ⟨b, off + i * 7 + 5, none⟩ = some (.int .i64 msb) ∧ w'.cell? ⟨b, off + i * 7 + 6, none⟩ = some (.int .i64 lsb) ∧ w'.cell? ⟨b, off + k * 7, none⟩ = some (.string nm2) ∧ w'.cell? ⟨b, off + k * 7 + 1, none⟩ = some (.int .i64 ty2) ∧ w'.cell? ⟨b, off + k * 7 + 2, none⟩ = some (.int .i64 sc) ∧ w'.cell? ⟨b, off + k * 7 + 3, none⟩ = some (.int .i64 sg2) ∧ w'.cell? ⟨b, off + k * 7 + 4, none⟩ = some (.bool rg2) ∧ w'.cell? ⟨b, off + k * 7 + 5, none⟩ = some (.int .i64 msb2) ∧ w'.cell? ⟨b, off + k * 7 + 6, none⟩ = some (.int .i64 lsb2)) (go_keep) ((go_at_call 68; refine (RS2.out wr.drew).mono ?_; rintro e w5 ⟨rfl, hb5'⟩; have hb5 : Below wr.heap.size wr w5 := ⟨hb5'.os, hb5'.tape, hb5'.output, hb5'.size, hb5'.block⟩; clear hb5'; have hs0 : w5.cell? ⟨b, off + i * 7, none⟩ = some (.string nm) := (hb5.cell (p := ⟨b, off + i * 7, none⟩) (World.block_lt_of_cell? wr _ c0)).trans c0; have hs1 : w5.cell? ⟨b, off + i * 7 + 1, none⟩ = some (.int .i64 ty) := (hb5.cell (p := ⟨b, off + i * 7 + 1, none⟩) (World.block_lt_of_cell? wr _ c1)).trans c1; have hs2 : w5.cell? ⟨b, off + i * 7 + 2, none⟩ = some (.int .i64 sc) := (hb5.cell (p := ⟨b, off + i * 7 + 2, none⟩) (World.block_lt_of_cell? wr _ c2)).trans c2; have hs3 : w5.cell? ⟨b, off + i * 7 + 3, none⟩ = some (.int .i64 sg) := (hb5.cell (p := ⟨b, off + i * 7 + 3, none⟩) (World.block_lt_of_cell? wr _ c3)).trans c3; have hs4 : w5.cell? ⟨b, off + i * 7 + 4, none⟩ = some (.bool rg) := (hb5.cell (p := ⟨b, off + i * 7 + 4, none⟩) (World.block_lt_of_cell? wr _ c4)).trans c4; have hs5 : w5.cell? ⟨b, off + i * 7 + 5, none⟩ = some (.int .i64 msb) := (hb5.cell (p := ⟨b, off + i * 7 + 5, none⟩) (World.block_lt_of_cell? wr _ c5)).trans c5; have hs6 : w5.cell? ⟨b, off + i * 7 + 6, none⟩ = some (.int .i64 lsb) := (hb5.cell (p := ⟨b, off + i * 7 + 6, none⟩) (World.block_lt_of_cell? wr _ c6)).trans c6; have hs7 : w5.cell? ⟨b, off + k * 7, none⟩ = some (.string nm2) := (hb5.cell (p := ⟨b, off + k * 7, none⟩) (World.block_lt_of_cell? wr _ d0)).trans d0; have hs8 : w5.cell? ⟨b, off + k * 7 + 1, none⟩ = some (.int .i64 ty2) := (hb5.cell (p := ⟨b, off + k * 7 + 1, none⟩) (World.block_lt_of_cell? wr _ d1)).trans d1; have hs9 : w5.cell? ⟨b, off + k * 7 + 2, none⟩ = some (.int .i64 sc) := (hb5.cell (p := ⟨b, off + k * 7 + 2, none⟩) (World.block_lt_of_cell? wr _ d2)).trans d2; have hs10 : w5.cell? ⟨b, off + k * 7 + 3, none⟩ = some (.int .i64 sg2) := (hb5.cell (p := ⟨b, off + k * 7 + 3, none⟩) (World.block_lt_of_cell? wr _ d3)).trans d3; have hs11 : w5.cell? ⟨b, off + k * 7 + 4, none⟩ = some (.bool rg2) := (hb5.cell (p := ⟨b, off + k * 7 + 4, none⟩) (World.block_lt_of_cell? wr _ d4)).trans d4; have hs12 : w5.cell? ⟨b, off + k * 7 + 5, none⟩ = some (.int .i64 msb2) := (hb5.cell (p := ⟨b, off + k * 7 + 5, none⟩) (World.block_lt_of_cell? wr _ d5)).trans d5; have hs13 : w5.cell? ⟨b, off + k * 7 + 6, none⟩ = some (.int .i64 lsb2) := (hb5.cell (p := ⟨b, off + k * 7 + 6, none⟩) (World.block_lt_of_cell? wr _ d6)).trans d6; have HB2 := hide (HB.out.trans (hb5.mono HB.out.size)); clear hb5))
                                          cases bb with
                                          | true =>
                                            have HR := hide (show E = 5 from C7.out H1.out H2.out H3.out H4.out H5.out H6.out (.inr (HH.out (by obtain ⟨g1, g2, g3, g4⟩ := HSV.out.1 rfl; rw [g1, g2, g3, g4]))))
                                            go_wp2
                                            go_ret
                                            exact ⟨by rw [HR.out]; first | done | rfl, HB2.out⟩
                                          | false =>
                                            have HC3 := hide (HC2.out (fun h => by obtain ⟨_, h2⟩ := Prod.mk.inj h; obtain ⟨g1, h3⟩ := Prod.mk.inj h2; obtain ⟨g2, h4⟩ := Prod.mk.inj h3; obtain ⟨g3, g4⟩ := Prod.mk.inj h4; exact absurd (HSV.out.2 ⟨g1, g2, g3, g4⟩) (by decide)))
                                            go_wp2
                                            go_roundw
                                            case rel => exact ⟨k + 1, by go_num, by omega, HC3, HB2⟩
                                            case measure => simp [intOf]; omega
                                        · have q1 : (sc == sc2) = false := beq_eq_false_iff_ne.2 e1
                                          have HC3 := hide (HC2.out (fun h => e1 (Prod.mk.inj h).1))
                                          go_wp2_with fail
                                          go_quiet (fail)
                                          have HB2 := hide (Below_drewN HB.out nq)
                                          go_wp2
                                          go_roundw
                                          case rel => exact ⟨k + 1, by go_num, by omega, HC3, HB2⟩
                                          case measure => simp [intOf]; omega
                                      · obtain rfl : k = i := by omega
                                        have hk' : ¬ (k : Int) < (k : Int) := by omega
                                        have HA3 := hide (show ∀ a (ha : a < vs.length), a < k + 1 → ∀ b (hb : b < a), entryK vs[a] ≠ entryK (vs[b]'(Nat.lt_trans hb ha)) from fun a ha hak b hb => by
                                          rcases Nat.lt_or_ge a k with h1 | h1
                                          · exact HA.out a ha h1 b hb
                                          · obtain rfl : a = k := by omega
                                            exact HC.out b hb hb)
                                        have HB2 := HB
                                        go_wp2
                                        go_roundw
                                        case rel => exact ⟨k + 1, by go_num, by omega, HA3, HB2⟩
                                        case measure => simp [intOf]; omega
                                  · obtain rfl : m = i := by omega
                                    have hi' : ¬ (m : Int) < (m : Int) := by omega
                                    have HD14 := hide (nodup_pairs (f := entryK) (xs := vs) (fun a ha b hb => HA.out a ha (by rw [← Hm.out]; exact ha) b hb))
                                    clear HA
                                    have HR := hide (show E = 0 from C8.out H1.out H2.out H3.out H4.out H5.out H6.out HD12.out HD14.out)
                                    go_wp2
                                    go_ret
                                    exact ⟨by rw [HR.out]; first | done | rfl, HB.out⟩
end Go.Proofs.YtpfiofgchkfkhaaGreat
