/- MgO: the texts HlC HlF HlG in one. -/
import Derived.Test.YtpfiofgchkfkhaaGreatMgN
import Derived.Test.YtpfiofgchkfkhaaGreatMgK
import Derived.BigQuiet
import Derived.Deep.QuietTactic
/- Contracts of the reference's Valid, Depth, Names. -/
set_option linter.unusedVariables false
set_option linter.unusedSimpArgs false
namespace Go.Proofs.YtpfiofgchkfkhaaGreat
open Go.RowKit Go.Shelf Go.Maps
/-- the signals are numbered by their first use -/
def sgB : Nat → List Va → Bool
  | _, [] => true
  | c, v :: r => if (c : Int) < v.signal then false else if v.signal = c then sgB (c + 1) r else sgB c r
def inPreB (scs : List Sc) : Bool := (List.range scs.length).all fun i => decide (i = 0) || decide ((scH scs i).parent < 0) || insB scs (scH scs i).parent ((i : Int) - 1)
theorem intsN_len (n : Nat) : (intsN n).length = n := by unfold intsN; simp
theorem numF_sg : ∀ (l : List Va) (c : Nat), (∀ v ∈ l, 0 ≤ v.signal) → ((numF l (intsN c)).1 = l ↔ sgB c l = true)
  | [], c, _ => by simp [numF, sgB]
  | v :: r, c, h => by
    have h0 := h v (List.mem_cons_self ..)
    have hr := fun u hu => h u (List.mem_cons_of_mem _ hu)
    rw [numF_cons, sgB]
    simp only
    by_cases h1 : (c : Int) < v.signal
    · rw [if_pos h1]
      have hm : v.signal ∉ intsN c := fun e => by have := intsN_mem.1 e; omega
      have hi : (intsN c).idxOf v.signal = c := by rw [List.idxOf_eq_length hm, intsN_len]
      constructor
      · intro e
        have e1 := (List.cons.inj e).1
        have e2 := congrArg Va.signal e1
        simp only [hi] at e2
        omega
      · intro e; cases e
    · rw [if_neg h1]
      by_cases h2 : v.signal = c
      · have hm : v.signal ∉ intsN c := fun e => by have := intsN_mem.1 e; omega
        have hi : (intsN c).idxOf v.signal = c := by rw [List.idxOf_eq_length hm, intsN_len]
        rw [if_pos h2, if_neg hm, hi, h2, ← intsN_succ, ← numF_sg r (c + 1) hr]
        constructor
        · intro e; exact (List.cons.inj e).2
        · intro e; rw [e]; congr 1; rw [← h2]
      · obtain ⟨s, hs⟩ : ∃ s : Nat, v.signal = s := ⟨v.signal.toNat, by omega⟩
        have hm : v.signal ∈ intsN c := intsN_mem.2 ⟨by omega, by omega⟩
        have hi : (intsN c).idxOf v.signal = s := by rw [hs]; exact intsN_idx (by omega)
        rw [if_neg h2, if_pos hm, hi, ← numF_sg r c hr]
        constructor
        · intro e; exact (List.cons.inj e).2
        · intro e; rw [e]; congr 1; rw [← hs]
theorem inPre_iff {scs : List Sc} (hd : DeclS scs) : inPreB scs = true ↔ InPre scs := by
  unfold inPreB
  rw [List.all_eq_true]
  constructor
  · intro h i hi
    have h1 := h (i + 1) (List.mem_range.2 hi)
    obtain ⟨p1, p2⟩ := hd (i + 1) hi
    rw [Bool.or_eq_true, Bool.or_eq_true, decide_eq_true_eq, decide_eq_true_eq] at h1
    rcases h1 with (h1 | h1) | h1
    · omega
    · left; show (scH scs (i + 1)).parent = -1; omega
    · unfold insB at h1
      have h2 := of_decide_eq_true h1
      have e : (((i + 1 : Nat) : Int) - 1) = (i : Int) := by omega
      rw [e] at h2
      by_cases h3 : (scH scs (i + 1)).parent < 0
      · left; show (scH scs (i + 1)).parent = -1; omega
      · right; exact ⟨(scH scs (i + 1)).parent.toNat, by show (scH scs (i + 1)).parent = _; omega, h2⟩
  · intro h i hi
    have hi' := List.mem_range.1 hi
    cases i with
    | zero => simp
    | succ i =>
      rw [Bool.or_eq_true, Bool.or_eq_true, decide_eq_true_eq, decide_eq_true_eq]
      rcases h i hi' with h1 | ⟨q, h1, h2⟩
      · have h1' : (scH scs (i + 1)).parent = -1 := h1
        left; right; omega
      · right
        have h1' : (scH scs (i + 1)).parent = (q : Int) := h1
        unfold insB
        have e : (((i + 1 : Nat) : Int) - 1) = (i : Int) := by omega
        rw [e, h1']
        exact decide_eq_true h2
instance (vs : List Va) : Decidable (Asc vs) := by unfold Asc; infer_instance
theorem validH_ref {scs : List Sc} {vs : List Va} : validH scs vs = (decide (checkE scs vs = 0) && (inPreB scs && (decide (Asc vs) && sgB 0 vs))) := by
  by_cases hE : checkE scs vs = 0
  · have g := checkE_ok.1 hE
    rw [validH_good hE, decide_eq_true hE, Bool.true_and]
    by_cases hp : InPre scs
    · rw [(inPre_iff g.decl).2 hp, decide_eq_true ((orderS_iff g.decl g.child).2 hp), Bool.true_and, Bool.true_and]
      have hpre := (pre_range g.decl).2 hp
      have hin : ∀ v ∈ vs, -1 ≤ v.scope ∧ v.scope < scs.length := fun v hv => ⟨(g.declV v hv).1, (g.declV v hv).2.1⟩
      have e1 : orderV scs vs = numF (sortV scs.length vs) [] := by
        have : orderV scs vs = numF (sortV scs.length (moveV scs vs)) [] := rfl
        rw [this, moveV_id hpre hin]
      have h0 := numF_sg vs 0 (fun v hv => (g.declV v hv).2.2)
      have e0 : intsN 0 = [] := rfl
      rw [e0] at h0
      by_cases ha : Asc vs
      · rw [decide_eq_true ha, Bool.true_and]
        rw [e1, ← sort_eq (Srt.refl ha) hin]
        by_cases hs : sgB 0 vs = true
        · rw [hs]; exact decide_eq_true (h0.2 hs)
        · rw [decide_eq_false (fun e => hs (h0.1 e))]; simp at hs; rw [hs]
      · rw [decide_eq_false ha, Bool.false_and]
        refine decide_eq_false (fun e => ha ?_)
        rw [e1] at e
        have hb : (numF (sortV scs.length vs) []).1.map bareV = (sortV scs.length vs).map bareV := numF_bare _ _
        rw [e] at hb
        exact asc_bare hb (srt_sort hin).asc
    · have h1 : inPreB scs = false := by
        cases h : inPreB scs with
        | false => rfl
        | true => exact absurd ((inPre_iff g.decl).1 h) hp
      rw [h1, decide_eq_false (fun e => hp ((orderS_iff g.decl g.child).1 e))]; rfl
  · rw [validH_bad hE, decide_eq_false hE]; rfl
theorem asc_adj {vs : List Va} (h : ∀ j (hj : j < vs.length), 0 < j → ¬ vs[j].scope < (vs[j - 1]'(by omega)).scope) : Asc vs := by
  have key : ∀ d a (ha : a + d < vs.length), (vs[a]'(by omega)).scope ≤ vs[a + d].scope := by
    intro d
    induction d with
    | zero => intro a ha; exact Int.le_refl _
    | succ d ih =>
      intro a ha
      have h1 := ih a (by omega)
      have h2 := h (a + d + 1) ha (by omega)
      simp only [Nat.add_sub_cancel] at h2
      have e : vs[a + (d + 1)] = vs[a + d + 1]'ha := rfl
      rw [e]; omega
  unfold Asc
  rw [List.pairwise_iff_getElem]
  intro i j hi hj hij
  obtain ⟨d, rfl⟩ : ∃ d, j = i + d := ⟨j - i, by omega⟩
  exact key d i hj
theorem not_asc {vs : List Va} {j : Nat} (hj : j < vs.length) (h0 : 0 < j) (h : vs[j].scope < (vs[j - 1]'(by omega)).scope) : ¬ Asc vs := fun ha => by
  have := List.pairwise_iff_getElem.1 ha (j - 1) j (by omega) hj (by omega)
  omega
set_option maxRecDepth 20000 in
set_option maxHeartbeats 16000000 in
theorem refValid21_any (scs : List Sc) (vs : List Va) (A A' : Option Addr) (cap cap' : Nat) (w : World) (H : InH w scs vs A A' cap') :
    Calls Tryz.prog 10 #[.slice A scs.length cap, .slice A' vs.length cap'] w fun e w' => e = .returned (.bool (validH scs vs)) ∧ Below w.heap.size w w' := by
  have CK := hide (fun (W : World) (hb : Below w.heap.size w W) => refCheck_any scs vs A A' cap cap' W (H.below hb))
  have hVR := @validH_ref scs vs
  have HS := hide H.hs
  have HVS := hide H.hv
  have hl := H.hl
  have hl' := H.hl'
  by_cases hE : checkE scs vs = 0
  · have g := checkE_ok.1 hE
    have CK' := CK.out
    rw [hE] at CK'
    rw [decide_eq_true hE, Bool.true_and] at hVR
    have HG := hide g
    have IN := hide (fun (i : Nat) (hi : i + 1 < scs.length) (ho : 0 ≤ (scH scs (i + 1)).parent) (W : World) (hb : Below w.heap.size w W) => inside_any cap (scH scs (i + 1)).parent (i : Int) (sc_below H.hs hb) g.decl (by have := g.few; omega) ho (by have := g.decl (i + 1) hi; omega) (by omega) (by omega))
    generalize validH scs vs = r at *
    have HV := hide hVR
    obtain ⟨n, hn⟩ : ∃ n, scs.length = n := ⟨_, rfl⟩
    obtain ⟨m, hm⟩ : ∃ m, vs.length = m := ⟨_, rfl⟩
    have IN' := IN.out
    rw [hn] at CK' IN' hl
    rw [hm] at CK' hl'
    rw [hn, hm]
    have Hn := hide hn
    have Hm := hide hm
    have CK2 := hide CK'
    have IN2 := hide IN'
    clear H CK CK' IN IN' hVR g hE hn hm
    go_enter Tryz.func10, Tryz.ntmps10
    go_wp2_with fail
    refine (CK2.out w (Below.refl _ _)).mono ?_
    rintro e w1 ⟨rfl, hb⟩
    have HB := hide hb
    clear hb
    go_wp2_with fail
    go_loopw [5] (fun v wr => ∃ i : Nat, v = .int .i64 ((i : Int) + 1) ∧ (i ≤ n) ∧ Hid (∀ j, j < i → j + 1 < scs.length → (scH scs (j + 1)).parent < 0 ∨ insB scs (scH scs (j + 1)).parent (j : Int) = true) ∧ Hid (Below w.heap.size w wr)) (fun v _ => n + 1 - (intOf v).toNat)
    case atStart => exact ⟨0, rfl, Nat.zero_le _, hide (fun j h => absurd h (by omega)), HB⟩
    case round =>
      obtain ⟨i, rfl, hi, HA, HB⟩ := hrel
      by_cases hlt : i + 1 < n
      · have hi' : (i : Int) + 1 < (n : Int) := by omega
        have hi0 : (0 : Int) ≤ (i : Int) + 1 := by omega
        have hw1 : IntKind.i64.wrap ((i : Int) + 1 + 1) = (i : Int) + 1 + 1 := IntWalk.i64_in _ (by omega)
        have hw2 : IntKind.i64.wrap ((i : Int) + 1 - 1) = (i : Int) := by rw [IntWalk.i64_in _ (by omega)]; omega
        have htn : ((i : Int) + 1).toNat = i + 1 := by omega
        have hix : i + 1 < scs.length := by rw [Hn.out]; exact hlt
        obtain ⟨b, off, rfl, hbz, hat⟩ := sc_at HS.out hix
        obtain ⟨_, _, c2⟩ := hat wr HB.out
        have hpe : scs[i + 1].parent = (scH scs (i + 1)).parent := by rw [scH_at hix]
        rw [hpe] at c2
        have HA2 := hide (fun (h : (scH scs (i + 1)).parent < 0 ∨ insB scs (scH scs (i + 1)).parent (i : Int) = true) (j : Nat) (hj : j < i + 1) (hjl : j + 1 < scs.length) => show (scH scs (j + 1)).parent < 0 ∨ insB scs (scH scs (j + 1)).parent (j : Int) = true from by
          rcases Nat.lt_or_ge j i with h1 | h1
          · exact HA.out j h1 hjl
          · obtain rfl : j = i := by omega
            exact h)
        have HNO := hide (fun (h0 : ¬ (scH scs (i + 1)).parent < 0) (h : insB scs (scH scs (i + 1)).parent (i : Int) = false) => show r = false from by
          rw [HV.out]
          have : inPreB scs = false := by
            unfold inPreB
            rw [List.all_eq_false]
            refine ⟨i + 1, List.mem_range.2 hix, ?_⟩
            have e : (((i + 1 : Nat) : Int) - 1) = (i : Int) := by omega
            rw [e, h, decide_eq_false (by omega), decide_eq_false h0]; decide
          rw [this]; rfl)
        have INi := hide (IN2.out i hlt)
        generalize (scH scs (i + 1)).parent = pa at *
        clear hat hpe
        by_cases h0 : pa < 0
        · have h0' : ¬ 0 ≤ pa := by omega
          have HA3 := hide (HA2.out (.inl h0))
          go_wp2
          any_goals first | (rename_i hu hb; exact (undef_bool hu).elim) | skip
          go_roundw
          case rel => exact ⟨i + 1, by first | rfl | go_num, by omega, HA3, HB⟩
          case measure => simp [intOf]; omega
        · have h0' : 0 ≤ pa := by omega
          have INw := hide (INi.out h0' wr HB.out)
          generalize insB scs pa (i : Int) = bb at *
          go_wp2_with fail
          refine INw.out.mono ?_
          rintro e w5 ⟨rfl, rfl⟩
          cases bb with
          | false =>
            have HR := hide (HNO.out h0 rfl)
            go_wp2
            go_ret
            exact ⟨by rw [HR.out]; first | done | rfl, HB.out⟩
          | true =>
            have HA3 := hide (HA2.out (.inr rfl))
            go_wp2
            go_roundw
            case rel => exact ⟨i + 1, by first | rfl | go_num, by omega, HA3, HB⟩
            case measure => simp [intOf]; omega
      · have hi' : ¬ (i : Int) + 1 < (n : Int) := by omega
        have HP := hide (show inPreB scs = true by
          unfold inPreB
          rw [List.all_eq_true]
          intro j hj
          have hj' := List.mem_range.1 hj
          cases j with
          | zero => simp
          | succ j =>
            have e : (((j + 1 : Nat) : Int) - 1) = (j : Int) := by omega
            rw [e]
            rcases HA.out j (by have := Hn.out; omega) hj' with h | h
            · rw [decide_eq_true h]; simp
            · rw [h]; simp)
        have HV2 := hide (show r = (decide (Asc vs) && sgB 0 vs) by rw [HV.out, HP.out, Bool.true_and])
        clear HA
        go_wp2_with fail
        go_loopw [6, 7] (fun v6 v7 wr => ∃ (i c : Nat), v7 = .int .i64 (i : Int) ∧ v6 = .int .i64 (c : Int) ∧ i ≤ m ∧ c ≤ i ∧ Hid (∀ j (hj : j < vs.length), j < i → 0 < j → ¬ vs[j].scope < (vs[j - 1]'(by omega)).scope) ∧ Hid (sgB 0 vs = sgB c (vs.drop i)) ∧ Hid (Below w.heap.size w wr)) (fun _ v _ => m - (intOf v).toNat)
        case atStart => exact ⟨0, 0, rfl, rfl, Nat.zero_le _, Nat.zero_le _, hide (fun j hj h => absurd h (by omega)), hide rfl, HB⟩
        case round =>
          obtain ⟨i, c, rfl, rfl, hi, hc, HA, HSG, HB⟩ := hrel
          by_cases hlt2 : i < m
          · have hi' : (i : Int) < (m : Int) := by omega
            have hi0 : (0 : Int) ≤ (i : Int) := by omega
            have hw1 : IntKind.i64.wrap ((i : Int) + 1) = (i : Int) + 1 := IntWalk.i64_in _ (by omega)
            have hw2 : IntKind.i64.wrap ((c : Int) + 1) = (c : Int) + 1 := IntWalk.i64_in _ (by omega)
            have hix : i < vs.length := by rw [Hm.out]; exact hlt2
            obtain ⟨b, off, rfl, hbz, hat⟩ := va_at HVS.out hix
            obtain ⟨_, _, c2, c3, _⟩ := hat wr HB.out
            have hdr : vs.drop i = vs[i] :: vs.drop (i + 1) := List.drop_eq_getElem_cons hix
            have HSG2 := hide (show sgB 0 vs = if (c : Int) < vs[i].signal then false else if vs[i].signal = c then sgB (c + 1) (vs.drop (i + 1)) else sgB c (vs.drop (i + 1)) by rw [HSG.out, hdr]; rfl)
            have HNA := hide (fun (h0 : 0 < i) (h : vs[i].scope < (vs[i - 1]'(by omega)).scope) => show r = false from by rw [HV2.out, decide_eq_false (not_asc hix h0 h)]; rfl)
            have HNS := hide (fun (h : sgB 0 vs = false) => show r = false from by rw [HV2.out, h, Bool.and_false])
            have HA2 := hide (fun (h : 0 < i → ¬ vs[i].scope < (vs[i - 1]'(by omega)).scope) (j : Nat) (hj : j < vs.length) (hji : j < i + 1) (h0 : 0 < j) => show ¬ vs[j].scope < (vs[j - 1]'(by omega)).scope from by
              rcases Nat.lt_or_ge j i with h1 | h1
              · exact HA.out j hj h1 h0
              · obtain rfl : j = i := by omega
                exact h h0)
            clear hat hdr
            by_cases i0 : i = 0
            · have h0 : ¬ 0 < (i : Int) := by omega
              have h0' : ¬ 0 < i := by omega
              have HA3 := hide (HA2.out (fun h => absurd h h0'))
              clear HNA HA2 h0'
              generalize vs[i]'hix = x at *
              obtain ⟨nm, ty, sc, sg, rg, msb, lsb⟩ := x
              subst i0
              simp only [Int.natCast_zero, Nat.zero_mul, Nat.mul_zero, Nat.add_zero] at c2 c3
              simp only at c2 c3 HSG2
              by_cases s2 : (c : Int) < sg
              · have HR := hide (HNS.out (by rw [HSG2.out, if_pos s2]))
                go_wp2_with fail
                go_big_quiet (fail)
                go_wp2
                go_ret
                exact ⟨by rw [HR.out]; first | done | rfl, Below_drewN HB.out _⟩
              · by_cases s3 : sg = (c : Int)
                · have HSG3 := hide (show sgB 0 vs = sgB (c + 1) (vs.drop (0 + 1)) by rw [HSG2.out, if_neg s2, if_pos s3])
                  have q1 : (sg == (c : Int)) = true := beq_iff_eq.2 s3
                  have S2 := hide s3
                  clear s3
                  go_wp2_with fail
                  go_big_quiet (fail)
                  have HB2 := hide (Below_drewN HB.out nq)
                  go_wp2
                  go_roundw
                  case rel => exact ⟨0 + 1, c + 1, by go_num, by first | rfl | go_num, by omega, by omega, hide (fun j a b d => by have := HA3.out j a b d; omega), HSG3, HB2⟩
                  case measure => simp [intOf]; omega
                · have HSG3 := hide (show sgB 0 vs = sgB c (vs.drop (0 + 1)) by rw [HSG2.out, if_neg s2, if_neg s3])
                  have q1 : (sg == (c : Int)) = false := beq_eq_false_iff_ne.2 s3
                  go_wp2_with fail
                  go_big_quiet (fail)
                  have HB2 := hide (Below_drewN HB.out nq)
                  go_wp2
                  go_roundw
                  case rel => exact ⟨0 + 1, c, by go_num, by first | rfl | trivial, by omega, by omega, hide (fun j a b d => by have := HA3.out j a b d; omega), HSG3, HB2⟩
                  case measure => simp [intOf]; omega
            · obtain ⟨k, hk⟩ : ∃ k, i = k + 1 := ⟨i - 1, by omega⟩
              have h0 : 0 < (i : Int) := by omega
              have h0' : 0 < i := by omega
              have hwm : IntKind.i64.wrap ((i : Int) - 1) = (k : Int) := by rw [IntWalk.i64_in _ (by omega)]; omega
              have hkm : (k : Int) < (m : Int) := by omega
              have hk0 : (0 : Int) ≤ (k : Int) := by omega
              have hkx : k < vs.length := by omega
              obtain ⟨b', off', heq', hbz', hat'⟩ := va_at HVS.out hkx
              cases heq'
              obtain ⟨_, _, d2, _⟩ := hat' wr HB.out
              have hke : (vs[i - 1]'(by omega)) = vs[k]'hkx := by congr 1; omega
              have hke2 := congrArg Va.scope hke
              have HNB := hide (fun (h : vs[i].scope < (vs[k]'hkx).scope) => HNA.out h0' (by rw [hke2]; exact h))
              have HAB := hide (fun (h : ¬ vs[i].scope < (vs[k]'hkx).scope) => HA2.out (fun _ => by rw [hke2]; exact h))
              clear HNA HA2 hke hke2
              generalize vs[i]'hix = x at *
              generalize vs[k]'hkx = y at *
              obtain ⟨nm, ty, sc, sg, rg, msb, lsb⟩ := x
              obtain ⟨nm2, ty2, sc2, sg2, rg2, msb2, lsb2⟩ := y
              simp only at c2 c3 d2 HSG2 HNB HAB
              clear hat' hk
              by_cases s1 : sc < sc2
              · have HR := hide (HNB.out s1)
                go_wp2_with fail
                go_big_quiet (fail)
                go_wp2
                go_ret
                exact ⟨by rw [HR.out]; first | done | rfl, Below_drewN HB.out _⟩
              · have HA3 := hide (HAB.out s1)
                clear HNB HAB
                by_cases s2 : (c : Int) < sg
                · have HR := hide (HNS.out (by rw [HSG2.out, if_pos s2]))
                  go_wp2_with fail
                  have q2 : decide (sc < sc2) = false := decide_eq_false (by omega)
                  go_big_quiet (fail)
                  go_wp2
                  go_ret
                  exact ⟨by rw [HR.out]; first | done | rfl, Below_drewN HB.out _⟩
                · by_cases s3 : sg = (c : Int)
                  · have HSG3 := hide (show sgB 0 vs = sgB (c + 1) (vs.drop (i + 1)) by rw [HSG2.out, if_neg s2, if_pos s3])
                    have q1 : (sg == (c : Int)) = true := beq_iff_eq.2 s3
                    have S2 := hide s3
                    clear s3
                    go_wp2_with fail
                    have q2 : decide (sc < sc2) = false := decide_eq_false (by omega)
                    go_big_quiet (fail)
                    have HB2 := hide (Below_drewN HB.out nq)
                    go_wp2
                    go_roundw
                    case rel => exact ⟨i + 1, c + 1, by go_num, by first | rfl | go_num, by omega, by omega, hide (fun j a b d => by have := HA3.out j a b d; omega), HSG3, HB2⟩
                    case measure => simp [intOf]; omega
                  · have HSG3 := hide (show sgB 0 vs = sgB c (vs.drop (i + 1)) by rw [HSG2.out, if_neg s2, if_neg s3])
                    have q1 : (sg == (c : Int)) = false := beq_eq_false_iff_ne.2 s3
                    go_wp2_with fail
                    have q2 : decide (sc < sc2) = false := decide_eq_false (by omega)
                    go_big_quiet (fail)
                    have HB2 := hide (Below_drewN HB.out nq)
                    go_wp2
                    go_roundw
                    case rel => exact ⟨i + 1, c, by go_num, by first | rfl | trivial, by omega, by omega, hide (fun j a b d => by have := HA3.out j a b d; omega), HSG3, HB2⟩
                    case measure => simp [intOf]; omega
          · obtain rfl : i = m := by omega
            have hi' : ¬ (i : Int) < (i : Int) := by omega
            have HR := hide (show r = true by
              rw [HV2.out, decide_eq_true (asc_adj (fun j hj h => HA.out j hj (by rw [← Hm.out]; exact hj) h)), HSG.out, List.drop_eq_nil_of_le (Nat.le_of_eq Hm.out)]; rfl)
            go_wp2
            go_ret
            exact ⟨by rw [HR.out]; first | done | rfl, HB.out⟩
  · have CK' := CK.out
    have hV := hVR
    rw [decide_eq_false hE, Bool.false_and] at hV
    generalize validH scs vs = r at *
    have e1 : (checkE scs vs == 0) = false := beq_eq_false_iff_ne.2 hE
    generalize checkE scs vs = E at *
    generalize scs.length = n at *
    generalize vs.length = m at *
    have HV := hide hV
    have CK2 := hide CK'
    clear H CK CK' hVR hV HS HVS
    go_enter Tryz.func10, Tryz.ntmps10
    go_wp2_with fail
    refine (CK2.out w (Below.refl _ _)).mono ?_
    rintro e w1 ⟨rfl, hb⟩
    have HB := hide hb
    clear hb
    go_wp2
    go_ret
    exact ⟨by rw [HV.out]; first | done | rfl, HB.out⟩
end Go.Proofs.YtpfiofgchkfkhaaGreat

/- Contracts of the reference's index and preorder, and of Ints. -/
set_option linter.unusedVariables false
set_option linter.unusedSimpArgs false
namespace Go.Proofs.YtpfiofgchkfkhaaGreat
open Go.RowKit Go.Shelf Go.Maps
def idxR (L : List Int) (x : Int) : Int := if x ∈ L then (L.idxOf x : Int) else -1
theorem idxR_hit {L : List Int} {x : Int} {i : Nat} (hi : i < L.length) (hx : L[i] = x) (hn : ∀ j (h : j < L.length), j < i → L[j] ≠ x) : idxR L x = (i : Int) := by
  have hm : x ∈ L := by rw [← hx]; exact List.getElem_mem hi
  unfold idxR
  rw [if_pos hm]
  have : L.idxOf x = i := by
    unfold List.idxOf
    rw [List.findIdx_eq hi]
    refine ⟨by rw [hx]; exact beq_self_eq_true _, fun j hj => ?_⟩
    exact beq_eq_false_iff_ne.2 (hn j (by omega) hj)
  rw [this]
theorem idxR_no {L : List Int} {x : Int} (hn : ∀ j (h : j < L.length), L[j] ≠ x) : idxR L x = -1 := by
  unfold idxR
  rw [if_neg]
  intro hm
  obtain ⟨j, hj, e⟩ := List.mem_iff_getElem.1 hm
  exact hn j hj e
set_option maxRecDepth 20000 in
set_option maxHeartbeats 4000000 in
theorem refIndex_any {w : World} {L : List Int} {A : Option Addr} (cap : Nat) (x : Int) (hs : Sl intV w A L) (hl : L.length ≤ 1099511627776) :
    Calls Tryz.prog 34 #[.slice A L.length cap, .int .i64 x] w fun e w' => e = .returned (.int .i64 (idxR L x)) ∧ w = w' := by
  have HS := hide hs
  have H1 := hide (fun (i : Nat) (hi : i < L.length) (hx : L[i] = x) => idxR_hit hi hx)
  have H2 := hide (@idxR_no L x)
  generalize idxR L x = r at *
  obtain ⟨n, hn⟩ : ∃ n, L.length = n := ⟨_, rfl⟩
  have Hn := hide hn
  rw [hn] at hl ⊢
  clear hs hn
  go_enter Tryz.func34, Tryz.ntmps34
  go_wp2_with fail
  go_loopw [5] (fun v wr => ∃ i : Nat, v = .int .i64 (i : Int) ∧ i ≤ n ∧ Hid (∀ j (h : j < L.length), j < i → L[j] ≠ x) ∧ w = wr) (fun v _ => n - (intOf v).toNat)
  case atStart => exact ⟨0, rfl, Nat.zero_le _, hide (fun j h h2 => absurd h2 (by omega)), rfl⟩
  case round =>
    obtain ⟨i, rfl, hi, HA, rfl⟩ := hrel
    by_cases hlt : i < n
    · have hi' : (i : Int) < (n : Int) := by omega
      have hi0 : (0 : Int) ≤ (i : Int) := by omega
      have hw1 : IntKind.i64.wrap ((i : Int) + 1) = (i : Int) + 1 := IntWalk.i64_in _ (by omega)
      have hix : i < L.length := by rw [Hn.out]; exact hlt
      obtain ⟨b, off, rfl, hbz, hat⟩ := HS.out.at hix
      have c0 := hat w (Below.refl _ _)
      have c1 : w.cell? ⟨b, off + i, none⟩ = some (.int .i64 L[i]) := c0
      have HHIT := hide (fun (e : L[i] = x) => H1.out i hix e HA.out)
      have HA2 := hide (fun (h : L[i] ≠ x) (j : Nat) (hj : j < L.length) (hji : j < i + 1) => show L[j] ≠ x from by
        rcases Nat.lt_or_ge j i with h1 | h1
        · exact HA.out j hj h1
        · obtain rfl : j = i := by omega
          exact h)
      generalize L[i]'hix = y at *
      clear hat c0
      by_cases e : y = x
      · have HR := hide (HHIT.out e)
        have e1 : (y == x) = true := beq_iff_eq.2 e
        clear HHIT HA2 e
        go_wp2
        go_ret
        exact ⟨by rw [HR.out]; first | done | rfl, rfl⟩
      · have HA3 := hide (HA2.out e)
        have e1 : (y == x) = false := beq_eq_false_iff_ne.2 e
        clear HHIT HA2 e
        go_wp2
        go_roundw
        case rel => exact ⟨i + 1, by go_num, by omega, HA3, by first | rfl | trivial⟩
        case measure => simp [intOf]; omega
    · obtain rfl : i = n := by omega
      have hi' : ¬ (i : Int) < (i : Int) := by omega
      have HR := hide (H2.out (fun j hj => HA.out j hj (by rw [← Hn.out]; exact hj)))
      go_wp2
      go_ret
      exact ⟨by rw [HR.out]; first | done | rfl, rfl⟩
set_option maxHeartbeats 4000000 in
theorem Ints_any (A A' : Option Addr) (cap cap' : Nat) (L L' : List Int) (w : World) (hl : L.length ≤ 1099511627776) (hl' : L'.length ≤ 1099511627776) (hw : Sl intV w A L) (hw' : Sl intV w A' L') :
    Calls Tryz.prog 12 #[.slice A L.length cap, .slice A' L'.length cap'] w fun e w' => e = .returned (.bool (decide (L = L'))) ∧ Below w.heap.size w w' := by
  have Hw := hide hw
  have Hw' := hide hw'
  clear hw hw'
  by_cases hll : L.length = L'.length
  · obtain ⟨q, hq⟩ : ∃ q, decide (L = L') = q := ⟨_, rfl⟩
    have Hq := hide hq
    have Hll := hide hll
    rw [hq]
    clear hq
    rw [← hll]
    clear hll
    obtain ⟨n, hn⟩ : ∃ n, L.length = n := ⟨_, rfl⟩
    have Hn := hide hn
    rw [hn] at hl ⊢
    have hnn : ((n : Int) == (n : Int)) = true := beq_self_eq_true _
    clear hn hl'
    go_enter Tryz.func12, Tryz.ntmps12
    go_wp2
    go_loopw [5] (fun v wr => ∃ i : Nat, v = .int .i64 i ∧ i ≤ n ∧ Hid (∀ j, ∀ h : j < L.length, ∀ h' : j < L'.length, j < i → L[j] = L'[j]) ∧ Hid (Below w.heap.size w wr)) (fun v _ => n - (intOf v).toNat)
    case atStart => exact ⟨0, rfl, Nat.zero_le _, hide (fun j _ _ h => absurd h (Nat.not_lt_zero _)), hide (Below.refl _ _)⟩
    case round =>
      obtain ⟨i, rfl, hi0, Heq, Hbr⟩ := hrel
      by_cases hi : i < n
      · have hi1 : i < L.length := by rw [Hn.out]; exact hi
        have hi2 : i < L'.length := by rw [← Hll.out]; exact hi1
        obtain ⟨b, off, rfl, hbz, hat⟩ := Hw.out.at hi1
        obtain ⟨b', off', rfl, hbz', hat'⟩ := Hw'.out.at hi2
        have hc : wr.cell? ⟨b, off + i, none⟩ = some (.int .i64 (L[i]'hi1)) := hat wr Hbr.out
        have hc' : wr.cell? ⟨b', off' + i, none⟩ = some (.int .i64 (L'[i]'hi2)) := hat' wr Hbr.out
        obtain ⟨t, ht⟩ : ∃ t, L[i] = t := ⟨_, rfl⟩
        obtain ⟨t', ht'⟩ : ∃ t, L'[i] = t := ⟨_, rfl⟩
        rw [ht] at hc
        rw [ht'] at hc'
        have Ht := hide (And.intro ht ht')
        clear hat hat' ht ht'
        have q1 : (0 : Int) ≤ (i : Int) := by omega
        have q2 : (i : Int) < (n : Int) := by omega
        have hw1 : IntKind.i64.wrap ((i : Int) + 1) = (i : Int) + 1 := IntWalk.i64_in _ (by omega)
        by_cases htt : t = t'
        · have e1 : (t == t') = true := by rw [htt]; exact beq_self_eq_true _
          have Htt := hide htt
          clear htt
          go_wp2_with fail
          go_quiet (fail)
          go_wp2
          go_roundw
          case rel =>
            refine ⟨i + 1, by go_num, by omega, hide (fun j h h' hj => ?_), hide (Below_drewN Hbr.out _)⟩
            by_cases hji : j < i
            · exact Heq.out j h h' hji
            · have : j = i := by omega
              subst this
              rw [Ht.out.1, Ht.out.2]; exact Htt.out
          case measure => simp [intOf]; omega
        · have e1 : (t == t') = false := beq_eq_false_iff_ne.2 htt
          have hqf : q = false := by
            rw [← Hq.out]
            refine decide_eq_false fun e => htt ?_
            subst e
            rw [← Ht.out.1, ← Ht.out.2]
          have Hqf := hide hqf
          clear hqf htt
          go_wp2_with fail
          go_quiet (fail)
          go_wp2
          go_ret
          exact ⟨ret_b Hqf.out, Below_drewN Hbr.out _⟩
      · obtain rfl : i = n := Nat.le_antisymm hi0 (Nat.le_of_not_lt hi)
        have hqt : q = true := by
          rw [← Hq.out]
          refine decide_eq_true ?_
          apply List.ext_getElem Hll.out
          intro j h h'
          exact Heq.out j h h' (by rw [← Hn.out]; exact h)
        have Hqt := hide hqt
        clear hqt
        go_wp2
        go_ret
        exact ⟨ret_b Hqt.out, Hbr.out⟩
  · have hd := hide (show decide (L = L') = false from decide_eq_false (fun e => hll (by rw [e])))
    have e1 : ((L.length : Int) == (L'.length : Int)) = false := beq_eq_false_iff_ne.2 (by omega)
    generalize decide (L = L') = q at *
    generalize L.length = n at *
    generalize L'.length = n' at *
    clear hll
    go_enter Tryz.func12, Tryz.ntmps12
    go_wp2
    go_ret
    exact ⟨ret_b hd.out, Below.refl _ _⟩
def natsI (l : List Nat) : List Int := l.map (fun (i : Nat) => (i : Int))
theorem natsI_app (l r : List Nat) : natsI (l ++ r) = natsI l ++ natsI r := List.map_append ..
theorem natsI_len (l : List Nat) : (natsI l).length = l.length := List.length_map ..
theorem preG_snoc (scs : List Sc) (g : Int → List Nat) (p : Int) (k : Nat) : preG scs g p (k + 1) 0 = preG scs g p k 0 ++ (if (scH scs k).parent = p then k :: g (k : Int) else []) := by
  rw [← preG_flat, ← preG_flat, List.range'_1_concat, List.flatMap_append]
  simp
theorem preG_mono (scs : List Sc) (g : Int → List Nat) (p : Int) : ∀ (d k : Nat), (preG scs g p k 0).length ≤ (preG scs g p (k + d) 0).length
  | 0, k => Nat.le_refl _
  | d + 1, k => by
    rw [show k + (d + 1) = (k + d) + 1 by omega, preG_snoc, List.length_append]
    have := preG_mono scs g p d k
    omega
theorem preT_few {scs : List Sc} (hd : DeclS scs) {p : Int} (hp1 : -1 ≤ p) (hp2 : p < scs.length) : (preT scs p).length ≤ scs.length := by
  have h1 := List.Nodup.length_le_of_subset (preT_nodup hd (scs.length + 1) p hp1 hp2 (by omega)) (l₂ := List.range scs.length) (fun i hi => List.mem_range.2 (preT_lt hd (scs.length + 1) p hp1 hp2 (by omega) i hi).1)
  rwa [List.length_range] at h1
set_option maxRecDepth 20000 in
set_option maxHeartbeats 8000000 in
theorem refPre_any (scs : List Sc) (A : Option Addr) (cap : Nat) (hl : scs.length ≤ 1000000) (hd : DeclS scs) : ∀ (d : Nat) (p : Int) (w : World), -1 ≤ p → p < scs.length → (scs.length : Int) - p ≤ d → ScS w A scs →
    Calls Tryz.prog 33 #[.slice A scs.length cap, .int .i64 p] w fun e w' => ∃ g c, e = .returned (.slice (some ⟨g, 0, none⟩) (preT scs p).length c) ∧
      w'.ownsRow w.heap.size 3 1 (.slice (some ⟨g, 0, none⟩) (preT scs p).length c) (preT scs p).length ((natsI (preT scs p)).map intV) ∧ Below w.heap.size w w' := by
  intro d
  induction d with
  | zero => intro p w h1 h2 h3; omega
  | succ d ih =>
    intro p w hp1 hp2 hd2 hs
    have IH := hide (fun (k : Nat) (hk : k < scs.length) (hpk : p < (k : Int)) (W : World) (hb : Below w.heap.size w W) => ih (k : Int) W (by omega) (by omega) (by omega) (sc_below hs hb))
    have HS := hide hs
    have HD := hide hd
    have HST := hide (fun k => preG_snoc scs (preT scs) p k)
    have HFIN := hide (preT_step hd hp1 hp2)
    have HLEN := hide (fun (k : Nat) (hk : k ≤ scs.length) => show (preG scs (preT scs) p k 0).length ≤ scs.length from by
      have h1 := preG_mono scs (preT scs) p (scs.length - k) k
      rw [show k + (scs.length - k) = scs.length by omega, ← preT_step hd hp1 hp2] at h1
      exact Nat.le_trans h1 (preT_few hd hp1 hp2))
    have HTLEN := hide (fun (k : Nat) (hk : k < scs.length) => preT_few hd (p := (k : Int)) (by omega) (by omega))
    obtain ⟨n, hn⟩ : ∃ n, scs.length = n := ⟨_, rfl⟩
    have Hn := hide hn
    have IH' := IH.out
    have HFIN' := HFIN.out
    have HLEN' := HLEN.out
    have HTLEN' := HTLEN.out
    rw [hn] at IH' hl HFIN' HLEN' HTLEN' ⊢
    have IH2 := hide IH'
    have HFIN2 := hide HFIN'
    have HLEN2 := hide HLEN'
    have HTLEN2 := hide HTLEN'
    clear ih hs hd hd2 hn hp2 IH HFIN HLEN HTLEN IH' HFIN' HLEN' HTLEN'
    have HB0 := hide ((Below.refl w.heap.size w).alloc (Nat.le_refl _) (.cells #[] 3))
    have HO0 := hide (World.ownsRow_lit (base := w.heap.size) (e := 3) (size := 1) w #[] 0 (Nat.le_refl _) (by decide) rfl)
    generalize hT : preT scs p = T at *
    have HT := hide hT
    clear hT
    go_enter Tryz.func33, Tryz.ntmps33
    go_wp2_with fail
    go_loopw [5, 6] (fun v5 v6 wr => ∃ (k : Nat) (L : List Nat) (g c : Nat), v6 = .int .i64 (k : Int) ∧ v5 = .slice (some ⟨g, 0, none⟩) L.length c ∧ k ≤ n ∧ L.length ≤ n ∧ Hid (L = preG scs (preT scs) p k 0) ∧ Hid (wr.ownsRow w.heap.size 3 1 (.slice (some ⟨g, 0, none⟩) L.length c) L.length ((natsI L).map intV)) ∧ Hid (Below w.heap.size w wr)) (fun _ v _ => n - (intOf v).toNat)
    case atStart => exact ⟨0, [], w.heap.size, 0, rfl, rfl, Nat.zero_le _, Nat.zero_le _, hide rfl, HO0, HB0⟩
    case round =>
      obtain ⟨k, L, g, c, rfl, rfl, hk, hL, HE, HO, HB⟩ := hrel
      by_cases hlt : k < n
      · have hk' : (k : Int) < (n : Int) := by omega
        have hk0 : (0 : Int) ≤ (k : Int) := by omega
        have hw1 : IntKind.i64.wrap ((k : Int) + 1) = (k : Int) + 1 := IntWalk.i64_in _ (by omega)
        have hix : k < scs.length := by rw [Hn.out]; exact hlt
        obtain ⟨b, off, rfl, hbz, hat⟩ := sc_at HS.out hix
        obtain ⟨_, _, c2⟩ := hat wr HB.out
        have HST1 := hide (HST.out k)
        have hq := HD.out k hix
        have HLN := hide (HLEN2.out (k + 1) (by omega))
        have HTN := hide (HTLEN2.out k hlt)
        have IHk := hide (IH2.out k hlt)
        have hpe : scs[k].parent = (scH scs k).parent := by rw [scH_at hix]
        rw [hpe] at c2
        generalize (scH scs k).parent = pa at *
        clear hat hpe
        by_cases hpp : pa = p
        · have HE2 := hide (show preG scs (preT scs) p (k + 1) 0 = (L ++ [k]) ++ preT scs (k : Int) by rw [HST1.out, if_pos hpp, ← HE.out, List.append_assoc]; rfl)
          have hln : L.length + 1 + (preT scs (k : Int)).length ≤ n := by
            have h1 := HLN.out
            rw [HE2.out, List.length_append, List.length_append, List.length_singleton] at h1
            exact h1
          have e1 : (pa == p) = true := beq_iff_eq.2 hpp
          have HIK := hide (IHk.out (by omega))
          generalize preT scs (k : Int) = R at *
          have HB1 := hide (HB.out.alloc HB.out.size (.cells #[.int .i64 (k : Int)] 3))
          have HO1 := hide (HO.out.alloc (.cells #[.int .i64 (k : Int)] 3))
          have HZ := hide (show w.heap.size ≤ (wr.alloc (.cells #[.int .i64 (k : Int)] 3)).heap.size by rw [World.size_alloc]; have := HB.out.size; omega)
          have HH1 := hide (show L.length + 1 ≤ maxLen by unfold maxLen; omega)
          have HH2 := hide (show (L.length + 1) * 8 ≤ 140737488355328 by omega)
          clear hpp IHk HTN HLN hq
          go_wp2_with (at_builtin; refine wpList_append_at _ rfl _ _ 26 rfl w.heap.size 3 infoIntH Tryz.underlying26 rfl (by decide) _ L.length ((natsI L).map intV) rfl HO1.out ⟨wr.heap.size, 0, none⟩ 1 1 [.int .i64 (k : Int)] rfl rfl (cells_new _ _ rfl) (by intro u hu; simp only [List.mem_cons, List.not_mem_nil, or_false] at hu; rcases hu with rfl; rfl) HH1.out HH2.out HZ.out ?_; intro v' w5 hown5 hgrow5 _ _; have HO5 := hide hown5; have HG5 := hide hgrow5; clear hown5 hgrow5)
          have HB5 := hide (HB1.out.grown HG5.out HZ.out (fun j hj => (World.ownsRow.lt HO1.out j hj).1))
          refine (HIK.out w5 HB5.out).mono ?_
          rintro e w6 ⟨g6, c6, rfl, ho6, hb6⟩
          have HO6 := hide ho6
          have HB6 := hide (HB5.out.trans (hb6.mono HB5.out.size))
          have HO56 := hide (ownsRow_below HO5.out hb6)
          clear ho6 hb6
          have HZ6 := hide (show w.heap.size ≤ w6.heap.size from HB6.out.size)
          have HH3 := hide (show L.length + 1 + R.length ≤ maxLen by unfold maxLen; omega)
          have HH4 := hide (show (L.length + 1 + R.length) * 8 ≤ 140737488355328 by omega)
          go_wp2_with (at_builtin; refine wpList_append_at _ rfl _ _ 26 rfl w.heap.size 3 infoIntH Tryz.underlying26 rfl (by decide) _ (L.length + 1) _ rfl HO56.out ⟨g6, 0, none⟩ R.length c6 ((natsI R).map intV) rfl (by rw [List.length_map, natsI_len, Nat.mul_one]) (fun j u hu => by rw [show ((⟨g6, 0, none⟩ : Addr).add j) = ⟨g6, j, none⟩ by unfold Addr.add; split <;> simp_all, World.ownsRow.cellAt HO6.out j (by have := (List.getElem?_eq_some_iff.1 hu).1; rw [List.length_map, natsI_len] at this; omega)]; exact hu) (by intro u hu; obtain ⟨s, _, rfl⟩ := List.mem_map.1 hu; rfl) HH3.out HH4.out HZ6.out ?_; intro v' w7 hown7 hgrow7 _ _; have HO7 := hide hown7; have HG7 := hide hgrow7; clear hown7 hgrow7)
          have HB7 := hide (HB6.out.grown HG7.out HZ6.out (fun j hj => (World.ownsRow.lt HO56.out j hj).1))
          have hl7 : L.length + 1 + R.length = ((L ++ [k]) ++ R).length := by simp; omega
          have hown7 := HO7.out
          rw [hl7] at hown7
          obtain ⟨g7, c7, hv', _⟩ := World.ownsRow.form hown7 (by simp; omega)
          subst hv'
          have HO8 := hide (show w7.ownsRow w.heap.size 3 1 (.slice (some ⟨g7, 0, none⟩) ((L ++ [k]) ++ R).length c7) ((L ++ [k]) ++ R).length ((natsI ((L ++ [k]) ++ R)).map intV) from by
            rw [natsI_app, natsI_app, List.map_append, List.map_append]; exact hown7)
          have hl8 : ((L ++ [k]) ++ R).length ≤ n := by rw [← hl7]; exact hln
          have HE3 := hide HE2.out.symm
          generalize (L ++ [k]) ++ R = L2 at *
          clear hown7 hl7 HO7
          go_wp2
          go_roundw
          case rel => exact ⟨k + 1, L2, g7, c7, by go_num, rfl, by omega, hl8, HE3, HO8, HB7⟩
          case measure => simp [intOf]; omega
        · have HE2 := hide (show L = preG scs (preT scs) p (k + 1) 0 by rw [HST1.out, if_neg hpp, ← HE.out, List.append_nil])
          have e1 : (pa == p) = false := beq_eq_false_iff_ne.2 hpp
          clear hpp IHk HTN HLN hq
          go_wp2
          go_roundw
          case rel => exact ⟨k + 1, L, g, c, by go_num, rfl, by omega, hL, HE2, HO, HB⟩
          case measure => simp [intOf]; omega
      · obtain rfl : k = n := by omega
        have hk' : ¬ (k : Int) < (k : Int) := by omega
        have HF := hide (show T = L by rw [HFIN2.out, HE.out])
        go_wp2
        go_ret
        exact ⟨g, c, by rw [HF.out]; first | done | rfl, by rw [HF.out]; exact HO.out, HB.out⟩
end Go.Proofs.YtpfiofgchkfkhaaGreat

/- Plain: the reference's Order as a stream. -/
set_option linter.unusedVariables false
set_option linter.unusedSimpArgs false
namespace Go.Proofs.YtpfiofgchkfkhaaGreat
open Go.RowKit Go.Shelf Go.Maps
theorem numF_app : ∀ (l r : List Va) (F : List Int), numF (l ++ r) F = ((numF l F).1 ++ (numF r (numF l F).2).1, (numF r (numF l F).2).2)
  | [], r, F => rfl
  | v :: l, r, F => by
    rw [List.cons_append, numF_cons, numF_app l r, numF_cons]
    rfl
theorem numF_one (v : Va) (F : List Int) : numF [v] F = ([{ v with signal := (F.idxOf v.signal : Int) }], if v.signal ∈ F then F else F ++ [v.signal]) := rfl
theorem numF_snoc (l : List Va) (v : Va) : numF (l ++ [v]) [] = ((numF l []).1 ++ [{ v with signal := ((numF l []).2.idxOf v.signal : Int) }], if v.signal ∈ (numF l []).2 then (numF l []).2 else (numF l []).2 ++ [v.signal]) := by
  rw [numF_app, numF_one]
/-- the former number of the j-th scope in the new order, the top level ahead -/
def oldH (pre : List Nat) (j : Nat) : Int := if j = 0 then -1 else ((pre.getD (j - 1) 0 : Nat) : Int)
def setSc (i : Int) (v : Va) : Va := { v with scope := i }
def blkH (pre : List Nat) (vs : List Va) (j : Nat) : List Va := (vs.filter fun v => decide (v.scope = oldH pre j)).map (setSc ((j : Int) - 1))
theorem nowH_old {scs : List Sc} (hd : DeclS scs) {j : Nat} (hj : j ≤ scs.length) {x : Int} (h1 : -1 ≤ x) (h2 : x < scs.length) : nowH (preH scs) x = (j : Int) - 1 ↔ x = oldH (preH scs) j := by
  by_cases hj0 : j = 0
  · subst hj0
    unfold oldH
    rw [if_pos rfl]
    constructor
    · intro h
      by_cases hx : x < 0
      · omega
      · unfold nowH at h
        rw [if_neg hx] at h
        omega
    · intro h
      unfold nowH
      rw [if_pos (by omega)]; rfl
  · obtain ⟨k, rfl⟩ : ∃ k, j = k + 1 := ⟨j - 1, by omega⟩
    have hlen := preH_len hd
    have hk : k < (preH scs).length := by omega
    have e0 : oldH (preH scs) (k + 1) = (((preH scs)[k]'hk : Nat) : Int) := by
      unfold oldH
      rw [if_neg hj0]
      simp [List.getD_eq_getElem?_getD, List.getElem?_eq_getElem hk]
    have hnd := preH_nodup hd (by omega)
    have hat := nowH_at hnd (List.getElem?_eq_getElem hk)
    have hlt := preH_lt hd (by omega) (List.getElem_mem hk)
    rw [e0]
    have e1 : (((k + 1 : Nat) : Int) - 1) = (k : Int) := by omega
    rw [e1]
    constructor
    · intro h
      exact nowH_inj hd h1 h2 (by omega) (by omega) (h.trans hat.symm)
    · intro h
      rw [h]; exact hat
theorem move_blk {scs : List Sc} (hd : DeclS scs) {vs : List Va} (hv : ∀ v ∈ vs, -1 ≤ v.scope ∧ v.scope < scs.length) {j : Nat} (hj : j ≤ scs.length) :
    (moveV scs vs).filter (fun v => decide (v.scope = (j : Int) - 1)) = blkH (preH scs) vs j := by
  unfold moveV blkH
  induction vs with
  | nil => rfl
  | cons v r ih =>
    have h0 := hv v (List.mem_cons_self ..)
    have hi := ih (fun u hu => hv u (List.mem_cons_of_mem _ hu))
    rw [List.map_cons, List.filter_cons, List.filter_cons, hi]
    have hiff := nowH_old hd hj h0.1 h0.2
    by_cases h : nowH (preH scs) v.scope = (j : Int) - 1
    · rw [if_pos (decide_eq_true h), if_pos (decide_eq_true (hiff.1 h)), List.map_cons]
      congr 1
      unfold setSc
      rw [h]
    · rw [if_neg (by simpa using h), if_neg (by simpa using fun e => h (hiff.2 e))]
def allH (pre : List Nat) (vs : List Va) (j : Nat) : List Va := (List.range j).flatMap (blkH pre vs)
theorem allH_zero (pre : List Nat) (vs : List Va) : allH pre vs 0 = [] := rfl
theorem allH_succ (pre : List Nat) (vs : List Va) (j : Nat) : allH pre vs (j + 1) = allH pre vs j ++ blkH pre vs j := by
  unfold allH
  rw [List.range_succ, List.flatMap_append]; simp
theorem allH_eq {scs : List Sc} {vs : List Va} (hg : Good scs vs) : numF (allH (preH scs) vs (scs.length + 1)) [] = orderV scs vs := by
  have e : sortV scs.length (moveV scs vs) = allH (preH scs) vs (scs.length + 1) := by
    unfold sortV allH
    refine flatMap_congrH ?_
    intro j hj
    have hj' := List.mem_range.1 hj
    exact move_blk hg.decl (fun v hv => ⟨(hg.declV v hv).1, (hg.declV v hv).2.1⟩) (by omega)
  unfold orderV
  rw [e]
def partH (pre : List Nat) (vs : List Va) (j k : Nat) : List Va := allH pre vs j ++ ((vs.take k).filter fun v => decide (v.scope = oldH pre j)).map (setSc ((j : Int) - 1))
theorem partH_zero (pre : List Nat) (vs : List Va) (j : Nat) : partH pre vs j 0 = allH pre vs j := by unfold partH; simp
theorem partH_end (pre : List Nat) (vs : List Va) (j : Nat) : partH pre vs j vs.length = allH pre vs (j + 1) := by
  unfold partH; rw [List.take_length, allH_succ]; rfl
theorem partH_step (pre : List Nat) (vs : List Va) (j : Nat) {k : Nat} (hk : k < vs.length) : partH pre vs j (k + 1) = if vs[k].scope = oldH pre j then partH pre vs j k ++ [setSc ((j : Int) - 1) vs[k]] else partH pre vs j k := by
  unfold partH
  rw [List.take_succ_eq_append_getElem hk, List.filter_append, List.map_append]
  by_cases h : vs[k].scope = oldH pre j
  · rw [if_pos h]; simp [List.filter_cons, h]
  · rw [if_neg h]; simp [List.filter_cons, h]
theorem numF_len2 : ∀ (l : List Va) (F : List Int), (numF l F).2.length ≤ F.length + l.length
  | [], F => by simp [numF]
  | v :: r, F => by
    rw [numF_cons]
    refine Nat.le_trans (numF_len2 r _) ?_
    split
    · simp
    · simp; omega
theorem idx_snoc {F : List Int} {s : Int} (h : s ∉ F) : idxR (F ++ [s]) s = (F.length : Int) := by
  unfold idxR
  rw [if_pos (by simp), List.idxOf_append, if_neg h]
  simp
theorem idx_in {F : List Int} {s : Int} (h : s ∈ F) : idxR F s = (F.idxOf s : Int) := by unfold idxR; rw [if_pos h]
theorem idx_not {F : List Int} {s : Int} (h : s ∉ F) : idxR F s = -1 := by unfold idxR; rw [if_neg h]
theorem idx_nats {l : List Nat} {x : Nat} (h : x ∈ l) : idxR (natsI l) (x : Int) = (l.idxOf x : Int) := by
  have hm : (x : Int) ∈ natsI l := List.mem_map.2 ⟨x, h, rfl⟩
  have key : ∀ l : List Nat, (natsI l).idxOf (x : Int) = l.idxOf x := by
    intro l
    induction l with
    | nil => rfl
    | cons a r ih =>
      have e : natsI (a :: r) = (a : Int) :: natsI r := rfl
      rw [e, List.idxOf_cons, List.idxOf_cons, ih]
      by_cases hax : a = x
      · subst hax; simp
      · have h1 : ((a : Int) == (x : Int)) = false := beq_eq_false_iff_ne.2 (by omega)
        have h2 : (a == x) = false := beq_eq_false_iff_ne.2 hax
        rw [h1, h2]
  rw [idx_in hm, key]
end Go.Proofs.YtpfiofgchkfkhaaGreat
