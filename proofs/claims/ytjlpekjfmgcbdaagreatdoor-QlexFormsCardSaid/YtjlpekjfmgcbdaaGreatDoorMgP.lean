/- MgP: the texts QsD QsE in one. -/
import Derived.Test.YtjlpekjfmgcbdaaGreatDoorMgO
import Derived.BigQuiet
/- Contract of the reference's lexeme. -/
set_option linter.unusedVariables false
set_option linter.unusedSimpArgs false
namespace Go.Proofs.YtjlpekjfmgcbdaaGreatDoor
open Go.RowKit Go.Shelf
theorem refNumber_any (l : List UInt8) (a : Nat) (w : World) (hl : l.length ≤ 1000) (ha : a < l.length) (h0 : 0 < spn dgQ (l.drop a)) :
    Calls Tryz.prog 58 #[.string (bsQ l), .int .i64 (a : Int)] w fun e w' => LexOk a (numQ (l.drop a)) e ∧ Below w.heap.size w w' := by
  by_cases h39 : (l.drop a).getD (spn dgQ (l.drop a)) 0 = 39
  · exact refNumber_con l a w hl ha h0 h39
  · by_cases hrl : rlR (l.drop a) (spn dgQ (l.drop a)) = 0
    · exact refNumber_rest l a w hl ha h0 h39 hrl
    · exact refNumber_real l a w hl ha h0 h39 hrl
structure ResW (w W : World) (t : TypeId) : Prop where
  res : Row W w.heap.size t #[.int .i64 0, .string ⟨#[]⟩, .int .i64 0]
  low : Below w.heap.size w W
theorem ResW.new (w : World) (t : TypeId) : ResW w (w.alloc (.cells #[.int .i64 0, .string ⟨#[]⟩, .int .i64 0] t)) t :=
  ⟨Row.new w t _, (Below.refl _ _).alloc (Nat.le_refl _) _⟩
theorem ResW.below {w W W' : World} {t : TypeId} (h : ResW w W t) (hb : Below W.heap.size W W') : ResW w W' t :=
  ⟨h.res.below hb h.res.lt, h.low.trans (hb.mono h.low.size)⟩
theorem prefix_take {m u : List UInt8} (h : u.length ≤ m.length) : Lib.hasPrefix m u = (m.take u.length == u) := by
  cases hq : (m.take u.length == u) with
  | true => exact List.isPrefixOf_iff_prefix.2 (List.prefix_iff_eq_take.2 (eq_of_beq hq).symm)
  | false =>
    cases hp : Lib.hasPrefix m u with
    | false => rfl
    | true =>
      have := List.prefix_iff_eq_take.1 (List.isPrefixOf_iff_prefix.1 hp)
      rw [← this, beq_self_eq_true] at hq; cases hq
theorem prefix_long {m u : List UInt8} (h : m.length < u.length) : Lib.hasPrefix m u = false := by
  cases hp : Lib.hasPrefix m u with
  | false => rfl
  | true =>
    have := (List.isPrefixOf_iff_prefix.1 hp).length_le
    omega
theorem dg_not : ∀ c : UInt8, dgQ c = true → fiQ c = false ∧ c ≠ 92 ∧ c ≠ 34 := fun c => all_bytes (p := fun c => dgQ c = true → fiQ c = false ∧ c ≠ 92 ∧ c ≠ 34) (by decide +kernel) c
theorem syms_len : ∀ u ∈ symsQ, 1 ≤ u.length ∧ u.length ≤ 3 := by decide
set_option maxRecDepth 20000 in
set_option maxHeartbeats 8000000 in
theorem refLexeme_num (l : List UInt8) (a : Nat) (w : World) (hl : l.length ≤ 1000) (ha : a < l.length) (hd : dgQ (l[a]'ha) = true) :
    Calls Tryz.prog 30 #[.string (bsQ l), .int .i64 (a : Int)] w fun e w' => LexOk a (readQ (l.drop a)) e ∧ Below w.heap.size w w' := by
  have hz := bsQ_size l
  have hg : ∀ (i : Nat) (h : i < (bsQ l).size) (h2 : i < l.length), (bsQ l)[i]'h = l[i] := fun i h h2 => bsQ_get l i h
  obtain ⟨c, hc⟩ : ∃ c, l[a]'ha = c := ⟨_, rfl⟩
  have hm : l.drop a = c :: l.drop (a + 1) := by rw [List.drop_eq_getElem_cons ha, hc]
  have has : a < (bsQ l).size := by omega
  have hsc : (bsQ l)[a]'has = c := by rw [hg a has ha, hc]
  have k1 : (a : Int) < ((bsQ l).size : Int) := by omega
  have k2 : (0 : Int) ≤ (a : Int) := by omega
  have DG := hide (refDigitQ_any c)
  rw [hc] at hd
  have HV := hide (show readQ (l.drop a) = numQ (l.drop a) by
    rw [hm, readQ_cons, if_neg (by rintro (h | h); rw [(dg_not c hd).1] at h; cases h; exact (dg_not c hd).2.1 h), if_pos hd])
  have NU := hide (fun W : World => refNumber_any l a W hl ha (by rw [hm, spn_yes hd]; omega))
  rw [hd] at DG
  generalize numQ (l.drop a) = X at *
  clear hg hc hm hd
  generalize bsQ l = s at *
  rw [HV.out]
  go_enter Tryz.func30, Tryz.ntmps30
  go_upto_region 1 with fail
  obtain ⟨W1, hW1⟩ : ∃ W1, w.alloc (.cells #[.int .i64 0, .string ⟨#[]⟩, .int .i64 0] 33) = W1 := ⟨_, rfl⟩
  rw [hW1]
  have N1 := hide (show ResW w W1 33 by rw [← hW1]; exact ResW.new _ _)
  clear hW1
  go_wp2_with fail
  refine (DG.out _).mono ?_
  rintro e w1 ⟨rfl, rfl⟩
  go_wp2_with fail
  refine (NU.out _).mono ?_
  rintro e w2 ⟨⟨k, t, p, N, rfl, hok⟩, hb⟩
  have N2 := hide (N1.out.below hb)
  have HOK := hide hok
  clear hb hok
  have c0 := N2.out.res.cell 0
  have c1 := N2.out.res.cell 1
  have c2 := N2.out.res.cell 2
  have f0 := N2.out.res.frozen 0
  have f1 := N2.out.res.frozen 1
  have f2 := N2.out.res.frozen 2
  go_wp2
  refine bodyPost_ret (v := .tuple #[.agg #[.int .i64 k, .string t, .int .i64 p], .int .i64 N, .int .i64 X.err]) (results_cell3Q rfl _ _ w.heap.size 33 _ _ _ _ _ rfl rfl rfl (rowL_put N2.out.res _ _ _) Tryz.underlying33 rfl (by kernel_rfl)) rfl ?_
  exact ⟨⟨k, t, p, N, rfl, HOK.out⟩, below3 N2.out.low (Nat.le_refl _) _ _ _⟩
set_option maxRecDepth 20000 in
set_option maxHeartbeats 8000000 in
theorem refLexeme_str (l : List UInt8) (a : Nat) (w : World) (hl : l.length ≤ 1000) (ha : a < l.length) (hd : l[a]'ha = 34) :
    Calls Tryz.prog 30 #[.string (bsQ l), .int .i64 (a : Int)] w fun e w' => LexOk a (readQ (l.drop a)) e ∧ Below w.heap.size w w' := by
  have hz := bsQ_size l
  have hg : ∀ (i : Nat) (h : i < (bsQ l).size) (h2 : i < l.length), (bsQ l)[i]'h = l[i] := fun i h h2 => bsQ_get l i h
  obtain ⟨c, hc⟩ : ∃ c, l[a]'ha = c := ⟨_, rfl⟩
  have hm : l.drop a = c :: l.drop (a + 1) := by rw [List.drop_eq_getElem_cons ha, hc]
  have has : a < (bsQ l).size := by omega
  have hsc : (bsQ l)[a]'has = c := by rw [hg a has ha, hc]
  have k1 : (a : Int) < ((bsQ l).size : Int) := by omega
  have k2 : (0 : Int) ≤ (a : Int) := by omega
  have DG := hide (refDigitQ_any c)
  rw [hc] at hd
  subst hd
  have hrd : readQ (l.drop a) = quotedQ (l.drop a) := by
    rw [hm, readQ_cons, if_neg (by decide), if_neg (by decide), if_pos rfl]
  have DG := hide (fun W : World => show Calls Tryz.prog 57 #[.int .u8 34] W fun e w' => e = .returned (.bool false) ∧ w' = W from DG.out W)
  have QT := hide (fun W : World => refQuoted_any l a W (by omega) (by omega))
  rw [hm] at hrd ⊢
  rw [hrd]
  have hqp : quotP l a = match quotW (l.drop (a + 1)) with | none => (0, []) | some q => (a + 1 + q.2, q.1) := rfl
  generalize quotP l a = Q at *
  cases hq : quotW (l.drop (a + 1)) with
  | none =>
    rw [hq] at hqp
    subst hqp
    have HV := hide (quoted_none hq)
    have QT := hide (fun W : World => show Calls Tryz.prog 47 #[.string (bsQ l), .int .i64 (a : Int)] W fun e w' => e = .returned (.tuple #[.int .i64 0, .string ⟨#[]⟩]) ∧ Below W.heap.size W w' from QT.out W)
    clear hg hc hm hrd hq
    generalize bsQ l = s at *
    go_enter Tryz.func30, Tryz.ntmps30
    go_upto_region 1 with fail
    obtain ⟨W1, hW1⟩ : ∃ W1, w.alloc (.cells #[.int .i64 0, .string ⟨#[]⟩, .int .i64 0] 33) = W1 := ⟨_, rfl⟩
    rw [hW1]
    have N1 := hide (show ResW w W1 33 by rw [← hW1]; exact ResW.new _ _)
    clear hW1
    go_wp2_with fail
    refine (DG.out _).mono ?_
    rintro e w1 ⟨rfl, rfl⟩
    go_wp2_with fail
    refine (QT.out _).mono ?_
    rintro e w2 ⟨rfl, hb⟩
    have N2 := hide (N1.out.below hb)
    clear hb
    have c0 := N2.out.res.cell 0
    have c1 := N2.out.res.cell 1
    have c2 := N2.out.res.cell 2
    have f0 := N2.out.res.frozen 0
    have f1 := N2.out.res.frozen 1
    have f2 := N2.out.res.frozen 2
    go_wp2
    refine bodyPost_ret (v := .tuple #[.agg #[.int .i64 0, .string ⟨#[]⟩, .int .i64 0], .int .i64 0, .int .i64 3]) (results_cell3Q rfl _ _ w.heap.size 33 _ _ _ _ _ rfl rfl rfl (rowL_put N2.out.res _ _ _) Tryz.underlying33 rfl (by kernel_rfl)) rfl ?_
    exact ⟨LexOk.bad _ _ _ _ HV.out (by decide), below3 N2.out.low (Nat.le_refl _) _ _ _⟩
  | some q =>
    obtain ⟨o, k⟩ := q
    rw [hq] at hqp
    subst hqp
    have hsome := quoted_some hq
    obtain ⟨K, hK⟩ : ∃ K, a + 1 + k = K := ⟨_, rfl⟩
    have hlen := (quotW_last _ _ (Nat.le_refl _) o k hq).2.1
    rw [List.length_drop] at hlen
    have QT := hide (fun W : World => show Calls Tryz.prog 47 #[.string (bsQ l), .int .i64 (a : Int)] W fun e w' => e = .returned (.tuple #[.int .i64 (K : Int), .string (bsQ o)]) ∧ Below W.heap.size W w' by rw [← hK]; exact QT.out W)
    have e0 : ((K : Int) == 0) = false := beq_eq_false_iff_ne.2 (by omega)
    have hzo := bsQ_size o
    clear hg hc hm hrd hq
    generalize bsQ l = s at *
    by_cases h64 : 64 < o.length
    · rw [if_pos h64, if_pos h64] at hsome
      have HV := hide (show (quotedQ (34 :: l.drop (a + 1))).err = 9 by rw [hsome])
      have q64 : (64 : Int) < ((bsQ o).size : Int) := by omega
      generalize bsQ o = so at *
      clear hsome h64
      go_enter Tryz.func30, Tryz.ntmps30
      go_upto_region 1 with fail
      obtain ⟨W1, hW1⟩ : ∃ W1, w.alloc (.cells #[.int .i64 0, .string ⟨#[]⟩, .int .i64 0] 33) = W1 := ⟨_, rfl⟩
      rw [hW1]
      have N1 := hide (show ResW w W1 33 by rw [← hW1]; exact ResW.new _ _)
      clear hW1
      go_wp2_with fail
      refine (DG.out _).mono ?_
      rintro e w1 ⟨rfl, rfl⟩
      go_wp2_with fail
      refine (QT.out _).mono ?_
      rintro e w2 ⟨rfl, hb⟩
      have N2 := hide (N1.out.below hb)
      clear hb
      have c0 := N2.out.res.cell 0
      have c1 := N2.out.res.cell 1
      have c2 := N2.out.res.cell 2
      have f0 := N2.out.res.frozen 0
      have f1 := N2.out.res.frozen 1
      have f2 := N2.out.res.frozen 2
      go_wp2
      refine bodyPost_ret (v := .tuple #[.agg #[.int .i64 0, .string ⟨#[]⟩, .int .i64 0], .int .i64 0, .int .i64 9]) (results_cell3Q rfl _ _ w.heap.size 33 _ _ _ _ _ rfl rfl rfl (rowL_put N2.out.res _ _ _) Tryz.underlying33 rfl (by kernel_rfl)) rfl ?_
      exact ⟨LexOk.bad _ _ _ _ HV.out (by decide), below3 N2.out.low (Nat.le_refl _) _ _ _⟩
    · rw [if_neg h64, if_neg h64] at hsome
      have HV := hide hsome
      have q64 : ¬ (64 : Int) < ((bsQ o).size : Int) := by omega
      have HKI := hide (show (K : Int) = ((a + (k + 1) : Nat) : Int) by omega)
      obtain ⟨so, hso⟩ : ∃ so, bsQ o = so := ⟨_, rfl⟩
      rw [hso] at QT q64
      have HSO := hide hso
      clear hsome h64 hso
      go_enter Tryz.func30, Tryz.ntmps30
      go_upto_region 1 with fail
      obtain ⟨W1, hW1⟩ : ∃ W1, w.alloc (.cells #[.int .i64 0, .string ⟨#[]⟩, .int .i64 0] 33) = W1 := ⟨_, rfl⟩
      rw [hW1]
      have N1 := hide (show ResW w W1 33 by rw [← hW1]; exact ResW.new _ _)
      clear hW1
      go_wp2_with fail
      refine (DG.out _).mono ?_
      rintro e w1 ⟨rfl, rfl⟩
      go_wp2_with fail
      refine (QT.out _).mono ?_
      rintro e w2 ⟨rfl, hb⟩
      have N2 := hide (N1.out.below hb)
      clear hb
      have c0 := N2.out.res.cell 0
      have c1 := N2.out.res.cell 1
      have c2 := N2.out.res.cell 2
      have f0 := N2.out.res.frozen 0
      have f1 := N2.out.res.frozen 1
      have f2 := N2.out.res.frozen 2
      go_wp2
      refine bodyPost_ret (v := .tuple #[.agg #[.int .i64 5, .string so, .int .i64 (a : Int)], .int .i64 (K : Int), .int .i64 0]) (results_cell3Q rfl _ _ w.heap.size 33 _ _ _ _ _ rfl rfl rfl (rowL_put N2.out.res _ _ _) Tryz.underlying33 rfl (by kernel_rfl)) rfl ?_
      exact ⟨by rw [HKI.out, ← HSO.out]; exact LexOk.good HV.out, below3 N2.out.low (Nat.le_refl _) _ _ _⟩
set_option maxRecDepth 20000 in
set_option maxHeartbeats 8000000 in
theorem refLexeme_name (l : List UInt8) (a : Nat) (w : World) (hl : l.length ≤ 1000) (ha : a < l.length) (hd : dgQ (l[a]'ha) = false) (hd2 : l[a]'ha ≠ 34) :
    Calls Tryz.prog 30 #[.string (bsQ l), .int .i64 (a : Int)] w fun e w' => LexOk a (readQ (l.drop a)) e ∧ Below w.heap.size w w' := by
  have hz := bsQ_size l
  have hg : ∀ (i : Nat) (h : i < (bsQ l).size) (h2 : i < l.length), (bsQ l)[i]'h = l[i] := fun i h h2 => bsQ_get l i h
  obtain ⟨c, hc⟩ : ∃ c, l[a]'ha = c := ⟨_, rfl⟩
  have hm : l.drop a = c :: l.drop (a + 1) := by rw [List.drop_eq_getElem_cons ha, hc]
  have has : a < (bsQ l).size := by omega
  have hsc : (bsQ l)[a]'has = c := by rw [hg a has ha, hc]
  have k1 : (a : Int) < ((bsQ l).size : Int) := by omega
  have k2 : (0 : Int) ≤ (a : Int) := by omega
  have DG := hide (refDigitQ_any c)
  rw [hc] at hd
  rw [hc] at hd2
  have e34 : ((c.toNat : Int) == 34) = false := toNat_neQ (d := 34) hd2
  rw [hd] at DG
  have NM := hide (fun W : World => refName_any l a W (by omega) (by omega))
  have SY := hide refSymbols_any
  have Hg := hide (fun (i : Nat) (h : i < (bsQ l).size) (h2 : i < l.length) => hg i h h2)
  have hnm : nmR l a = match pathR (l.drop a) with | none => (0, []) | some p => (a + p.2, p.1) := rfl
  generalize nmR l a = Q at *
  cases hp : pathR (l.drop a) with
  | some p =>
    obtain ⟨T, n⟩ := p
    rw [hp] at hnm
    subst hnm
    have hfi : fiQ c = true ∨ c = 92 := by
      apply Classical.byContradiction
      intro h
      have h2 : segQ (l.drop a) = none := by
        rw [hm, segQ, if_neg (fun h1 => h (.inl h1)), if_neg (fun h1 => h (.inr h1))]
      rw [pathR_step, h2] at hp; cases hp
    have hrd : readQ (l.drop a) = foundQ 0 T n := by
      have h2 : pathQ (l.drop a) = foundQ 0 T n := by
        have h3 : pathF ((l.drop a).length + 1) (l.drop a) = some (T, n) := hp
        unfold pathQ
        rw [h3]
      rw [← h2, hm, readQ_cons, if_pos hfi]
    have hn := pathF_len _ _ _ (show pathF ((l.drop a).length + 1) (l.drop a) = some (T, n) from hp)
    have hn1 : 1 ≤ n := hn.1
    obtain ⟨K, hK⟩ : ∃ K, a + n = K := ⟨_, rfl⟩
    have NM := hide (fun W : World => show Calls Tryz.prog 59 #[.string (bsQ l), .int .i64 (a : Int)] W fun e w' => e = .returned (.tuple #[.int .i64 (K : Int), .string (bsQ T)]) ∧ Below W.heap.size W w' by rw [← hK]; exact NM.out W)
    have q0 : (0 : Int) < (K : Int) := by omega
    have HKI := hide (show (K : Int) = ((a + n : Nat) : Int) by omega)
    have HV := hide hrd
    clear hg hc hm hd2 hp hfi hrd hn
    generalize bsQ l = s at *
    go_enter Tryz.func30, Tryz.ntmps30
    go_upto_region 1 with fail
    obtain ⟨W1, hW1⟩ : ∃ W1, w.alloc (.cells #[.int .i64 0, .string ⟨#[]⟩, .int .i64 0] 33) = W1 := ⟨_, rfl⟩
    rw [hW1]
    have N1 := hide (show ResW w W1 33 by rw [← hW1]; exact ResW.new _ _)
    clear hW1
    go_wp2_with fail
    refine (DG.out _).mono ?_
    rintro e w1 ⟨rfl, rfl⟩
    go_wp2_with fail
    refine (NM.out _).mono ?_
    rintro e w2 ⟨rfl, hb⟩
    have N2 := hide (N1.out.below hb)
    clear hb
    have c0 := N2.out.res.cell 0
    have c1 := N2.out.res.cell 1
    have c2 := N2.out.res.cell 2
    have f0 := N2.out.res.frozen 0
    have f1 := N2.out.res.frozen 1
    have f2 := N2.out.res.frozen 2
    go_wp2
    refine bodyPost_ret (v := .tuple #[.agg #[.int .i64 0, .string (bsQ T), .int .i64 (a : Int)], .int .i64 (K : Int), .int .i64 0]) (results_cell3Q rfl _ _ w.heap.size 33 _ _ _ _ _ rfl rfl rfl (rowL_put N2.out.res _ _ _) Tryz.underlying33 rfl (by kernel_rfl)) rfl ?_
    exact ⟨by rw [HKI.out]; exact LexOk.good HV.out, below3 N2.out.low (Nat.le_refl _) _ _ _⟩
  | none =>
    rw [hp] at hnm
    subst hnm
    have hrd : readQ (l.drop a) = symW (firstS symsQ (l.drop a)) := by
      by_cases hfi : fiQ c = true ∨ c = 92
      · have h2 : pathQ (l.drop a) = wrongQ 3 := by
          have h3 : pathF ((l.drop a).length + 1) (l.drop a) = none := hp
          unfold pathQ
          rw [h3]
        rw [hm] at h2 ⊢
        rw [readQ_cons, if_pos hfi, h2, syms_none hfi]; rfl
      · rw [hm, readQ_cons, if_neg hfi, hd, if_neg (by decide), if_neg hd2]
    have NM := hide (fun W : World => show Calls Tryz.prog 59 #[.string (bsQ l), .int .i64 (a : Int)] W fun e w' => e = .returned (.tuple #[.int .i64 0, .string ⟨#[]⟩]) ∧ Below W.heap.size W w' from NM.out W)
    obtain ⟨F, hF⟩ : ∃ F, firstS symsQ (l.drop a) = F := ⟨_, rfl⟩
    rw [hF] at hrd
    have HF := hide hF
    have HV := hide hrd
    have hml : (l.drop a).length = l.length - a := List.length_drop
    have HX := hide (fun (n : Nat) => show (bsQ l).extract a (a + n) = bsQ ((l.drop a).take n) by rw [bsQ_mid l a (a + n), Nat.add_sub_cancel_left])
    generalize l.drop a = m at *
    clear hg hc hm hd2 hp hrd hF
    generalize bsQ l = s at *
    have Hz := hide hz
    clear hz
    go_enter Tryz.func30, Tryz.ntmps30
    go_upto_region 1 with fail
    obtain ⟨W1, hW1⟩ : ∃ W1, w.alloc (.cells #[.int .i64 0, .string ⟨#[]⟩, .int .i64 0] 33) = W1 := ⟨_, rfl⟩
    rw [hW1]
    have N1 := hide (show ResW w W1 33 by rw [← hW1]; exact ResW.new _ _)
    clear hW1
    go_wp2_with fail
    refine (DG.out _).mono ?_
    rintro e w1 ⟨rfl, rfl⟩
    go_wp2_with fail
    refine (NM.out _).mono ?_
    rintro e w2 ⟨rfl, hb⟩
    have N2 := hide (N1.out.below hb)
    clear hb
    go_wp2_with fail
    refine (SY.out _).mono ?_
    rintro e w3 ⟨rfl, hsl, hb⟩
    have N3 := hide (N2.out.below hb)
    have HSL := hide hsl
    clear hb hsl
    generalize w2.heap.size = g2 at *
    go_wp2_with fail
    go_loopw [12] (fun v wr => ∃ i : Nat, v = .int .i64 (i : Int) ∧ i ≤ 26 ∧ Hid (firstS (symsQ.drop i) m = F) ∧ Below w3.heap.size w3 wr) (fun v _ => 26 - (intOf v).toNat)
    case atStart => exact ⟨0, rfl, Nat.zero_le _, hide (by rw [List.drop_zero]; exact HF.out), Below.refl _ _⟩
    case round =>
      obtain ⟨i, rfl, hi, HI, hb⟩ := hrel
      have Hb := hide hb
      by_cases hlt : i < 26
      · have hi' : (i : Int) < 26 := by omega
        have hi0 : (0 : Int) ≤ (i : Int) := by omega
        have hix : i < symsQ.length := hlt
        have hwi : IntKind.i64.wrap ((i : Int) + 1) = (i : Int) + 1 := IntWalk.i64_in _ (by omega)
        have hu := syms_len _ (List.getElem_mem hix)
        have hdr := HI.out
        rw [List.drop_eq_getElem_cons hix] at hdr
        have ca := hb.cell (p := ⟨g2, i, none⟩) (by have h := World.block_lt_of_cell? w3 _ (by have := (HSL.out.at hix); obtain ⟨b, off, h1, h2, h3⟩ := this; cases h1; have h4 := h3 w3 (Below.refl _ _); rw [Nat.zero_add] at h4; exact h4); exact h)
        have cb : w3.cell? ⟨g2, i, none⟩ = some (strQ (symsQ[i]'hix)) := by
          obtain ⟨b, off, h1, h2, h3⟩ := HSL.out.at hix
          cases h1
          have h4 := h3 w3 (Below.refl _ _)
          rw [Nat.zero_add] at h4
          exact h4
        rw [cb] at ca
        generalize symsQ[i]'hix = u at *
        replace ca : wr.cell? ⟨g2, i, none⟩ = some (.string (bsQ u)) := ca
        clear cb hb
        have hsu := bsQ_size u
        have wu : IntKind.i64.wrap ((a : Int) + ((bsQ u).size : Int)) = (a : Int) + ((bsQ u).size : Int) := IntWalk.i64_in _ (by omega)
        have hE : ((a : Int) + ((bsQ u).size : Int)).toNat = a + (bsQ u).size := by omega
        have hEa : (a : Int) ≤ (a : Int) + ((bsQ u).size : Int) := by omega
        have hfs : firstS (u :: symsQ.drop (i + 1)) m = if Lib.hasPrefix m u = true then some u else firstS (symsQ.drop (i + 1)) m := rfl
        rw [hfs] at hdr
        by_cases hfit : a + u.length ≤ l.length
        · have q1 : (a : Int) + ((bsQ u).size : Int) ≤ (s.size : Int) := by have := Hz.out; omega
          have qd : decide ((a : Int) + ((bsQ u).size : Int) ≤ (s.size : Int)) = true := decide_eq_true q1
          have x1 : s.extract a (a + (bsQ u).size) = bsQ (m.take u.length) := by rw [hsu]; exact HX.out u.length
          have hbq := bsQ_beq (m.take u.length) u
          rw [prefix_take (by omega)] at hdr
          cases hq : (m.take u.length == u) with
          | true =>
            rw [hq, if_pos rfl] at hdr
            rw [hq] at hbq
            have HV2 := hide (show readQ m = ⟨6, u, u.length, 0⟩ by rw [HV.out, ← hdr]; rfl)
            have HKI := hide (show (a : Int) + ((bsQ u).size : Int) = ((a + u.length : Nat) : Int) by omega)
            obtain ⟨su, hsu2⟩ : ∃ su, bsQ u = su := ⟨_, rfl⟩
            rw [hsu2] at ca q1 qd x1 hbq wu hE hEa HKI
            have HSU := hide hsu2
            generalize bsQ (m.take u.length) = sx at *
            clear hsu2 hdr hfs hq hsu
            go_wp2_with fail
            go_quiet (fail)
            go_upto_region 19 with fail
            have N4 := hide ((N3.out.below Hb.out).below (Below_drewN (Below.refl _ _) nq))
            replace ca := show (wr.drewN nq).cell? ⟨g2, i, none⟩ = some (.string su) from ca
            generalize wr.drewN nq = W5 at N4 ca ⊢
            have c0 := N4.out.res.cell 0
            have c1 := N4.out.res.cell 1
            have c2 := N4.out.res.cell 2
            have f0 := N4.out.res.frozen 0
            have f1 := N4.out.res.frozen 1
            have f2 := N4.out.res.frozen 2
            go_wp2
            refine bodyPost_ret (v := .tuple #[.agg #[.int .i64 6, .string su, .int .i64 (a : Int)], .int .i64 ((a : Int) + (su.size : Int)), .int .i64 0]) (results_cell3Q rfl _ _ w.heap.size 33 _ _ _ _ _ rfl rfl rfl (rowL_put N4.out.res _ _ _) Tryz.underlying33 rfl (by kernel_rfl)) rfl ?_
            exact ⟨by rw [HKI.out, ← HSU.out]; exact LexOk.good HV2.out, below3 N4.out.low (Nat.le_refl _) _ _ _⟩
          | false =>
            rw [hq, if_neg (by decide)] at hdr
            rw [hq] at hbq
            have HI2 := hide hdr
            generalize bsQ (m.take u.length) = sx at *
            generalize bsQ u = su at *
            clear hdr hfs hq hsu HI
            go_wp2_with fail
            go_quiet (fail)
            go_wp2
            go_roundw
            case rel => exact ⟨i + 1, by go_num, by omega, HI2, Below_drewN Hb.out _⟩
            case measure => simp [intOf]; omega
        · have q1 : ¬ (a : Int) + ((bsQ u).size : Int) ≤ (s.size : Int) := by have := Hz.out; omega
          have qd : decide ((a : Int) + ((bsQ u).size : Int) ≤ (s.size : Int)) = false := decide_eq_false q1
          rw [prefix_long (by omega), if_neg (by decide)] at hdr
          have HI2 := hide hdr
          generalize bsQ u = su at *
          clear hdr hfs hsu HI
          go_wp2_with fail
          go_quiet (fail)
          go_wp2
          go_roundw
          case rel => exact ⟨i + 1, by go_num, by omega, HI2, Below_drewN Hb.out _⟩
          case measure => simp [intOf]; omega
      · have hi' : ¬ (i : Int) < 26 := by omega
        have HV2 := hide (show (readQ m).err = 3 by rw [HV.out, ← HI.out, show i = 26 by omega]; rfl)
        have N4 := hide (N3.out.below Hb.out)
        clear hb
        have c0 := N4.out.res.cell 0
        have c1 := N4.out.res.cell 1
        have c2 := N4.out.res.cell 2
        have f0 := N4.out.res.frozen 0
        have f1 := N4.out.res.frozen 1
        have f2 := N4.out.res.frozen 2
        go_wp2
        refine bodyPost_ret (v := .tuple #[.agg #[.int .i64 0, .string ⟨#[]⟩, .int .i64 0], .int .i64 0, .int .i64 3]) (results_cell3Q rfl _ _ w.heap.size 33 _ _ _ _ _ rfl rfl rfl (rowL_put N4.out.res _ _ _) Tryz.underlying33 rfl (by kernel_rfl)) rfl ?_
        exact ⟨LexOk.bad _ _ _ _ HV2.out (by decide), below3 N4.out.low (Nat.le_refl _) _ _ _⟩
end Go.Proofs.YtjlpekjfmgcbdaaGreatDoor

/- Contract of the reference's Lex. -/
set_option linter.unusedVariables false
set_option linter.unusedSimpArgs false
namespace Go.Proofs.YtjlpekjfmgcbdaaGreatDoor
open Go.RowKit Go.Shelf
theorem refLexeme_any (l : List UInt8) (a : Nat) (w : World) (hl : l.length ≤ 1000) (ha : a < l.length) :
    Calls Tryz.prog 30 #[.string (bsQ l), .int .i64 (a : Int)] w fun e w' => LexOk a (readQ (l.drop a)) e ∧ Below w.heap.size w w' := by
  cases hd : dgQ (l[a]'ha) with
  | true => exact refLexeme_num l a w hl ha hd
  | false =>
    by_cases h2 : l[a]'ha = 34
    · exact refLexeme_str l a w hl ha h2
    · exact refLexeme_name l a w hl ha hd h2
theorem lexF_bad {a : Nat} {x : Wq} {r : List (Nat × Wq)} {out : List Lx} (h : x.err ≠ 0) : lexF ((a, x) :: r) out = ([], a, x.err) := by
  show (if x.err = 0 then _ else _) = _
  rw [if_neg h]
theorem lexF_full {a : Nat} {x : Wq} {r : List (Nat × Wq)} {out : List Lx} (h : x.err = 0) (h2 : out.length = 512) : lexF ((a, x) :: r) out = ([], a, 9) := by
  show (if x.err = 0 then _ else _) = _
  rw [if_pos h, if_pos h2]
theorem lexF_more {a : Nat} {x : Wq} {r : List (Nat × Wq)} {out : List Lx} (h : x.err = 0) (h2 : out.length ≠ 512) : lexF ((a, x) :: r) out = lexF r (out ++ [⟨x.kind, x.text, a⟩]) := by
  show (if x.err = 0 then _ else _) = _
  rw [if_pos h, if_neg h2]
theorem spn_pos8 {p : UInt8 → Bool} {l : List UInt8} {i : Nat} (h : i < l.length) (hp : p l[i] = true) : 1 ≤ spn p (l.drop i) := by
  rw [List.drop_eq_getElem_cons h, spn_yes hp]; omega
set_option maxRecDepth 20000 in
set_option maxHeartbeats 8000000 in
theorem refLex_own (l : List UInt8) (w : World) (hl : l.length ≤ 1000) :
    Calls Tryz.prog 11 #[.string (bsQ l)] w fun e w' => ∃ v, e = .returned (.tuple #[v, .int .i64 ((lexQ l).2.1 : Int), .int .i64 (lexQ l).2.2]) ∧ w'.ownsRow w.heap.size 33 3 v (lexQ l).1.length (lxCells (lexQ l).1) ∧ Below w.heap.size w w' := by
  have hz := bsQ_size l
  have hg : ∀ (i : Nat) (h : i < (bsQ l).size) (h2 : i < l.length), (bsQ l)[i]'h = l[i] := fun i h h2 => bsQ_get l i h
  have hq : ¬ (16384 : Int) < ((bsQ l).size : Int) := by omega
  obtain ⟨R, hR⟩ : ∃ R, lexQ l = R := ⟨_, rfl⟩
  have HR := hide (show lexF (wordsFrom l (nextQ l 0)) [] = R by rw [← hR]; unfold lexQ; rw [if_neg (by omega)]; rfl)
  rw [hR]
  have BL := hide refBlankQ_any
  have LX := hide (fun (a : Nat) (W : World) (h : a < l.length) => refLexeme_any l a W hl h)
  have Hz := hide hz
  have Hg := hide (fun (i : Nat) (h : i < (bsQ l).size) (h2 : i < l.length) => hg i h h2)
  clear hg hz hR
  generalize bsQ l = s at *
  go_enter Tryz.func11, Tryz.ntmps11
  go_wp2_with fail
  go_loopw [5, 6] (fun v5 v6 wr => ∃ (k : Nat) (out : List Lx), v6 = .int .i64 (k : Int) ∧ k ≤ l.length ∧ out.length ≤ 512 ∧ wr.ownsRow w.heap.size 33 3 v5 out.length (lxCells out) ∧ Hid (lexF (wordsFrom l (nextQ l k)) out = R) ∧ Below w.heap.size w wr) (fun _ v _ => l.length - (intOf v).toNat)
  case atStart => exact ⟨0, [], rfl, Nat.zero_le _, Nat.zero_le _, World.ownsRow_made w #[] 0 (Nat.le_refl _) (Nat.zero_le _) rfl, HR, (Below.refl _ _).alloc (Nat.le_refl _) _⟩
  case round =>
    obtain ⟨k, out, rfl, hk, hn5, hown, HL, hb⟩ := hrel
    have Hown := hide hown
    have Hb := hide hb
    obtain ⟨A, cap, rfl⟩ := own_slG hown
    have hcap : out.length ≤ cap ∨ True := .inr trivial
    clear hown hb hcap
    by_cases hlt : k < l.length
    · have hi' : (k : Int) < (s.size : Int) := by have := Hz.out; omega
      have hi0 : (0 : Int) ≤ (k : Int) := by omega
      have his : k < s.size := by omega
      have hwi : IntKind.i64.wrap ((k : Int) + 1) = (k : Int) + 1 := IntWalk.i64_in _ (by omega)
      obtain ⟨c, hc⟩ : ∃ c, l[k]'hlt = c := ⟨_, rfl⟩
      have hsc : s[k]'his = c := by rw [Hg.out k his hlt, hc]
      have BL := hide (BL.out c)
      cases hbl : blQ c with
      | true =>
        rw [hbl] at BL
        have HL2 := hide (show lexF (wordsFrom l (nextQ l (k + 1))) out = R by rw [← HL.out, nextQ_blank hlt (by rw [hc]; exact hbl)])
        clear hc hbl
        go_wp2_with fail
        refine (BL.out _).mono ?_
        rintro e w2 ⟨rfl, rfl⟩
        go_wp2
        go_roundw
        case rel => exact ⟨k + 1, out, by go_num, by omega, hn5, Hown.out, HL2, Hb.out⟩
        case measure => simp [intOf]; omega
      | false =>
        rw [hbl] at BL
        by_cases h35 : c = 35
        · subst h35
          obtain ⟨J, hJ⟩ : ∃ J, k + spn (· != 10) (l.drop k) = J := ⟨_, rfl⟩
          have HL2 := hide (show lexF (wordsFrom l (nextQ l J)) out = R by rw [← HL.out, nextQ_hash hlt hc, hJ])
          have hJk : k < J := by have := spn_pos8 (p := (· != 10)) hlt (by rw [hc]; decide); omega
          have hJl : J ≤ l.length := by have := spn_le (· != 10) (l.drop k); rw [List.length_drop] at this; omega
          have HJ := hide hJ
          clear hc hbl hJ
          go_wp2_with fail
          refine (BL.out _).mono ?_
          rintro e w2 ⟨rfl, rfl⟩
          go_wp2_with fail
          go_loop [6] (fun v => ∃ j : Nat, v = .int .i64 (j : Int) ∧ Hid (j + spn (· != 10) (l.drop j) = J) ∧ j ≤ J) (fun v => l.length - (intOf v).toNat)
          case atStart => exact ⟨k, rfl, HJ, by omega⟩
          case round =>
            obtain ⟨j, rfl, HI, hjJ⟩ := hrel
            by_cases hjl : j < l.length
            · have hj' : (j : Int) < (s.size : Int) := by have := Hz.out; omega
              have hj0 : (0 : Int) ≤ (j : Int) := by omega
              have hjs : j < s.size := by omega
              have hwj : IntKind.i64.wrap ((j : Int) + 1) = (j : Int) + 1 := IntWalk.i64_in _ (by omega)
              obtain ⟨d, hd⟩ : ∃ d, l[j]'hjl = d := ⟨_, rfl⟩
              have hsd : s[j]'hjs = d := by rw [Hg.out j hjs hjl, hd]
              by_cases h10 : d = 10
              · subst h10
                have hjK : j = J := by rw [← HI.out, spn_stop hjl (by rw [hd]; decide)]
                subst hjK
                clear hd HI
                go_wp2
                go_roundw
                case rel => exact ⟨j, out, rfl, hJl, hn5, Hown.out, HL2, Hb.out⟩
                case measure => simp [intOf]; omega
              · have e1 : ((d.toNat : Int) == 10) = false := toNat_neQ (d := 10) h10
                have e2 : ((d.toNat : Int) != 10) = true := by rw [bne, e1]; rfl
                have HI2 := hide (show (j + 1) + spn (· != 10) (l.drop (j + 1)) = J by rw [← HI.out, spn_step hjl (by rw [hd]; simpa using h10)])
                have hj1 : j + 1 ≤ J := by have := HI2.out; omega
                clear hd HI h10
                go_wp2
                go_round
                case rel => exact ⟨j + 1, by go_num, HI2, hj1⟩
                case measure => simp [intOf]; omega
            · have hj' : ¬ (j : Int) < (s.size : Int) := by have := Hz.out; omega
              have hjK : j = J := by rw [← HI.out, spn_end (by omega)]
              subst hjK
              clear HI
              go_wp2
              go_roundw
              case rel => exact ⟨j, out, rfl, hJl, hn5, Hown.out, HL2, Hb.out⟩
              case measure => simp [intOf]; omega
        have e35 : ((c.toNat : Int) == 35) = false := toNat_neQ (d := 35) h35
        have hst := wordsFrom_step hlt
        have hnx := nextQ_stop hlt (by rw [hc]; exact hbl) (by rw [hc]; exact h35)
        have hLR := HL.out
        rw [hnx, hst] at hLR
        have LK := hide (fun W : World => LX.out k W hlt)
        have HXs := hide (fun (h : (readQ (l.drop k)).err = 0) => readQ_size (l := l.drop k) (by rw [List.length_drop]; omega) h)
        have HLR := hide hLR
        clear hst hnx hLR hc hbl h35
        obtain ⟨X, hX⟩ : ∃ X, readQ (l.drop k) = X := ⟨_, rfl⟩
        rw [hX] at LK HXs HLR
        clear hX
        go_wp2_with fail
        refine (BL.out _).mono ?_
        rintro e w2 ⟨rfl, rfl⟩
        go_wp2_with fail
        refine (LK.out _).mono ?_
        rintro e w3 ⟨⟨kd, t, p, N, rfl, hok⟩, hb⟩
        have HOK := hide hok
        have hown3 := ownsRow_below Hown.out hb
        have hb3 := Hb.out.trans (hb.mono Hb.out.size)
        go_upto_region 12 with fail
        obtain ⟨W4, hW4⟩ : ∃ W4, w3.alloc (.cells #[.int .i64 kd, .string t, .int .i64 p] 33) = W4 := ⟨_, rfl⟩
        rw [hW4]
        have HS4 := hide (show W4.ownsRow w.heap.size 33 3 (.slice A out.length cap) out.length (lxCells out) by rw [← hW4]; exact hown3.alloc _)
        have HB4 := hide (show Below w.heap.size w W4 by rw [← hW4]; exact hb3.alloc hb3.size _)
        have hr4 : Row W4 w3.heap.size 33 #[.int .i64 kd, .string t, .int .i64 p] := by rw [← hW4]; exact Row.new _ _ _
        have hz4 : W4.heap.size = w3.heap.size + 1 := by rw [← hW4, World.size_alloc]
        clear hW4 hown3 hb3 hok hb
        by_cases her : X.err = 0
        rotate_left
        · have e1 : (X.err == 0) = false := beq_eq_false_iff_ne.2 her
          have e2 : (X.err != 0) = true := by rw [bne, e1]; rfl
          have HRv := hide (show R = ([], k, X.err) by rw [← HLR.out, lexF_bad her])
          clear her hr4
          go_wp2
          go_ret3
          exact ⟨.slice none 0 0, by rw [HRv.out]; rfl, by rw [HRv.out]; exact World.ownsRow_nil _ _ _ _, HB4.out⟩
        have e1 : (X.err == 0) = true := beq_iff_eq.2 her
        have e2 : (X.err != 0) = false := by rw [bne, e1]; rfl
        by_cases hfull : out.length = 512
        · have q5 : ((out.length : Int) == 512) = true := by rw [hfull]; rfl
          have HRv := hide (show R = ([], k, 9) by rw [← HLR.out, lexF_full her hfull])
          clear hfull hr4
          go_wp2
          go_ret3
          exact ⟨.slice none 0 0, by rw [HRv.out]; rfl, by rw [HRv.out]; exact World.ownsRow_nil _ _ _ _, HB4.out⟩
        have q5 : ((out.length : Int) == 512) = false := beq_eq_false_iff_ne.2 (by omega)
        obtain ⟨rfl, rfl, rfl, rfl⟩ := HOK.out her
        have hsz := HXs.out her
        rw [List.length_drop] at hsz
        have HL2 := hide (show lexF (wordsFrom l (nextQ l (k + X.size))) (out ++ [⟨X.kind, X.text, k⟩]) = R by rw [← HLR.out, lexF_more her hfull, if_pos her])
        have d0 := hr4.cell 0
        have d1 := hr4.cell 1
        have d2 := hr4.cell 2
        obtain ⟨K2, hK2⟩ : ∃ K2, k + X.size = K2 := ⟨_, rfl⟩
        rw [hK2] at HL2 ⊢
        have hK2l : K2 ≤ l.length := by omega
        have hkK2 : k < K2 := by omega
        have c5 : out.length + 1 ≤ maxLen := by unfold maxLen; omega
        have c6 : (out.length + 1) * 32 ≤ 140737488355328 := by omega
        have c4 : w.heap.size ≤ (W4.alloc (.cells #[.int .i64 X.kind, .string (bsQ X.text), .int .i64 (k : Int)] 33)).heap.size := by have := HB4.out.size; rw [World.size_alloc]; omega
        have c2 := cells_new (W := W4) [Value.int .i64 X.kind, .string (bsQ X.text), .int .i64 (k : Int)] 33 rfl
        have C2 := hide c2
        have c3 : ∀ u ∈ [Value.int .i64 X.kind, .string (bsQ X.text), .int .i64 (k : Int)], u.oneCell' = true := by intro u hu; simp only [List.mem_cons, List.not_mem_nil, or_false] at hu; rcases hu with rfl | rfl | rfl <;> rfl
        have C3 := hide c3
        have C4 := hide c4
        have hn6 : out.length + 1 ≤ 512 := by omega
        clear c2 c3 c4 hr4 hz4 hsz hK2 hfull
        go_wp2_with (at_builtin; refine wpList_append_at _ rfl _ _ 23 rfl w.heap.size 33 infoLx Tryz.underlying23 rfl (by decide) (.slice A out.length cap) out.length (lxCells out) rfl (HS4.out.alloc _) ⟨W4.heap.size, 0, none⟩ 1 1 [.int .i64 X.kind, .string (bsQ X.text), .int .i64 (k : Int)] rfl rfl C2.out C3.out c5 c6 C4.out ?_; intro v1 w1 hown1 hgrow1 _ hat1; have HO1 := hide hown1; have HG1 := hide hgrow1; clear hown1 hgrow1 hat1)
        go_roundw
        case rel =>
          refine ⟨K2, out ++ [⟨X.kind, X.text, k⟩], rfl, hK2l, by rw [List.length_append]; show out.length + 1 ≤ 512; exact hn6, ?_, HL2, ?_⟩
          · rw [List.length_append, lxCells_snoc]; exact HO1.out
          · exact (HB4.out.alloc HB4.out.size _).grown HG1.out (by rw [World.size_alloc]; have := HB4.out.size; omega) (fun j hj => (HS4.out.lt j hj).1)
        case measure => simp [intOf]; omega
    · have hi' : ¬ (k : Int) < (s.size : Int) := by have := Hz.out; omega
      have HRv := hide (show R = (out, 0, 0) by rw [← HL.out, nextQ_end (by omega), wordsFrom_end (by omega)]; rfl)
      clear HL
      go_wp2
      go_ret3
      exact ⟨_, by rw [HRv.out]; rfl, by rw [HRv.out]; exact Hown.out, Hb.out⟩
/-- the reference's Lex of a text whose lexemes are known -/
theorem refLex_at (l : List UInt8) (hl : l.length ≤ 1000) (out : List Lx) (a : Nat) (er : Int) (h : lexQ l = (out, a, er)) (w : World) :
    Calls Tryz.prog 11 #[.string (bsQ l)] w fun e w' => ∃ A cap, e = .returned (.tuple #[.slice A out.length cap, .int .i64 (a : Int), .int .i64 er]) ∧ LxSl w' A out ∧ Below w.heap.size w w' :=
  (refLex_own l w hl).mono (by
    rintro e w' ⟨v, rfl, ho, hb⟩
    rw [h] at ho
    obtain ⟨A, cap, rfl, hs⟩ := lx_own (out := out) ho
    exact ⟨A, cap, by rw [h], hs, hb⟩)
end Go.Proofs.YtjlpekjfmgcbdaaGreatDoor
