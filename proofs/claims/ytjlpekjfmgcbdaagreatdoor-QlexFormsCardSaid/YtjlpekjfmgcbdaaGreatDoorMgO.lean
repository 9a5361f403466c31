/- MgO: the texts QsA QsB QsC in one. -/
import Derived.Test.YtjlpekjfmgcbdaaGreatDoorMgN
import Derived.Test.YtjlpekjfmgcbdaaGreatDoorMgJ
import Derived.Test.YtjlpekjfmgcbdaaGreatDoorMgL
import Derived.Deep.DeepCutAuto
import Derived.Deep.CutBlock
import Derived.Deep.RegionWith
/- Contract of the reference's number. -/

set_option linter.unusedVariables false
set_option linter.unusedSimpArgs false
namespace Go
open Go.RowKit
theorem results_cell3Q {P : Program} {fn : Func} {p u v : Tmp} {ty : TypeId} (h : fn.results = #[.cell p ty, .tmp u, .tmp v]) (tmps : Array Value) (w : World) (g : Nat) (t : TypeId) (cs : Array Value) (fr : Nat × Nat) (d : TypeDesc) (x y : Value)
    (hp : tmps.getD p undef = .pointer (some ⟨g, 0, none⟩)) (hx : tmps.getD u undef = x) (hy : tmps.getD v undef = y) (hg : w.heap[g]? = some (.cells cs t fr))
    (hu : P.underlying ty = some d) (hd : (match d with | .struct _ | .array _ _ => true | _ => false) = true) (hi : (P.info? ty).map (·.size) = some cs.size) :
    (results fn tmps).run P w = .ok (.tuple #[.agg cs, x, y]) w := by
  have hp' : tmps[p]?.getD undef = .pointer (some ⟨g, 0, none⟩) := by simpa using hp
  have hx' : tmps[u]?.getD undef = x := by simpa using hx
  have hy' : tmps[v]?.getD undef = y := by simpa using hy
  have e : (results fn tmps).run P w = ((asAddr (tmps.getD p undef)).run P w).andThen fun a w₁ => ((loadVar ty a).run P w₁).andThen fun z w₂ => .ok (.tuple #[z, tmps.getD u undef, tmps.getD v undef]) w₂ := by
    simp only [results, h]
    simp [Sem.run_bind, Result.andThen]
  rw [e]
  simp [hp', hx', hy', asAddr, Result.andThen, run_loadVar_row w g t ty cs fr d hg hu hd hi]
end Go
namespace Go.Proofs.YtjlpekjfmgcbdaaGreatDoor
open Go.RowKit Go.Shelf
theorem expQ_shift (l : List UInt8) (a n : Nat) : expQ l (a + n) = a + expQ (l.drop a) n := by
  unfold expQ
  rw [List.drop_drop]
  cases l.drop (a + n) with
  | nil => rfl
  | cons c t =>
    simp only
    by_cases h : lowQ c = 101
    · rw [if_pos h, if_pos h]
      by_cases h2 : t.head? = some 43 ∨ t.head? = some 45
      · rw [if_pos h2, if_pos h2, List.drop_drop, show a + n + 2 = a + (n + 2) by omega]
        split <;> omega
      · rw [if_neg h2, if_neg h2, List.drop_drop, show a + n + 1 = a + (n + 1) by omega]
        split <;> omega
    · rw [if_neg h, if_neg h]
theorem dotQ_shift (l : List UInt8) (a n : Nat) : dotQ l (a + n) = a + dotQ (l.drop a) n := by
  have hB : dotB l (a + n) = dotB (l.drop a) n := by unfold dotB; rw [List.drop_drop]
  rw [dotQ_B, dotQ_B, hB, List.drop_drop, show a + n + 1 = a + (n + 1) by omega]
  split <;> omega
theorem rlR_shift (l : List UInt8) (a n : Nat) : rlR l (a + n) = if rlR (l.drop a) n = 0 then 0 else a + rlR (l.drop a) n := by
  unfold rlR
  rw [dotQ_shift, expQ_shift]
  by_cases h : n < expQ (l.drop a) (dotQ (l.drop a) n)
  · rw [if_pos (by omega), if_pos h, if_neg (by omega)]
  · rw [if_neg (by omega), if_neg h, if_pos rfl]
/-- what the reference makes of a word at a place -/
def LexOk (a : Nat) (x : Wq) (e : Ending) : Prop :=
  ∃ (k : Int) (t : ByteArray) (p N : Int), e = .returned (.tuple #[.agg #[.int .i64 k, .string t, .int .i64 p], .int .i64 N, .int .i64 x.err]) ∧ (x.err = 0 → k = x.kind ∧ t = bsQ x.text ∧ p = (a : Int) ∧ N = ((a + x.size : Nat) : Int))
theorem LexOk.bad {a : Nat} {x : Wq} {r : Int} (k : Int) (t : ByteArray) (p N : Int) (h : x.err = r) (h0 : r ≠ 0) : LexOk a x (.returned (.tuple #[.agg #[.int .i64 k, .string t, .int .i64 p], .int .i64 N, .int .i64 r])) :=
  ⟨k, t, p, N, by rw [h], fun e => absurd (h.symm.trans e) h0⟩
theorem LexOk.good {a : Nat} {k : Int} {t : List UInt8} {n : Nat} {r : Int} {x : Wq} (h : x = ⟨k, t, n, r⟩) : LexOk a x (.returned (.tuple #[.agg #[.int .i64 k, .string (bsQ t), .int .i64 (a : Int)], .int .i64 ((a + n : Nat) : Int), .int .i64 r])) := by
  subst h
  exact ⟨k, bsQ t, a, ((a + n : Nat) : Int), rfl, fun _ => ⟨rfl, rfl, rfl, rfl⟩⟩
/-- a lexeme's row, written -/
theorem rowL_put {W : World} {g : Nat} {t : TypeId} {x y z : Value} (h : Row W g t #[x, y, z]) (a b c : Value) : Row (((W.setCell ⟨g, 0, none⟩ a).setCell ⟨g, 1, none⟩ b).setCell ⟨g, 2, none⟩ c) g t #[a, b, c] :=
  ((h.set_ 0 a).set_ 1 b).set_ 2 c
theorem below3 {W V : World} {B g : Nat} (hb : Below B W V) (hg : B ≤ g) (a b c : Value) : Below B W (((V.setCell ⟨g, 0, none⟩ a).setCell ⟨g, 1, none⟩ b).setCell ⟨g, 2, none⟩ c) :=
  ((hb.setCell (p := ⟨g, 0, none⟩) hg a).setCell (p := ⟨g, 1, none⟩) hg b).setCell (p := ⟨g, 2, none⟩) hg c
/-- the rows of number: the result's and the lexeme's -/
structure NumW (w W : World) (t : TypeId) (z x y : Value) : Prop where
  res : Row W w.heap.size t #[.int .i64 0, .string ⟨#[]⟩, .int .i64 0]
  lex : Row W (w.heap.size + 1) t #[z, x, y]
  low : Below w.heap.size w W
theorem NumW.new (w : World) (t : TypeId) (z x y : Value) : NumW w ((w.alloc (.cells #[.int .i64 0, .string ⟨#[]⟩, .int .i64 0] t)).alloc (.cells #[z, x, y] t)) t z x y := by
  have e : (w.alloc (.cells #[.int .i64 0, .string ⟨#[]⟩, .int .i64 0] t)).heap.size = w.heap.size + 1 := by
    show (w.heap.push _).size = _
    simp
  have r := Row.new w t #[.int .i64 0, .string ⟨#[]⟩, .int .i64 0]
  refine ⟨r.below ((Below.refl _ _).alloc (Nat.le_refl _) _) r.lt, ?_, ((Below.refl _ _).alloc (Nat.le_refl _) _).alloc (by rw [e]; omega) _⟩
  rw [← e]
  exact Row.new _ _ _
theorem NumW.below {w W W' : World} {t : TypeId} {z x y : Value} (h : NumW w W t z x y) (hb : Below W.heap.size W W') : NumW w W' t z x y :=
  ⟨h.res.below hb h.res.lt, h.lex.below hb h.lex.lt, h.low.trans (hb.mono h.low.size)⟩
theorem alone_over {l : List UInt8} {K : Nat} (h : l.length ≤ K) : aloneT (l.drop K) = true := by rw [List.drop_eq_nil_of_le h]; rfl
theorem alone_in {l : List UInt8} {K : Nat} (h : K < l.length) (h1 : inQ l[K] = true) : aloneT (l.drop K) = false := by
  rw [List.drop_eq_getElem_cons h]; simp [aloneT, h1]
theorem alone_39 {l : List UInt8} {K : Nat} (h : K < l.length) (h1 : l[K] = 39) : aloneT (l.drop K) = false := by
  rw [List.drop_eq_getElem_cons h, h1]; rfl
theorem alone_yes {l : List UInt8} {K : Nat} (h : K < l.length) (h1 : inQ l[K] = false) (h2 : l[K] ≠ 39) : aloneT (l.drop K) = true := by
  rw [List.drop_eq_getElem_cons h]; simp [aloneT, h1, h2]
set_option maxRecDepth 20000 in
set_option maxHeartbeats 8000000 in
theorem refNumber_con (l : List UInt8) (a : Nat) (w : World) (hl : l.length ≤ 1000) (ha : a < l.length) (h0 : 0 < spn dgQ (l.drop a)) (h39 : (l.drop a).getD (spn dgQ (l.drop a)) 0 = 39) :
    Calls Tryz.prog 58 #[.string (bsQ l), .int .i64 (a : Int)] w fun e w' => LexOk a (numQ (l.drop a)) e ∧ Below w.heap.size w w' := by
  have hz := bsQ_size l
  have hg : ∀ (i : Nat) (h : i < (bsQ l).size) (h2 : i < l.length), (bsQ l)[i]'h = l[i] := fun i h h2 => bsQ_get l i h
  have hml : (l.drop a).length = l.length - a := List.length_drop
  have hnl := spn_le dgQ (l.drop a)
  obtain ⟨n, hn⟩ : ∃ n, spn dgQ (l.drop a) = n := ⟨_, rfl⟩
  have RD := hide (fun W : World => refDigitsQ_any l a W (by omega) (by omega))
  rw [hn] at h0 hnl RD h39
  obtain ⟨en, hen⟩ : ∃ en, a + n = en := ⟨_, rfl⟩
  rw [hen] at RD
  have ST := hide (fun W : World => refStripQ_any ((l.drop a).take n) W (by rw [List.length_take]; omega))
  have hDl := stripR_len ((l.drop a).take n)
  have x1 : (bsQ l).extract a en = bsQ ((l.drop a).take n) := by rw [bsQ_mid l a en, ← hen, Nat.add_sub_cancel_left]
  have k1 : (a : Int) ≤ (en : Int) := by omega
  have k2 : (en : Int) ≤ ((bsQ l).size : Int) := by omega
  have k3 : (0 : Int) ≤ (a : Int) := by omega
  have k4 : (0 : Int) ≤ (en : Int) := by omega
  have hnlt := getD_lt39 h39
  have hens : en < (bsQ l).size := by omega
  have hsc : (bsQ l)[en]'hens = 39 := by
    have h := h39
    rw [getD_drop8, hen, getD_at (by omega)] at h
    rw [hg en hens (by omega)]; exact h
  have k5 : (en : Int) < ((bsQ l).size : Int) := by omega
  have RC := hide (fun W : World => refConst_any l en W (by omega) (by omega))
  have hsh := conR_shift l a n
  rw [hen] at hsh
  obtain ⟨⟨K, b, ds⟩, hcon⟩ : ∃ p, conR l en = p := ⟨_, rfl⟩
  rw [hcon] at RC hsh
  replace hsh : K = if (conR (l.drop a) n).1 = 0 then 0 else a + (conR (l.drop a) n).1 := hsh
  obtain ⟨km, hkm⟩ : ∃ km, (conR (l.drop a) n).1 = km := ⟨_, rfl⟩
  rw [hkm] at hsh
  have HX := hide (fun (K km : Nat) (h : a + km = K) => show (bsQ l).extract a K = bsQ ((l.drop a).take km) by rw [bsQ_mid l a K, ← h, Nat.add_sub_cancel_left])
  replace RC := hide (fun W : World => show Calls Tryz.prog 41 #[.string (bsQ l), .int .i64 (en : Int)] W fun e w' => e = .returned (.tuple #[.int .i64 (K : Int), .int .u8 (b.toNat : Int), .string (bsQ ds)]) ∧ Below W.heap.size W w' from RC.out W)
  have IN := hide refInsideQ_any
  have hKle : K ≤ l.length + 1 := by
    have h := conR_as l en
    rw [hcon] at h
    have h2 := cR_take (lowR (l.getD (en + 1) 0)) (l.drop (en + 2))
    rw [List.length_drop] at h2
    have h : K = _ := h
    rw [h]
    split
    · rename_i h3
      have := h3.2
      omega
    · omega
  have Hg := hide (fun (i : Nat) (h : i < (bsQ l).size) (h2 : i < l.length) => hg i h h2)
  generalize bsQ ds = sds at *
  generalize bsQ ((l.drop a).take n) = sx at *
  generalize stripR ((l.drop a).take n) = D at *
  generalize bsQ l = s at *
  clear hg hcon hDl
  generalize bsQ D = sD at *
  go_enter Tryz.func58, Tryz.ntmps58
  go_wp2_with fail
  refine (RD.out _).mono ?_
  rintro e w1 ⟨rfl, rfl⟩
  go_wp2_with fail
  refine (ST.out _).mono ?_
  rintro e w2 ⟨rfl, rfl⟩
  go_upto_region 3 with fail
  obtain ⟨W1, hW1⟩ : ∃ W1, (w.alloc (.cells #[.int .i64 0, .string ⟨#[]⟩, .int .i64 0] 33)).alloc (.cells #[.int .i64 1, .string sD, .int .i64 (a : Int)] 33) = W1 := ⟨_, rfl⟩
  rw [hW1]
  have N1 := hide (show NumW w W1 33 (.int .i64 1) (.string sD) (.int .i64 (a : Int)) by rw [← hW1]; exact NumW.new _ _ _ _ _)
  clear hW1
  go_wp2_with fail
  refine (RC.out _).mono ?_
  rintro e w3 ⟨rfl, hb⟩
  have N2 := hide (N1.out.below hb)
  clear hb
  by_cases hk0 : km = 0
  · have hK : K = 0 := by rw [hsh, if_pos hk0]
    subst hK
    have HV := hide (numQ_bad hn (by omega) h39 (by rw [hkm, hk0]; exact fun h => absurd h.1 (by omega)))
    clear hsh h39 hkm
    have c0 := N2.out.res.cell 0
    have c1 := N2.out.res.cell 1
    have c2 := N2.out.res.cell 2
    have f0 := N2.out.res.frozen 0
    have f1 := N2.out.res.frozen 1
    have f2 := N2.out.res.frozen 2
    have d0 := N2.out.lex.cell 0
    have d1 := N2.out.lex.cell 1
    have d2 := N2.out.lex.cell 2
    go_wp2
    refine bodyPost_ret (v := .tuple #[.agg #[.int .i64 1, .string sD, .int .i64 (a : Int)], .int .i64 0, .int .i64 3]) (results_cell3Q rfl _ _ w.heap.size 33 _ _ _ _ _ rfl rfl rfl (rowL_put N2.out.res _ _ _) Tryz.underlying33 rfl (by kernel_rfl)) rfl ?_
    exact ⟨LexOk.bad _ _ _ _ HV.out (by decide), below3 N2.out.low (Nat.le_refl _) _ _ _⟩
  have hKm : a + km = K := by rw [hsh, if_neg hk0]
  have hk0 : 0 < km := by omega
  have e0 : ((K : Int) == 0) = false := beq_eq_false_iff_ne.2 (by omega)
  have hal0 : aloneQ (l.drop a) km = aloneT (l.drop K) := by rw [aloneQ_T, List.drop_drop, hKm]
  clear hsh
  by_cases hKl : K < l.length
  · have k6 : (K : Int) < (s.size : Int) := by omega
    have k7 : (0 : Int) ≤ (K : Int) := by omega
    have k8 : (a : Int) ≤ (K : Int) := by omega
    have k9 : (K : Int) ≤ (s.size : Int) := by omega
    have hKs : K < s.size := by omega
    obtain ⟨c, hc⟩ : ∃ c, l[K]'hKl = c := ⟨_, rfl⟩
    have hsk : s[K]'hKs = c := by rw [Hg.out K hKs hKl, hc]
    have IN := hide (IN.out c)
    cases hin : inQ c with
    | true =>
      rw [hin] at IN
      have HV := hide (numQ_bad hn (by omega) h39 (by rw [hkm, hal0, alone_in hKl (by rw [hc]; exact hin)]; exact fun h => absurd h.2 (by decide)))
      clear h39 hkm hal0 hc hin
      go_wp2_with fail
      refine (IN.out _).mono ?_
      rintro e w5 ⟨rfl, rfl⟩
      have c0 := N2.out.res.cell 0
      have c1 := N2.out.res.cell 1
      have c2 := N2.out.res.cell 2
      have f0 := N2.out.res.frozen 0
      have f1 := N2.out.res.frozen 1
      have f2 := N2.out.res.frozen 2
      have d0 := N2.out.lex.cell 0
      have d1 := N2.out.lex.cell 1
      have d2 := N2.out.lex.cell 2
      go_wp2
      refine bodyPost_ret (v := .tuple #[.agg #[.int .i64 1, .string sD, .int .i64 (a : Int)], .int .i64 0, .int .i64 3]) (results_cell3Q rfl _ _ w.heap.size 33 _ _ _ _ _ rfl rfl rfl (rowL_put N2.out.res _ _ _) Tryz.underlying33 rfl (by kernel_rfl)) rfl ?_
      exact ⟨LexOk.bad _ _ _ _ HV.out (by decide), below3 N2.out.low (Nat.le_refl _) _ _ _⟩
    | false =>
      rw [hin] at IN
      by_cases hc39 : c = 39
      · subst hc39
        have HV := hide (numQ_bad hn (by omega) h39 (by rw [hkm, hal0, alone_39 hKl hc]; exact fun h => absurd h.2 (by decide)))
        clear h39 hkm hal0 hc hin
        go_wp2_with fail
        refine (IN.out _).mono ?_
        rintro e w5 ⟨rfl, rfl⟩
        have c0 := N2.out.res.cell 0
        have c1 := N2.out.res.cell 1
        have c2 := N2.out.res.cell 2
        have f0 := N2.out.res.frozen 0
        have f1 := N2.out.res.frozen 1
        have f2 := N2.out.res.frozen 2
        have d0 := N2.out.lex.cell 0
        have d1 := N2.out.lex.cell 1
        have d2 := N2.out.lex.cell 2
        go_wp2
        refine bodyPost_ret (v := .tuple #[.agg #[.int .i64 1, .string sD, .int .i64 (a : Int)], .int .i64 0, .int .i64 3]) (results_cell3Q rfl _ _ w.heap.size 33 _ _ _ _ _ rfl rfl rfl (rowL_put N2.out.res _ _ _) Tryz.underlying33 rfl (by kernel_rfl)) rfl ?_
        exact ⟨LexOk.bad _ _ _ _ HV.out (by decide), below3 N2.out.low (Nat.le_refl _) _ _ _⟩
      have e39 : ((c.toNat : Int) == 39) = false := toNat_neQ (d := 39) hc39
      have hal : aloneQ (l.drop a) km = true := by rw [hal0]; exact alone_yes hKl (by rw [hc]; exact hin) (by rw [hc]; exact hc39)
      clear hal0 hc hin hc39
      have RB := hide (fun W : World => refBitsQ_any ((l.drop a).take km) W (by rw [List.length_take]; omega))
      have HV := hide (numQ_bits hn (by omega) h39 (by rw [hkm]; exact ⟨hk0, hal⟩))
      rw [hkm] at HV
      obtain ⟨⟨t, er⟩, hp⟩ : ∃ p, bitsQ ((l.drop a).take km) = p := ⟨_, rfl⟩
      rw [hp] at RB HV
      have HV := hide (show numQ (l.drop a) = ⟨3, t, km, er⟩ from HV.out)
      have x2 : s.extract a K = bsQ ((l.drop a).take km) := HX.out K km hKm
      have RB := hide (fun W : World => show Calls Tryz.prog 14 #[.string (bsQ ((l.drop a).take km))] W fun e w' => e = .returned (.tuple #[.string (bsQ t), .int .i64 er]) ∧ Below W.heap.size W w' from RB.out W)
      have hKI : (K : Int) = ((a + km : Nat) : Int) := by rw [← hKm]
      have HKI := hide hKI
      generalize bsQ ((l.drop a).take km) = sk at *
      clear hKI hp hal hkm
      go_wp2_with fail
      refine (IN.out _).mono ?_
      rintro e w5 ⟨rfl, rfl⟩
      go_wp2_with fail
      refine (RB.out _).mono ?_
      rintro e w4 ⟨rfl, hb⟩
      have N3 := hide (N2.out.below hb)
      clear hb
      have c0 := N3.out.res.cell 0
      have c1 := N3.out.res.cell 1
      have c2 := N3.out.res.cell 2
      have f0 := N3.out.res.frozen 0
      have f1 := N3.out.res.frozen 1
      have f2 := N3.out.res.frozen 2
      have d0 := N3.out.lex.cell 0
      have d1 := N3.out.lex.cell 1
      have d2 := N3.out.lex.cell 2
      go_wp2
      refine bodyPost_ret (v := .tuple #[.agg #[.int .i64 3, .string (bsQ t), .int .i64 (a : Int)], .int .i64 (K : Int), .int .i64 er]) (results_cell3Q rfl _ _ w.heap.size 33 _ _ _ _ _ rfl rfl rfl (rowL_put N3.out.res _ _ _) Tryz.underlying33 rfl (by kernel_rfl)) rfl ?_
      exact ⟨by rw [HKI.out]; exact LexOk.good HV.out, below3 N3.out.low (Nat.le_refl _) _ _ _⟩
  · have k6 : ¬ (K : Int) < (s.size : Int) := by omega
    have k8 : (a : Int) ≤ (K : Int) := by omega
    have hKe : K = l.length ∨ K = l.length + 1 := by omega
    have hal : aloneQ (l.drop a) km = true := by rw [hal0]; exact alone_over (by omega)
    have k9 : (K : Int) ≤ (s.size : Int) := by
      have hbo := (con_both hn (by omega) h39).1 (by rw [hkm]; exact ⟨hk0, hal⟩)
      have := constQ_le (l.drop a) n
      rw [hkm] at hbo
      omega
    clear hal0
    have RB := hide (fun W : World => refBitsQ_any ((l.drop a).take km) W (by rw [List.length_take]; omega))
    have HV := hide (numQ_bits hn (by omega) h39 (by rw [hkm]; exact ⟨hk0, hal⟩))
    rw [hkm] at HV
    obtain ⟨⟨t, er⟩, hp⟩ : ∃ p, bitsQ ((l.drop a).take km) = p := ⟨_, rfl⟩
    rw [hp] at RB HV
    have HV := hide (show numQ (l.drop a) = ⟨3, t, km, er⟩ from HV.out)
    have x2 : s.extract a K = bsQ ((l.drop a).take km) := HX.out K km hKm
    have RB := hide (fun W : World => show Calls Tryz.prog 14 #[.string (bsQ ((l.drop a).take km))] W fun e w' => e = .returned (.tuple #[.string (bsQ t), .int .i64 er]) ∧ Below W.heap.size W w' from RB.out W)
    have hKI : (K : Int) = ((a + km : Nat) : Int) := by rw [← hKm]
    have HKI := hide hKI
    generalize bsQ ((l.drop a).take km) = sk at *
    clear hKI hp hal hkm
    go_wp2_with fail
    refine (RB.out _).mono ?_
    rintro e w4 ⟨rfl, hb⟩
    have N3 := hide (N2.out.below hb)
    clear hb
    have c0 := N3.out.res.cell 0
    have c1 := N3.out.res.cell 1
    have c2 := N3.out.res.cell 2
    have f0 := N3.out.res.frozen 0
    have f1 := N3.out.res.frozen 1
    have f2 := N3.out.res.frozen 2
    have d0 := N3.out.lex.cell 0
    have d1 := N3.out.lex.cell 1
    have d2 := N3.out.lex.cell 2
    go_wp2
    refine bodyPost_ret (v := .tuple #[.agg #[.int .i64 3, .string (bsQ t), .int .i64 (a : Int)], .int .i64 (K : Int), .int .i64 er]) (results_cell3Q rfl _ _ w.heap.size 33 _ _ _ _ _ rfl rfl rfl (rowL_put N3.out.res _ _ _) Tryz.underlying33 rfl (by kernel_rfl)) rfl ?_
    exact ⟨by rw [HKI.out]; exact LexOk.good HV.out, below3 N3.out.low (Nat.le_refl _) _ _ _⟩
end Go.Proofs.YtjlpekjfmgcbdaaGreatDoor

/- Contract of the reference's number: reals. -/
set_option linter.unusedVariables false
set_option linter.unusedSimpArgs false
namespace Go.Proofs.YtjlpekjfmgcbdaaGreatDoor
open Go.RowKit Go.Shelf
theorem rlR_lt {l : List UInt8} {n : Nat} (h : rlR l n ≠ 0) : n < l.length := by
  apply Classical.byContradiction
  intro h2
  apply h
  unfold rlR
  rw [dotQ_end (by omega), expQ_nil (by omega), if_neg (by omega)]
theorem rlR_e {l : List UInt8} {n K : Nat} (h : rlR l n = K) (h0 : K ≠ 0) : expQ l (dotQ l n) = K ∧ n < K := by
  unfold rlR at h
  by_cases h1 : n < expQ l (dotQ l n)
  · rw [if_pos h1] at h; exact ⟨h, by omega⟩
  · rw [if_neg h1] at h; exact absurd h.symm h0
theorem bsV_realQ (t : List UInt8) : (parseV 100000 t).1 = bsQ (realQ t).1 := rfl
set_option maxRecDepth 20000 in
set_option maxHeartbeats 8000000 in
theorem refNumber_real (l : List UInt8) (a : Nat) (w : World) (hl : l.length ≤ 1000) (ha : a < l.length) (h0 : 0 < spn dgQ (l.drop a)) (h39 : (l.drop a).getD (spn dgQ (l.drop a)) 0 ≠ 39) (hrl : rlR (l.drop a) (spn dgQ (l.drop a)) ≠ 0) :
    Calls Tryz.prog 58 #[.string (bsQ l), .int .i64 (a : Int)] w fun e w' => LexOk a (numQ (l.drop a)) e ∧ Below w.heap.size w w' := by
  have hz := bsQ_size l
  have hg : ∀ (i : Nat) (h : i < (bsQ l).size) (h2 : i < l.length), (bsQ l)[i]'h = l[i] := fun i h h2 => bsQ_get l i h
  have hml : (l.drop a).length = l.length - a := List.length_drop
  have hnl := spn_le dgQ (l.drop a)
  obtain ⟨n, hn⟩ : ∃ n, spn dgQ (l.drop a) = n := ⟨_, rfl⟩
  have RD := hide (fun W : World => refDigitsQ_any l a W (by omega) (by omega))
  rw [hn] at h0 hnl RD h39 hrl
  obtain ⟨en, hen⟩ : ∃ en, a + n = en := ⟨_, rfl⟩
  rw [hen] at RD
  have ST := hide (fun W : World => refStripQ_any ((l.drop a).take n) W (by rw [List.length_take]; omega))
  have hDl := stripR_len ((l.drop a).take n)
  have x1 : (bsQ l).extract a en = bsQ ((l.drop a).take n) := by rw [bsQ_mid l a en, ← hen, Nat.add_sub_cancel_left]
  have k1 : (a : Int) ≤ (en : Int) := by omega
  have k2 : (en : Int) ≤ ((bsQ l).size : Int) := by omega
  have k3 : (0 : Int) ≤ (a : Int) := by omega
  have k4 : (0 : Int) ≤ (en : Int) := by omega
  have hnlt := rlR_lt hrl
  have hens : en < (bsQ l).size := by omega
  obtain ⟨c1, hc1⟩ : ∃ c, l[en]'(by omega) = c := ⟨_, rfl⟩
  have hc39 : c1 ≠ 39 := by
    rw [← hc1]
    have h := h39
    rw [getD_drop8, hen, getD_at (by omega)] at h
    exact h
  have hsc : (bsQ l)[en]'hens = c1 := by
    rw [hg en hens (by omega)]; exact hc1
  have e39 : ((c1.toNat : Int) == 39) = false := toNat_neQ (d := 39) hc39
  have k5 : (en : Int) < ((bsQ l).size : Int) := by omega
  have RL := hide (fun W : World => refReal_any l en W (by omega) (by omega))
  have hsh := rlR_shift l a n
  rw [hen] at hsh
  obtain ⟨K, hKd⟩ : ∃ K, rlR l en = K := ⟨_, rfl⟩
  rw [hKd] at RL hsh
  obtain ⟨km, hkm⟩ : ∃ km, rlR (l.drop a) n = km := ⟨_, rfl⟩
  rw [hkm] at hsh hrl
  rw [if_neg hrl] at hsh
  obtain ⟨hke, hnk⟩ := rlR_e hkm hrl
  have hnum := numQ_real hn h39 hke hnk
  have hkl : km ≤ (l.drop a).length := by
    rw [← hke]
    exact (expQ_le (dotQ_le hnl).2).2
  have hKm : a + km = K := hsh.symm
  have HX := hide (fun (K km : Nat) (h : a + km = K) => show (bsQ l).extract a K = bsQ ((l.drop a).take km) by rw [bsQ_mid l a K, ← h, Nat.add_sub_cancel_left])
  have IN := hide refInsideQ_any
  have hal0 : aloneQ (l.drop a) km = aloneT (l.drop K) := by rw [aloneQ_T, List.drop_drop, hKm]
  have Hg := hide (fun (i : Nat) (h : i < (bsQ l).size) (h2 : i < l.length) => hg i h h2)
  generalize bsQ ((l.drop a).take n) = sx at *
  generalize stripR ((l.drop a).take n) = D at *
  clear hc1
  generalize bsQ l = s at *
  clear hg hDl hsh hKd hkm hke h39 hc39
  generalize bsQ D = sD at *
  go_enter Tryz.func58, Tryz.ntmps58
  go_wp2_with fail
  refine (RD.out _).mono ?_
  rintro e w1 ⟨rfl, rfl⟩
  go_wp2_with fail
  refine (ST.out _).mono ?_
  rintro e w2 ⟨rfl, rfl⟩
  go_upto_region 3 with fail
  obtain ⟨W1, hW1⟩ : ∃ W1, (w.alloc (.cells #[.int .i64 0, .string ⟨#[]⟩, .int .i64 0] 33)).alloc (.cells #[.int .i64 1, .string sD, .int .i64 (a : Int)] 33) = W1 := ⟨_, rfl⟩
  rw [hW1]
  have N1 := hide (show NumW w W1 33 (.int .i64 1) (.string sD) (.int .i64 (a : Int)) by rw [← hW1]; exact NumW.new _ _ _ _ _)
  clear hW1
  have k6 : (0 : Int) < (K : Int) := by omega
  have k8 : (a : Int) ≤ (K : Int) := by omega
  have k9 : (K : Int) ≤ (s.size : Int) := by omega
  by_cases hKl : K < l.length
  · have k10 : (K : Int) < (s.size : Int) := by omega
    have k7 : (0 : Int) ≤ (K : Int) := by omega
    have hKs : K < s.size := by omega
    obtain ⟨c, hc⟩ : ∃ c, l[K]'hKl = c := ⟨_, rfl⟩
    have hsk : s[K]'hKs = c := by rw [Hg.out K hKs hKl, hc]
    have IN := hide (IN.out c)
    cases hin : inQ c with
    | true =>
      rw [hin] at IN
      have HV := hide (show (numQ (l.drop a)).err = 3 by rw [hnum, hal0, alone_in hKl (by rw [hc]; exact hin)]; rfl)
      clear hnum hal0 hc hin
      go_wp2_with fail
      refine (RL.out _).mono ?_
      rintro e w3 ⟨rfl, rfl⟩
      go_wp2_with fail
      refine (IN.out _).mono ?_
      rintro e w5 ⟨rfl, rfl⟩
      have c0 := N1.out.res.cell 0
      have c1 := N1.out.res.cell 1
      have c2 := N1.out.res.cell 2
      have f0 := N1.out.res.frozen 0
      have f1 := N1.out.res.frozen 1
      have f2 := N1.out.res.frozen 2
      have d0 := N1.out.lex.cell 0
      have d1 := N1.out.lex.cell 1
      have d2 := N1.out.lex.cell 2
      go_wp2
      refine bodyPost_ret (v := .tuple #[.agg #[.int .i64 1, .string sD, .int .i64 (a : Int)], .int .i64 0, .int .i64 3]) (results_cell3Q rfl _ _ w.heap.size 33 _ _ _ _ _ rfl rfl rfl (rowL_put N1.out.res _ _ _) Tryz.underlying33 rfl (by kernel_rfl)) rfl ?_
      exact ⟨LexOk.bad _ _ _ _ HV.out (by decide), below3 N1.out.low (Nat.le_refl _) _ _ _⟩
    | false =>
      rw [hin] at IN
      by_cases hc39 : c = 39
      · subst hc39
        have HV := hide (show (numQ (l.drop a)).err = 3 by rw [hnum, hal0, alone_39 hKl hc]; rfl)
        clear hnum hal0 hc hin
        go_wp2_with fail
        refine (RL.out _).mono ?_
        rintro e w3 ⟨rfl, rfl⟩
        go_wp2_with fail
        refine (IN.out _).mono ?_
        rintro e w5 ⟨rfl, rfl⟩
        have c0 := N1.out.res.cell 0
        have c1 := N1.out.res.cell 1
        have c2 := N1.out.res.cell 2
        have f0 := N1.out.res.frozen 0
        have f1 := N1.out.res.frozen 1
        have f2 := N1.out.res.frozen 2
        have d0 := N1.out.lex.cell 0
        have d1 := N1.out.lex.cell 1
        have d2 := N1.out.lex.cell 2
        go_wp2
        refine bodyPost_ret (v := .tuple #[.agg #[.int .i64 1, .string sD, .int .i64 (a : Int)], .int .i64 0, .int .i64 3]) (results_cell3Q rfl _ _ w.heap.size 33 _ _ _ _ _ rfl rfl rfl (rowL_put N1.out.res _ _ _) Tryz.underlying33 rfl (by kernel_rfl)) rfl ?_
        exact ⟨LexOk.bad _ _ _ _ HV.out (by decide), below3 N1.out.low (Nat.le_refl _) _ _ _⟩
      have e39b : ((c.toNat : Int) == 39) = false := toNat_neQ (d := 39) hc39
      have hal : aloneQ (l.drop a) km = true := by rw [hal0]; exact alone_yes hKl (by rw [hc]; exact hin) (by rw [hc]; exact hc39)
      clear hal0 hc hin hc39
      have RB := hide (fun W : World => refParse3_any ((l.drop a).take km) W (by rw [List.length_take]; omega))
      have HV := hide (show numQ (l.drop a) = ⟨4, (realQ ((l.drop a).take km)).1, km, (realQ ((l.drop a).take km)).2⟩ by rw [hnum, if_pos hal])
      obtain ⟨⟨t, er⟩, hp⟩ : ∃ p, realQ ((l.drop a).take km) = p := ⟨_, rfl⟩
      rw [hp] at HV
      have HV := hide (show numQ (l.drop a) = ⟨4, t, km, er⟩ from HV.out)
      have x2 : s.extract a K = bsQ ((l.drop a).take km) := HX.out K km hKm
      have RB := hide (fun W : World => show Calls Tryz.prog 89 #[.string (bsQ ((l.drop a).take km))] W fun e w' => e = .returned (.tuple #[.string (bsQ t), .int .i64 er]) ∧ Below W.heap.size W w' by
        have h := RB.out W
        have e1 : (parseV 100000 ((l.drop a).take km)).1 = bsQ t := by rw [bsV_realQ, hp]
        have e2 : (parseV 100000 ((l.drop a).take km)).2 = er := congrArg Prod.snd hp
        rw [e1, e2] at h
        exact h)
      have hKI : (K : Int) = ((a + km : Nat) : Int) := by rw [← hKm]
      have HKI := hide hKI
      generalize bsQ ((l.drop a).take km) = sk at *
      clear hKI hp hal hnum
      go_wp2_with fail
      refine (RL.out _).mono ?_
      rintro e w3 ⟨rfl, rfl⟩
      go_wp2_with fail
      refine (IN.out _).mono ?_
      rintro e w5 ⟨rfl, rfl⟩
      go_wp2_with fail
      refine (RB.out _).mono ?_
      rintro e w4 ⟨rfl, hb⟩
      have N3 := hide (N1.out.below hb)
      clear hb
      have c0 := N3.out.res.cell 0
      have c1 := N3.out.res.cell 1
      have c2 := N3.out.res.cell 2
      have f0 := N3.out.res.frozen 0
      have f1 := N3.out.res.frozen 1
      have f2 := N3.out.res.frozen 2
      have d0 := N3.out.lex.cell 0
      have d1 := N3.out.lex.cell 1
      have d2 := N3.out.lex.cell 2
      go_wp2
      refine bodyPost_ret (v := .tuple #[.agg #[.int .i64 4, .string (bsQ t), .int .i64 (a : Int)], .int .i64 (K : Int), .int .i64 er]) (results_cell3Q rfl _ _ w.heap.size 33 _ _ _ _ _ rfl rfl rfl (rowL_put N3.out.res _ _ _) Tryz.underlying33 rfl (by kernel_rfl)) rfl ?_
      exact ⟨by rw [HKI.out]; exact LexOk.good HV.out, below3 N3.out.low (Nat.le_refl _) _ _ _⟩
  · have k10 : ¬ (K : Int) < (s.size : Int) := by omega
    have hal : aloneQ (l.drop a) km = true := by rw [hal0]; exact alone_over (by omega)
    clear hal0
    have RB := hide (fun W : World => refParse3_any ((l.drop a).take km) W (by rw [List.length_take]; omega))
    have HV := hide (show numQ (l.drop a) = ⟨4, (realQ ((l.drop a).take km)).1, km, (realQ ((l.drop a).take km)).2⟩ by rw [hnum, if_pos hal])
    obtain ⟨⟨t, er⟩, hp⟩ : ∃ p, realQ ((l.drop a).take km) = p := ⟨_, rfl⟩
    rw [hp] at HV
    have HV := hide (show numQ (l.drop a) = ⟨4, t, km, er⟩ from HV.out)
    have x2 : s.extract a K = bsQ ((l.drop a).take km) := HX.out K km hKm
    have RB := hide (fun W : World => show Calls Tryz.prog 89 #[.string (bsQ ((l.drop a).take km))] W fun e w' => e = .returned (.tuple #[.string (bsQ t), .int .i64 er]) ∧ Below W.heap.size W w' by
      have h := RB.out W
      have e1 : (parseV 100000 ((l.drop a).take km)).1 = bsQ t := by rw [bsV_realQ, hp]
      have e2 : (parseV 100000 ((l.drop a).take km)).2 = er := congrArg Prod.snd hp
      rw [e1, e2] at h
      exact h)
    have hKI : (K : Int) = ((a + km : Nat) : Int) := by rw [← hKm]
    have HKI := hide hKI
    generalize bsQ ((l.drop a).take km) = sk at *
    clear hKI hp hal hnum
    go_wp2_with fail
    refine (RL.out _).mono ?_
    rintro e w3 ⟨rfl, rfl⟩
    go_wp2_with fail
    refine (RB.out _).mono ?_
    rintro e w4 ⟨rfl, hb⟩
    have N3 := hide (N1.out.below hb)
    clear hb
    have c0 := N3.out.res.cell 0
    have c1 := N3.out.res.cell 1
    have c2 := N3.out.res.cell 2
    have f0 := N3.out.res.frozen 0
    have f1 := N3.out.res.frozen 1
    have f2 := N3.out.res.frozen 2
    have d0 := N3.out.lex.cell 0
    have d1 := N3.out.lex.cell 1
    have d2 := N3.out.lex.cell 2
    go_wp2
    refine bodyPost_ret (v := .tuple #[.agg #[.int .i64 4, .string (bsQ t), .int .i64 (a : Int)], .int .i64 (K : Int), .int .i64 er]) (results_cell3Q rfl _ _ w.heap.size 33 _ _ _ _ _ rfl rfl rfl (rowL_put N3.out.res _ _ _) Tryz.underlying33 rfl (by kernel_rfl)) rfl ?_
    exact ⟨by rw [HKI.out]; exact LexOk.good HV.out, below3 N3.out.low (Nat.le_refl _) _ _ _⟩
end Go.Proofs.YtjlpekjfmgcbdaaGreatDoor

/- Contract of the reference's number: plain numbers and times. -/
set_option linter.unusedVariables false
set_option linter.unusedSimpArgs false
namespace Go.Proofs.YtjlpekjfmgcbdaaGreatDoor
open Go.RowKit Go.Shelf
theorem rlR_zero {l : List UInt8} {n : Nat} (h : rlR l n = 0) : ¬ n < expQ l (dotQ l n) := by
  intro h2
  unfold rlR at h
  rw [if_pos h2] at h
  omega
theorem NumW.drew {w W : World} {t : TypeId} {z x y : Value} (h : NumW w W t z x y) : NumW w W.drew t z x y := ⟨h.res.drew, h.lex.drew, h.low.drew⟩
theorem NumW.unit {w W : World} {t : TypeId} {z x y : Value} (h : NumW w W t z x y) (z' x' : Value) : NumW w ((W.setCell ⟨w.heap.size + 1, 0, none⟩ z').setCell ⟨w.heap.size + 1, 1, none⟩ x') t z' x' y :=
  ⟨(h.res.off (by omega) _ _).off (by omega) _ _, (h.lex.set_ 0 z').set_ 1 x', (h.low.setCell (p := ⟨w.heap.size + 1, 0, none⟩) (by show w.heap.size ≤ w.heap.size + 1; omega) _).setCell (p := ⟨w.heap.size + 1, 1, none⟩) (by show w.heap.size ≤ w.heap.size + 1; omega) _⟩
set_option maxRecDepth 20000 in
set_option maxHeartbeats 8000000 in
theorem refNumber_rest (l : List UInt8) (a : Nat) (w : World) (hl : l.length ≤ 1000) (ha : a < l.length) (h0 : 0 < spn dgQ (l.drop a)) (h39 : (l.drop a).getD (spn dgQ (l.drop a)) 0 ≠ 39) (hrl : rlR (l.drop a) (spn dgQ (l.drop a)) = 0) :
    Calls Tryz.prog 58 #[.string (bsQ l), .int .i64 (a : Int)] w fun e w' => LexOk a (numQ (l.drop a)) e ∧ Below w.heap.size w w' := by
  have hz := bsQ_size l
  have hg : ∀ (i : Nat) (h : i < (bsQ l).size) (h2 : i < l.length), (bsQ l)[i]'h = l[i] := fun i h h2 => bsQ_get l i h
  have hml : (l.drop a).length = l.length - a := List.length_drop
  have hnl := spn_le dgQ (l.drop a)
  obtain ⟨n, hn⟩ : ∃ n, spn dgQ (l.drop a) = n := ⟨_, rfl⟩
  have RD := hide (fun W : World => refDigitsQ_any l a W (by omega) (by omega))
  rw [hn] at h0 hnl RD h39 hrl
  obtain ⟨en, hen⟩ : ∃ en, a + n = en := ⟨_, rfl⟩
  rw [hen] at RD
  have ST := hide (fun W : World => refStripQ_any ((l.drop a).take n) W (by rw [List.length_take]; omega))
  have hDl := stripR_len ((l.drop a).take n)
  have x1 : (bsQ l).extract a en = bsQ ((l.drop a).take n) := by rw [bsQ_mid l a en, ← hen, Nat.add_sub_cancel_left]
  have k1 : (a : Int) ≤ (en : Int) := by omega
  have k2 : (en : Int) ≤ ((bsQ l).size : Int) := by omega
  have k3 : (0 : Int) ≤ (a : Int) := by omega
  have k4 : (0 : Int) ≤ (en : Int) := by omega
  have hnum := numQ_rest hn (by omega) h39 rfl (rlR_zero hrl)
  have RL := hide (fun W : World => refReal_any l en W (by omega) (by omega))
  have hsh := rlR_shift l a n
  rw [hen, hrl, if_pos rfl] at hsh
  rw [hsh] at RL
  have RL := hide (fun W : World => show Calls Tryz.prog 88 #[.string (bsQ l), .int .i64 (en : Int)] W fun e w' => e = .returned (.int .i64 0) ∧ w' = W from RL.out W)
  have hdd : (l.drop a).drop n = l.drop en := by rw [List.drop_drop, hen]
  rw [hdd] at hnum
  have IN := hide refInsideQ_any
  have UN := hide refUnits_any
  obtain ⟨r, hrd⟩ : ∃ r, spn tlQ (l.drop en) = r := ⟨_, rfl⟩
  have hrle := spn_le tlQ (l.drop en)
  rw [List.length_drop, hrd] at hrle
  rw [hrd] at hnum
  obtain ⟨K, hK⟩ : ∃ K, en + r = K := ⟨_, rfl⟩
  have HK := hide (show en + spn tlQ (l.drop en) = K by rw [hrd]; exact hK)
  have HX := hide (show (bsQ l).extract en K = bsQ ((l.drop en).take r) by rw [bsQ_mid l en K, ← hK, Nat.add_sub_cancel_left])
  have hXl : ((l.drop en).take r).length ≤ 1000 := by rw [List.length_take, List.length_drop]; omega
  have HX0 := hide (fun h : r = 0 => show (l.drop en).take r = [] by rw [h]; rfl)
  generalize (l.drop en).take r = X at *
  have HS := hide (fun (A : Option Addr) (W : World) (h : Sl strQ W A unitsS) => show Calls Tryz.prog 26 #[.slice A 6 6, .string (bsQ X)] W fun e w' => e = .returned (.bool (decide (X ∈ unitsS))) ∧ w' = W from refHas_any A 6 unitsS X W h (by show 6 ≤ 1000000; omega))
  obtain ⟨b, hb⟩ : ∃ b, decide (X ∈ unitsS) = b := ⟨_, rfl⟩
  rw [hb] at HS
  have HB := hide hb
  have hDl2 : (stripR ((l.drop a).take n)).length ≤ 1000 := by rw [List.length_take] at hDl; omega
  generalize bsQ ((l.drop a).take n) = sx at *
  generalize stripR ((l.drop a).take n) = D at *
  have HzD := hide (bsQ_size D)
  have HlD := hide (And.intro hDl2 hXl)
  have HN := hide hnum
  have Hc39 := hide (fun (h : en < l.length) => show l[en] ≠ 39 by
    have h2 := h39
    rw [getD_drop8, hen, getD_at h] at h2
    exact h2)
  have Hz := hide hz
  have Hg := hide (fun (i : Nat) (h : i < (bsQ l).size) (h2 : i < l.length) => hg i h h2)
  generalize bsQ l = s at *
  obtain ⟨sD, hsD⟩ : ∃ sD, bsQ D = sD := ⟨_, rfl⟩
  have HsD := hide hsD
  rw [hsD] at ST HzD
  clear hg hz hDl hsh hnum h39 hrl hdd hrd hb hDl2 hXl hsD
  go_enter Tryz.func58, Tryz.ntmps58
  go_wp2_with fail
  refine (RD.out _).mono ?_
  rintro e w1 ⟨rfl, rfl⟩
  go_wp2_with fail
  refine (ST.out _).mono ?_
  rintro e w2 ⟨rfl, rfl⟩
  go_upto_region 3 with fail
  obtain ⟨W1, hW1⟩ : ∃ W1, (w.alloc (.cells #[.int .i64 0, .string ⟨#[]⟩, .int .i64 0] 33)).alloc (.cells #[.int .i64 1, .string sD, .int .i64 (a : Int)] 33) = W1 := ⟨_, rfl⟩
  rw [hW1]
  have N1 := hide (show NumW w W1 33 (.int .i64 1) (.string sD) (.int .i64 (a : Int)) by rw [← hW1]; exact NumW.new _ _ _ _ _)
  clear hW1
  go_cut [37] (fun v wx => v = .bool false ∧ wx = W1)
  case first =>
    by_cases hel : en < l.length
    · have hens : en < s.size := by have := Hz.out; omega
      have k5 : (en : Int) < (s.size : Int) := by omega
      obtain ⟨c1, hc1⟩ : ∃ c, l[en]'hel = c := ⟨_, rfl⟩
      have hc39 : c1 ≠ 39 := by rw [← hc1]; exact Hc39.out hel
      have hsc : s[en]'hens = c1 := by rw [Hg.out en hens hel, hc1]
      have e39 : ((c1.toNat : Int) == 39) = false := toNat_neQ (d := 39) hc39
      clear hc1 hc39
      go_wp2_with fail
      go_meet
      exact ⟨rfl, rfl⟩
    · have k5 : ¬ (en : Int) < (s.size : Int) := by have := Hz.out; omega
      go_wp2_with fail
      go_meet
      exact ⟨rfl, rfl⟩
  case rest =>
  obtain ⟨rfl, rfl⟩ := hcut
  go_wp2_with fail
  refine (RL.out _).mono ?_
  rintro e w3 ⟨rfl, rfl⟩
  go_upto_block 0 with fail
  go_cut [17] (fun v wx => v = .int .i64 (K : Int) ∧ wx = w3)
  case first =>
    go_wp2_with fail
    go_loop [17] (fun v => ∃ k : Nat, v = .int .i64 (k : Int) ∧ Hid (k + spn tlQ (l.drop k) = K) ∧ en ≤ k ∧ k ≤ K) (fun v => l.length - (intOf v).toNat)
    case atStart => exact ⟨en, rfl, HK, Nat.le_refl _, by omega⟩
    case round =>
      obtain ⟨k, rfl, HI, hek, hkK0⟩ := hrel
      by_cases hkl : k < l.length
      · have hi' : (k : Int) < (s.size : Int) := by have := Hz.out; omega
        have hi0 : (0 : Int) ≤ (k : Int) := by omega
        have his : k < s.size := by omega
        have hwi : IntKind.i64.wrap ((k : Int) + 1) = (k : Int) + 1 := IntWalk.i64_in _ (by omega)
        obtain ⟨c, hc⟩ : ∃ c, l[k]'hkl = c := ⟨_, rfl⟩
        have hsc2 : s[k]'his = c := by rw [Hg.out k his hkl, hc]
        have IN := hide (IN.out c)
        cases hin : inQ c with
        | true =>
          rw [hin] at IN
          have HI2 := hide (show (k + 1) + spn tlQ (l.drop (k + 1)) = K by rw [← HI.out, spn_step hkl (by rw [hc]; unfold tlQ; rw [hin]; rfl)])
          have hk1 : k + 1 ≤ K := by have := HI2.out; omega
          clear hc hin
          go_wp2_with fail
          refine (IN.out _).mono ?_
          rintro e w5 ⟨rfl, rfl⟩
          go_wp2
          go_round
          case rel => exact ⟨k + 1, by go_num, HI2, by omega, hk1⟩
          case measure => simp [intOf]; omega
        | false =>
          rw [hin] at IN
          by_cases hc39 : c = 39
          · subst hc39
            have HI2 := hide (show (k + 1) + spn tlQ (l.drop (k + 1)) = K by rw [← HI.out, spn_step hkl (by rw [hc]; decide)])
            have hk1 : k + 1 ≤ K := by have := HI2.out; omega
            clear hc hin
            go_wp2_with fail
            refine (IN.out _).mono ?_
            rintro e w5 ⟨rfl, rfl⟩
            go_wp2
            go_round
            case rel => exact ⟨k + 1, by go_num, HI2, by omega, hk1⟩
            case measure => simp [intOf]; omega
          have e39 : ((c.toNat : Int) == 39) = false := toNat_neQ (d := 39) hc39
          have HkK := hide (show k = K by rw [← HI.out, spn_stop hkl (by rw [hc]; unfold tlQ; rw [hin]; simpa using hc39)])
          clear hc hin hc39 HI
          go_wp2_with fail
          refine (IN.out _).mono ?_
          rintro e w5 ⟨rfl, rfl⟩
          go_wp2_with fail
          go_meet
          exact ⟨by rw [HkK.out], rfl⟩
      · have hi' : ¬ (k : Int) < (s.size : Int) := by have := Hz.out; omega
        have HkK := hide (show k = K by rw [← HI.out, spn_end (by omega)])
        clear HI
        go_wp2_with fail
        go_meet
        exact ⟨by rw [HkK.out], rfl⟩
  case rest =>
  obtain ⟨rfl, rfl⟩ := hcut
  have hr : K = en + r := by omega
  have k1k : (en : Int) ≤ (K : Int) := by omega
  have k2k : (K : Int) ≤ (s.size : Int) := by have := Hz.out; omega
  have HKI := hide (show (K : Int) = ((a + (n + r) : Nat) : Int) by omega)
  by_cases hr0 : r = 0
  · have q9 : ¬ (en : Int) < (K : Int) := by omega
    have HN := hide (show numQ (l.drop a) = _ from HN.out.trans (if_pos (.inl hr0)))
    have HXe := hide (HX0.out hr0)
    subst hr0
    clear hr
    by_cases h15 : 15 < D.length
    · have q15 : (15 : Int) < (sD.size : Int) := by have := HzD.out; omega
      have HV := hide (show (numQ (l.drop a)).err = 9 by rw [HN.out, if_pos h15]; rfl)
      clear h15
      go_wp2_with fail
      refine (ST.out _).mono ?_
      rintro e w7 ⟨rfl, rfl⟩
      have c0 := N1.out.res.cell 0
      have c1 := N1.out.res.cell 1
      have c2 := N1.out.res.cell 2
      have f0 := N1.out.res.frozen 0
      have f1 := N1.out.res.frozen 1
      have f2 := N1.out.res.frozen 2
      have d0 := N1.out.lex.cell 0
      have d1 := N1.out.lex.cell 1
      have d2 := N1.out.lex.cell 2
      go_wp2
      refine bodyPost_ret (v := .tuple #[.agg #[.int .i64 1, .string sD, .int .i64 (a : Int)], .int .i64 0, .int .i64 9]) (results_cell3Q rfl _ _ w.heap.size 33 _ _ _ _ _ rfl rfl rfl (rowL_put N1.out.res _ _ _) Tryz.underlying33 rfl (by kernel_rfl)) rfl ?_
      exact ⟨LexOk.bad _ _ _ _ HV.out (by decide), below3 N1.out.low (Nat.le_refl _) _ _ _⟩
    · have q15 : ¬ (15 : Int) < (sD.size : Int) := by have := HzD.out; omega
      have HV := hide (show numQ (l.drop a) = ⟨1, D, n + 0, 0⟩ by rw [HN.out, if_neg h15]; rw [HXe.out, List.append_nil]; simp [foundQ])
      clear h15
      go_wp2_with fail
      refine (ST.out _).mono ?_
      rintro e w7 ⟨rfl, rfl⟩
      have c0 := N1.out.res.cell 0
      have c1 := N1.out.res.cell 1
      have c2 := N1.out.res.cell 2
      have f0 := N1.out.res.frozen 0
      have f1 := N1.out.res.frozen 1
      have f2 := N1.out.res.frozen 2
      have d0 := N1.out.lex.cell 0
      have d1 := N1.out.lex.cell 1
      have d2 := N1.out.lex.cell 2
      go_wp2
      refine bodyPost_ret (v := .tuple #[.agg #[.int .i64 1, .string sD, .int .i64 (a : Int)], .int .i64 (K : Int), .int .i64 0]) (results_cell3Q rfl _ _ w.heap.size 33 _ _ _ _ _ rfl rfl rfl (rowL_put N1.out.res _ _ _) Tryz.underlying33 rfl (by kernel_rfl)) rfl ?_
      exact ⟨by rw [HKI.out, ← HsD.out]; exact LexOk.good HV.out, below3 N1.out.low (Nat.le_refl _) _ _ _⟩
  have q9 : (en : Int) < (K : Int) := by omega
  have x3 : s.extract en K = bsQ X := HX.out
  have HRr := hide hr
  have HR0 := hide hr0
  clear hr hr0
  go_wp2_with fail
  go_upto_region 19 with fail
  go_cut [142] (fun v wx => v = .bool (!b) ∧ NumW w wx 33 (.int .i64 1) (.string sD) (.int .i64 (a : Int)))
  case first =>
    obtain ⟨sX, hsX⟩ : ∃ sX, bsQ X = sX := ⟨_, rfl⟩
    rw [hsX] at x3 HS
    clear hsX
    go_wp2_with fail
    refine wp_region_any (by kernel_rfl) ?_
    change wpAny _ _ _ _ _ _ _ (World.drew _)
    refine wpAny_take (i := 1) (v := ?_) rfl (by kernel_rfl) (by kernel_rfl) (by kernel_rfl) (fun _ _ _ h => h) (Or.inl ⟨by kernel_rfl, ?_⟩) ?_
    rotate_left; · ((intro w; go_simp); (try (with_reducible rfl)))
    change wpAny _ _ _ _ _ _ (Act.mk #[_, _, _, _, _, _, _, _, _, _, _, _, _, _, _, _, _, _, _, _, _, _, _, _, _, _, _, _, _, _, _, _, _, _, _, _, _, _, _, _, _, _, _, _, _, _, _, _, _, _, _, _, _, _, _, _, _, _, _, _, _, _, _, _, _, _, _, _, _, _, _, _, _, _, _, _, _, _, _, _, _, _, _, _, _, _, _, _, _, _, _, _, _, _, _, _, _, _, _, _, _, _, _, _, _, _, _, _, _, _, _, _, _, _, _, _, _, _, _, _, _, _, _, _, _, _, _, _, _, _, _, _, _, _, _, _, _, _, _, _, _, _, _, _, _, _, _, _, _, _, _, _, _, _, _, _, _, _, _, _, _, _, _] _) _
    refine wpAny_take (i := 2) (v := ?_) rfl (by kernel_rfl) (by kernel_rfl) (by kernel_rfl) (fun _ _ _ h => h) (Or.inl ⟨by kernel_rfl, ?_⟩) ?_
    rotate_left; · ((intro w; go_simp); (try (with_reducible rfl)))
    change wpAny _ _ _ _ _ _ (Act.mk #[_, _, _, _, _, _, _, _, _, _, _, _, _, _, _, _, _, _, _, _, _, _, _, _, _, _, _, _, _, _, _, _, _, _, _, _, _, _, _, _, _, _, _, _, _, _, _, _, _, _, _, _, _, _, _, _, _, _, _, _, _, _, _, _, _, _, _, _, _, _, _, _, _, _, _, _, _, _, _, _, _, _, _, _, _, _, _, _, _, _, _, _, _, _, _, _, _, _, _, _, _, _, _, _, _, _, _, _, _, _, _, _, _, _, _, _, _, _, _, _, _, _, _, _, _, _, _, _, _, _, _, _, _, _, _, _, _, _, _, _, _, _, _, _, _, _, _, _, _, _, _, _, _, _, _, _, _, _, _, _, _, _, _] _) _
    refine wpAny_take (i := 3) (v := ?_) rfl (by kernel_rfl) (by kernel_rfl) (by kernel_rfl) (fun _ _ _ h => h) (Or.inl ⟨by kernel_rfl, ?_⟩) ?_
    rotate_left; · ((intro w; go_simp); (try (with_reducible rfl)))
    change wpAny _ _ _ _ _ _ (Act.mk #[_, _, _, _, _, _, _, _, _, _, _, _, _, _, _, _, _, _, _, _, _, _, _, _, _, _, _, _, _, _, _, _, _, _, _, _, _, _, _, _, _, _, _, _, _, _, _, _, _, _, _, _, _, _, _, _, _, _, _, _, _, _, _, _, _, _, _, _, _, _, _, _, _, _, _, _, _, _, _, _, _, _, _, _, _, _, _, _, _, _, _, _, _, _, _, _, _, _, _, _, _, _, _, _, _, _, _, _, _, _, _, _, _, _, _, _, _, _, _, _, _, _, _, _, _, _, _, _, _, _, _, _, _, _, _, _, _, _, _, _, _, _, _, _, _, _, _, _, _, _, _, _, _, _, _, _, _, _, _, _, _, _, _] _) _
    refine wpAny_take (i := 4) (v := ?_) rfl (by kernel_rfl) (by kernel_rfl) (by kernel_rfl) (fun _ _ _ h => h) (Or.inl ⟨by kernel_rfl, ?_⟩) ?_
    rotate_left; · ((intro w; go_simp); (try (with_reducible rfl)))
    change wpAny _ _ _ _ _ _ (Act.mk #[_, _, _, _, _, _, _, _, _, _, _, _, _, _, _, _, _, _, _, _, _, _, _, _, _, _, _, _, _, _, _, _, _, _, _, _, _, _, _, _, _, _, _, _, _, _, _, _, _, _, _, _, _, _, _, _, _, _, _, _, _, _, _, _, _, _, _, _, _, _, _, _, _, _, _, _, _, _, _, _, _, _, _, _, _, _, _, _, _, _, _, _, _, _, _, _, _, _, _, _, _, _, _, _, _, _, _, _, _, _, _, _, _, _, _, _, _, _, _, _, _, _, _, _, _, _, _, _, _, _, _, _, _, _, _, _, _, _, _, _, _, _, _, _, _, _, _, _, _, _, _, _, _, _, _, _, _, _, _, _, _, _, _] _) _
    refine wpAny_ready (rs := [0]) (by kernel_rfl) (by simp) ?_
    refine AllReady.cons rfl (fun K hK => ?_) AllReady.nil
    go_simp
    go_wp2_with (go_at_call 90; refine (UN.out _).mono ?_; rintro e wu ⟨rfl, hsl, hbu⟩; have HSL := hide hsl; have HBU := hide hbu; clear hsl hbu)
    first | (refine hK _ _ ?_; clear hK K) | skip
    change wpAny _ _ _ _ _ _ (Act.mk #[_, _, _, _, _, _, _, _, _, _, _, _, _, _, _, _, _, _, _, _, _, _, _, _, _, _, _, _, _, _, _, _, _, _, _, _, _, _, _, _, _, _, _, _, _, _, _, _, _, _, _, _, _, _, _, _, _, _, _, _, _, _, _, _, _, _, _, _, _, _, _, _, _, _, _, _, _, _, _, _, _, _, _, _, _, _, _, _, _, _, _, _, _, _, _, _, _, _, _, _, _, _, _, _, _, _, _, _, _, _, _, _, _, _, _, _, _, _, _, _, _, _, _, _, _, _, _, _, _, _, _, _, _, _, _, _, _, _, _, _, _, _, _, _, _, _, _, _, _, _, _, _, _, _, _, _, _, _, _, _, _, _, _] _) _
    refine wpAny_ready (rs := [5]) (by kernel_rfl) (by simp) ?_
    refine AllReady.cons rfl (fun K hK => ?_) AllReady.nil
    go_simp
    go_wp2_with (go_at_call 26; refine (HS.out _ _ HSL.out).mono ?_; rintro e wv ⟨rfl, rfl⟩)
    first | (refine hK _ _ ?_; clear hK K) | skip
    change wpAny _ _ _ _ _ _ (Act.mk #[_, _, _, _, _, _, _, _, _, _, _, _, _, _, _, _, _, _, _, _, _, _, _, _, _, _, _, _, _, _, _, _, _, _, _, _, _, _, _, _, _, _, _, _, _, _, _, _, _, _, _, _, _, _, _, _, _, _, _, _, _, _, _, _, _, _, _, _, _, _, _, _, _, _, _, _, _, _, _, _, _, _, _, _, _, _, _, _, _, _, _, _, _, _, _, _, _, _, _, _, _, _, _, _, _, _, _, _, _, _, _, _, _, _, _, _, _, _, _, _, _, _, _, _, _, _, _, _, _, _, _, _, _, _, _, _, _, _, _, _, _, _, _, _, _, _, _, _, _, _, _, _, _, _, _, _, _, _, _, _, _, _, _] _) _
    refine wpAny_take (i := 6) (v := ?_) rfl (by kernel_rfl) (by kernel_rfl) (by kernel_rfl) (fun _ _ _ h => h) (Or.inl ⟨by kernel_rfl, ?_⟩) ?_
    rotate_left; · ((intro w; go_simp); (try (with_reducible rfl)))
    change wpAny _ _ _ _ _ _ (Act.mk #[_, _, _, _, _, _, _, _, _, _, _, _, _, _, _, _, _, _, _, _, _, _, _, _, _, _, _, _, _, _, _, _, _, _, _, _, _, _, _, _, _, _, _, _, _, _, _, _, _, _, _, _, _, _, _, _, _, _, _, _, _, _, _, _, _, _, _, _, _, _, _, _, _, _, _, _, _, _, _, _, _, _, _, _, _, _, _, _, _, _, _, _, _, _, _, _, _, _, _, _, _, _, _, _, _, _, _, _, _, _, _, _, _, _, _, _, _, _, _, _, _, _, _, _, _, _, _, _, _, _, _, _, _, _, _, _, _, _, _, _, _, _, _, _, _, _, _, _, _, _, _, _, _, _, _, _, _, _, _, _, _, _, _] _) _
    refine wpAny_done (by kernel_rfl) ?_ _
    all_goals
      go_wp2_with fail
      go_meet
      exact ⟨rfl, N1.out.drew.below HBU.out⟩
  case rest =>
  obtain ⟨rfl, hN2⟩ := hcut
  have N2 := hide hN2
  clear hN2
  cases hbb : b with
  | false =>
    have HV := hide (show (numQ (l.drop a)).err = 3 by rw [HN.out, if_neg (by rintro (h | h); exact HR0.out h; have h2 := HB.out; rw [hbb] at h2; exact of_decide_eq_false h2 ((unitsS_mem _).2 h))]; rfl)
    subst hbb
    have c0 := N2.out.res.cell 0
    have c1 := N2.out.res.cell 1
    have c2 := N2.out.res.cell 2
    have f0 := N2.out.res.frozen 0
    have f1 := N2.out.res.frozen 1
    have f2 := N2.out.res.frozen 2
    have d0 := N2.out.lex.cell 0
    have d1 := N2.out.lex.cell 1
    have d2 := N2.out.lex.cell 2
    go_wp2
    refine bodyPost_ret (v := .tuple #[.agg #[.int .i64 1, .string sD, .int .i64 (a : Int)], .int .i64 0, .int .i64 3]) (results_cell3Q rfl _ _ w.heap.size 33 _ _ _ _ _ rfl rfl rfl (rowL_put N2.out.res _ _ _) Tryz.underlying33 rfl (by kernel_rfl)) rfl ?_
    exact ⟨LexOk.bad _ _ _ _ HV.out (by decide), below3 N2.out.low (Nat.le_refl _) _ _ _⟩
  | true =>
    have HN := hide (show numQ (l.drop a) = _ from HN.out.trans (if_pos (.inr (by have h2 := HB.out; rw [hbb] at h2; exact (unitsS_mem _).1 (of_decide_eq_true h2)))))
    subst hbb
    have y : ∀ W : World, (Op.stringOp .add sD (bsQ X)).run Tryz.prog W = .ok (.string (bsQ (D ++ X))) W := fun W => by rw [← HsD.out]; exact catQ D X (by have := HlD.out; omega) W
    obtain ⟨sX, hsX⟩ : ∃ sX, bsQ X = sX := ⟨_, rfl⟩
    rw [hsX] at x3 y
    clear hsX
    obtain ⟨sDX, hsDX⟩ : ∃ sDX, bsQ (D ++ X) = sDX := ⟨_, rfl⟩
    rw [hsDX] at y
    have HsDX := hide hsDX
    clear hsDX
    have c0 := N2.out.res.cell 0
    have c1 := N2.out.res.cell 1
    have c2 := N2.out.res.cell 2
    have f0 := N2.out.res.frozen 0
    have f1 := N2.out.res.frozen 1
    have f2 := N2.out.res.frozen 2
    have d0 := N2.out.lex.cell 0
    have d1 := N2.out.lex.cell 1
    have d2 := N2.out.lex.cell 2
    have e0 := N2.out.lex.frozen 0
    have e1 := N2.out.lex.frozen 1
    go_wp2_with fail
    refine wp_region_any (by kernel_rfl) ?_
    change wpAny _ _ _ _ _ _ _ (World.drew _)
    refine wpAny_take (i := 0) (v := ?_) rfl (by kernel_rfl) (by kernel_rfl) (by kernel_rfl) (fun _ _ _ h => h) (Or.inl ⟨by kernel_rfl, ?_⟩) ?_
    rotate_left; · ((intro w; go_simp); (try (with_reducible rfl)))
    change wpAny _ _ _ _ _ _ (Act.mk #[_, _, _, _, _, _, _, _, _, _, _, _, _, _, _, _, _, _, _, _, _, _, _, _, _, _, _, _, _, _, _, _, _, _, _, _, _, _, _, _, _, _, _, _, _, _, _, _, _, _, _, _, _, _, _, _, _, _, _, _, _, _, _, _, _, _, _, _, _, _, _, _, _, _, _, _, _, _, _, _, _, _, _, _, _, _, _, _, _, _, _, _, _, _, _, _, _, _, _, _, _, _, _, _, _, _, _, _, _, _, _, _, _, _, _, _, _, _, _, _, _, _, _, _, _, _, _, _, _, _, _, _, _, _, _, _, _, _, _, _, _, _, _, _, _, _, _, _, _, _, _, _, _, _, _, _, _, _, _, _, _, _, _] _) _
    refine wpAny_take (i := 2) (v := ?_) rfl (by kernel_rfl) (by kernel_rfl) (by kernel_rfl) (fun _ _ _ h => h) (Or.inl ⟨by kernel_rfl, ?_⟩) ?_
    rotate_left; · ((intro w; go_simp); (try (with_reducible rfl)))
    change wpAny _ _ _ _ _ _ (Act.mk #[_, _, _, _, _, _, _, _, _, _, _, _, _, _, _, _, _, _, _, _, _, _, _, _, _, _, _, _, _, _, _, _, _, _, _, _, _, _, _, _, _, _, _, _, _, _, _, _, _, _, _, _, _, _, _, _, _, _, _, _, _, _, _, _, _, _, _, _, _, _, _, _, _, _, _, _, _, _, _, _, _, _, _, _, _, _, _, _, _, _, _, _, _, _, _, _, _, _, _, _, _, _, _, _, _, _, _, _, _, _, _, _, _, _, _, _, _, _, _, _, _, _, _, _, _, _, _, _, _, _, _, _, _, _, _, _, _, _, _, _, _, _, _, _, _, _, _, _, _, _, _, _, _, _, _, _, _, _, _, _, _, _, _] _) _
    refine wpAny_take (i := 3) (v := ?_) rfl (by kernel_rfl) (by kernel_rfl) (by kernel_rfl) (fun _ _ _ h => h) (Or.inl ⟨by kernel_rfl, ?_⟩) ?_
    rotate_left; · ((intro w; go_simp); (try (with_reducible rfl)))
    change wpAny _ _ _ _ _ _ (Act.mk #[_, _, _, _, _, _, _, _, _, _, _, _, _, _, _, _, _, _, _, _, _, _, _, _, _, _, _, _, _, _, _, _, _, _, _, _, _, _, _, _, _, _, _, _, _, _, _, _, _, _, _, _, _, _, _, _, _, _, _, _, _, _, _, _, _, _, _, _, _, _, _, _, _, _, _, _, _, _, _, _, _, _, _, _, _, _, _, _, _, _, _, _, _, _, _, _, _, _, _, _, _, _, _, _, _, _, _, _, _, _, _, _, _, _, _, _, _, _, _, _, _, _, _, _, _, _, _, _, _, _, _, _, _, _, _, _, _, _, _, _, _, _, _, _, _, _, _, _, _, _, _, _, _, _, _, _, _, _, _, _, _, _, _] _) _
    refine wpAny_take (i := 4) (v := ?_) rfl (by kernel_rfl) (by kernel_rfl) (by kernel_rfl) (fun _ _ _ h => h) (Or.inl ⟨by kernel_rfl, ?_⟩) ?_
    rotate_left; · ((intro w; go_simp); (try (with_reducible rfl)))
    change wpAny _ _ _ _ _ _ (Act.mk #[_, _, _, _, _, _, _, _, _, _, _, _, _, _, _, _, _, _, _, _, _, _, _, _, _, _, _, _, _, _, _, _, _, _, _, _, _, _, _, _, _, _, _, _, _, _, _, _, _, _, _, _, _, _, _, _, _, _, _, _, _, _, _, _, _, _, _, _, _, _, _, _, _, _, _, _, _, _, _, _, _, _, _, _, _, _, _, _, _, _, _, _, _, _, _, _, _, _, _, _, _, _, _, _, _, _, _, _, _, _, _, _, _, _, _, _, _, _, _, _, _, _, _, _, _, _, _, _, _, _, _, _, _, _, _, _, _, _, _, _, _, _, _, _, _, _, _, _, _, _, _, _, _, _, _, _, _, _, _, _, _, _, _] _) _
    refine wpAny_take (i := 5) (v := ?_) rfl (by kernel_rfl) (by kernel_rfl) (by kernel_rfl) (fun _ _ _ h => h) (Or.inl ⟨by kernel_rfl, ?_⟩) ?_
    rotate_left; · ((intro w; go_simp); (try (with_reducible rfl)))
    change wpAny _ _ _ _ _ _ (Act.mk #[_, _, _, _, _, _, _, _, _, _, _, _, _, _, _, _, _, _, _, _, _, _, _, _, _, _, _, _, _, _, _, _, _, _, _, _, _, _, _, _, _, _, _, _, _, _, _, _, _, _, _, _, _, _, _, _, _, _, _, _, _, _, _, _, _, _, _, _, _, _, _, _, _, _, _, _, _, _, _, _, _, _, _, _, _, _, _, _, _, _, _, _, _, _, _, _, _, _, _, _, _, _, _, _, _, _, _, _, _, _, _, _, _, _, _, _, _, _, _, _, _, _, _, _, _, _, _, _, _, _, _, _, _, _, _, _, _, _, _, _, _, _, _, _, _, _, _, _, _, _, _, _, _, _, _, _, _, _, _, _, _, _, _] _) _
    refine wpAny_ready (rs := [1]) (by kernel_rfl) (by simp) ?_
    refine AllReady.cons rfl (fun K hK => ?_) AllReady.nil
    go_simp
    first | (refine hK _ _ ?_; clear hK K) | skip
    change wpAny _ _ _ _ _ _ (Act.mk #[_, _, _, _, _, _, _, _, _, _, _, _, _, _, _, _, _, _, _, _, _, _, _, _, _, _, _, _, _, _, _, _, _, _, _, _, _, _, _, _, _, _, _, _, _, _, _, _, _, _, _, _, _, _, _, _, _, _, _, _, _, _, _, _, _, _, _, _, _, _, _, _, _, _, _, _, _, _, _, _, _, _, _, _, _, _, _, _, _, _, _, _, _, _, _, _, _, _, _, _, _, _, _, _, _, _, _, _, _, _, _, _, _, _, _, _, _, _, _, _, _, _, _, _, _, _, _, _, _, _, _, _, _, _, _, _, _, _, _, _, _, _, _, _, _, _, _, _, _, _, _, _, _, _, _, _, _, _, _, _, _, _, _] _) _
    refine wpAny_take (i := 6) (v := ?_) rfl (by kernel_rfl) (by kernel_rfl) (by kernel_rfl) (fun _ _ _ h => h) (Or.inl ⟨by kernel_rfl, ?_⟩) ?_
    rotate_left; · ((intro w; go_simp); (try (with_reducible rfl)))
    change wpAny _ _ _ _ _ _ (Act.mk #[_, _, _, _, _, _, _, _, _, _, _, _, _, _, _, _, _, _, _, _, _, _, _, _, _, _, _, _, _, _, _, _, _, _, _, _, _, _, _, _, _, _, _, _, _, _, _, _, _, _, _, _, _, _, _, _, _, _, _, _, _, _, _, _, _, _, _, _, _, _, _, _, _, _, _, _, _, _, _, _, _, _, _, _, _, _, _, _, _, _, _, _, _, _, _, _, _, _, _, _, _, _, _, _, _, _, _, _, _, _, _, _, _, _, _, _, _, _, _, _, _, _, _, _, _, _, _, _, _, _, _, _, _, _, _, _, _, _, _, _, _, _, _, _, _, _, _, _, _, _, _, _, _, _, _, _, _, _, _, _, _, _, _] _) _
    refine wpAny_take (i := 7) (v := ?_) rfl (by kernel_rfl) (by kernel_rfl) (by kernel_rfl) (fun _ _ _ h => h) (Or.inl ⟨by kernel_rfl, ?_⟩) ?_
    rotate_left; · ((intro w; go_simp); (try (with_reducible rfl)))
    change wpAny _ _ _ _ _ _ (Act.mk #[_, _, _, _, _, _, _, _, _, _, _, _, _, _, _, _, _, _, _, _, _, _, _, _, _, _, _, _, _, _, _, _, _, _, _, _, _, _, _, _, _, _, _, _, _, _, _, _, _, _, _, _, _, _, _, _, _, _, _, _, _, _, _, _, _, _, _, _, _, _, _, _, _, _, _, _, _, _, _, _, _, _, _, _, _, _, _, _, _, _, _, _, _, _, _, _, _, _, _, _, _, _, _, _, _, _, _, _, _, _, _, _, _, _, _, _, _, _, _, _, _, _, _, _, _, _, _, _, _, _, _, _, _, _, _, _, _, _, _, _, _, _, _, _, _, _, _, _, _, _, _, _, _, _, _, _, _, _, _, _, _, _, _] _) _
    refine wpAny_ready (rs := [8]) (by kernel_rfl) (by simp) ?_
    refine AllReady.cons rfl (fun K hK => ?_) AllReady.nil
    go_simp
    first | (refine hK _ _ ?_; clear hK K) | skip
    change wpAny _ _ _ _ _ _ (Act.mk #[_, _, _, _, _, _, _, _, _, _, _, _, _, _, _, _, _, _, _, _, _, _, _, _, _, _, _, _, _, _, _, _, _, _, _, _, _, _, _, _, _, _, _, _, _, _, _, _, _, _, _, _, _, _, _, _, _, _, _, _, _, _, _, _, _, _, _, _, _, _, _, _, _, _, _, _, _, _, _, _, _, _, _, _, _, _, _, _, _, _, _, _, _, _, _, _, _, _, _, _, _, _, _, _, _, _, _, _, _, _, _, _, _, _, _, _, _, _, _, _, _, _, _, _, _, _, _, _, _, _, _, _, _, _, _, _, _, _, _, _, _, _, _, _, _, _, _, _, _, _, _, _, _, _, _, _, _, _, _, _, _, _, _] _) _
    refine wpAny_take (i := 9) (v := ?_) rfl (by kernel_rfl) (by kernel_rfl) (by kernel_rfl) (fun _ _ _ h => h) (Or.inl ⟨by kernel_rfl, ?_⟩) ?_
    rotate_left; · ((intro w; go_simp); (try (with_reducible rfl)))
    change wpAny _ _ _ _ _ _ (Act.mk #[_, _, _, _, _, _, _, _, _, _, _, _, _, _, _, _, _, _, _, _, _, _, _, _, _, _, _, _, _, _, _, _, _, _, _, _, _, _, _, _, _, _, _, _, _, _, _, _, _, _, _, _, _, _, _, _, _, _, _, _, _, _, _, _, _, _, _, _, _, _, _, _, _, _, _, _, _, _, _, _, _, _, _, _, _, _, _, _, _, _, _, _, _, _, _, _, _, _, _, _, _, _, _, _, _, _, _, _, _, _, _, _, _, _, _, _, _, _, _, _, _, _, _, _, _, _, _, _, _, _, _, _, _, _, _, _, _, _, _, _, _, _, _, _, _, _, _, _, _, _, _, _, _, _, _, _, _, _, _, _, _, _, _] _) _
    refine wpAny_ready (rs := [10]) (by kernel_rfl) (by simp) ?_
    refine AllReady.cons rfl (fun K hK => ?_) AllReady.nil
    go_simp
    first | (refine hK _ _ ?_; clear hK K) | skip
    change wpAny _ _ _ _ _ _ (Act.mk #[_, _, _, _, _, _, _, _, _, _, _, _, _, _, _, _, _, _, _, _, _, _, _, _, _, _, _, _, _, _, _, _, _, _, _, _, _, _, _, _, _, _, _, _, _, _, _, _, _, _, _, _, _, _, _, _, _, _, _, _, _, _, _, _, _, _, _, _, _, _, _, _, _, _, _, _, _, _, _, _, _, _, _, _, _, _, _, _, _, _, _, _, _, _, _, _, _, _, _, _, _, _, _, _, _, _, _, _, _, _, _, _, _, _, _, _, _, _, _, _, _, _, _, _, _, _, _, _, _, _, _, _, _, _, _, _, _, _, _, _, _, _, _, _, _, _, _, _, _, _, _, _, _, _, _, _, _, _, _, _, _, _, _] _) _
    refine wpAny_done (by kernel_rfl) ?_ _
    all_goals
      have N4 := hide (show NumW w _ 33 (.int .i64 2) (.string sDX) (.int .i64 (a : Int)) from (N2.out.unit _ _).drew)
      generalize World.drew (World.setCell (World.setCell wc _ _) _ _) = W4 at N4 ⊢
      clear c0 c1 c2 f0 f1 f2 d0 d1 d2 e0 e1
      have HV9 := HN.out
      by_cases h15 : 15 < D.length
      · have q15 : (15 : Int) < (sD.size : Int) := by have := HzD.out; omega
        have HV := hide (show (numQ (l.drop a)).err = 9 by rw [HN.out, if_pos h15]; rfl)
        clear h15
        go_wp2_with fail
        refine (ST.out _).mono ?_
        rintro e w7 ⟨rfl, rfl⟩
        have c0 := N4.out.res.cell 0
        have c1 := N4.out.res.cell 1
        have c2 := N4.out.res.cell 2
        have f0 := N4.out.res.frozen 0
        have f1 := N4.out.res.frozen 1
        have f2 := N4.out.res.frozen 2
        have d0 := N4.out.lex.cell 0
        have d1 := N4.out.lex.cell 1
        have d2 := N4.out.lex.cell 2
        go_wp2
        refine bodyPost_ret (v := .tuple #[.agg #[.int .i64 2, .string sDX, .int .i64 (a : Int)], .int .i64 0, .int .i64 9]) (results_cell3Q rfl _ _ w.heap.size 33 _ _ _ _ _ rfl rfl rfl (rowL_put N4.out.res _ _ _) Tryz.underlying33 rfl (by kernel_rfl)) rfl ?_
        exact ⟨LexOk.bad _ _ _ _ HV.out (by decide), below3 N4.out.low (Nat.le_refl _) _ _ _⟩
      · have q15 : ¬ (15 : Int) < (sD.size : Int) := by have := HzD.out; omega
        have HV := hide (show numQ (l.drop a) = ⟨2, D ++ X, n + r, 0⟩ by rw [HN.out, if_neg h15]; rw [if_neg HR0.out]; rfl)
        clear h15
        go_wp2_with fail
        refine (ST.out _).mono ?_
        rintro e w7 ⟨rfl, rfl⟩
        have c0 := N4.out.res.cell 0
        have c1 := N4.out.res.cell 1
        have c2 := N4.out.res.cell 2
        have f0 := N4.out.res.frozen 0
        have f1 := N4.out.res.frozen 1
        have f2 := N4.out.res.frozen 2
        have d0 := N4.out.lex.cell 0
        have d1 := N4.out.lex.cell 1
        have d2 := N4.out.lex.cell 2
        go_wp2
        refine bodyPost_ret (v := .tuple #[.agg #[.int .i64 2, .string sDX, .int .i64 (a : Int)], .int .i64 (K : Int), .int .i64 0]) (results_cell3Q rfl _ _ w.heap.size 33 _ _ _ _ _ rfl rfl rfl (rowL_put N4.out.res _ _ _) Tryz.underlying33 rfl (by kernel_rfl)) rfl ?_
        exact ⟨by rw [HKI.out]; exact (by rw [← HsDX.out]; exact LexOk.good HV.out), below3 N4.out.low (Nat.le_refl _) _ _ _⟩
end Go.Proofs.YtjlpekjfmgcbdaaGreatDoor
