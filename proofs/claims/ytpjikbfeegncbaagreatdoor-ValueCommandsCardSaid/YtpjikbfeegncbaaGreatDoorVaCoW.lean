/- The walk of ValueCommands. -/
import Derived.Test.YtpjikbfeegncbaaGreatDoorVaS
import Derived.Test.YtpjikbfeegncbaaGreatDoorShelfE
import Derived.MakeChecks
set_option linter.unusedVariables false
set_option linter.unusedSimpArgs false
namespace Go.Proofs.YtpjikbfeegncbaaGreatDoor.valueCommands
open Go.RowKit Go.Shelf Go.Sort

theorem gl_of {W : World} (h : laidMetH Tryz.prog Rows.valueCommandsRow.laid W) (hS : W.ShapedOpen Tryz.prog) : Gl W := by
  rw [MakeChecks.laidMetH_plain _ _ _ (by kernel_rfl)] at h
  exact gl_mk (x := ("math/bits.deBruijn32tab", Rows.laid_math_bits_deBruijn32tab)) (y := ("math/bits.deBruijn64tab", Rows.laid_math_bits_deBruijn64tab)) (rest := Rows.valueCommandsRow.laid.drop 3) h hS
/-- not printable -/
def np (x : Nat) : Bool := decide (x < 33 ∨ 126 < x)
theorem np_any (x : Int) (w : World) :
    Calls Tryz.prog 23 #[.int .i32 x] w fun e w' => e = .returned (.bool (decide (x < 33 ∨ 126 < x))) ∧ w' = w := by
  go_enter Tryz.func23, Tryz.ntmps23
  go_wp2
  all_goals go_ret
  all_goals refine ⟨ret_b ?_, rfl⟩
  all_goals (first | (symm; apply decide_eq_true; omega) | (symm; apply decide_eq_false; omega) | (apply decide_eq_true; omega) | (apply decide_eq_false; omega) | (rw [Bool.eq_iff_iff] <;> simp <;> omega))
theorem np_at (w : World) : PredAt Tryz.prog 23 #[] encR np w := fun W x _ =>
  (np_any (x : Int) W).mono fun e w' ⟨he, hw⟩ => ⟨he.trans (by unfold np; congr 2; rw [decide_eq_decide]; omega), 0, by rw [hw]; rfl⟩
theorem idx_bad (s : ByteArray) (j : Nat) (hj : j < s.size) (hb : prB (s[j]'hj) = false) (hg : ∀ i (hi : i < s.size), i < j → prB (s[i]'hi) = true) :
    ∀ (f pos : Nat), pos ≤ j → s.size ≤ pos + f → 0 ≤ Lib.idxFuncFrom np true s f pos
  | 0, pos, h1, h2 => by omega
  | f + 1, pos, h1, h2 => by
    have hp : pos < s.size := by omega
    unfold Lib.idxFuncFrom
    rw [if_pos hp]
    by_cases hpj : pos = j
    · subst hpj
      rw [if_pos]
      · omega
      · have p := prB_false hb
        by_cases hx : (s[pos]'hp).toNat < 128
        · rw [decode_ascii s pos hp hx]
          unfold np; rw [decide_eq_true_eq]; omega
        · have := (decode_high s pos hp (by omega)).1
          unfold np; rw [decide_eq_true_eq]; omega
    · have hok := prB_true (hg pos hp (by omega))
      rw [decode_ascii s pos hp (by omega), if_neg]
      · exact idx_bad s j hj hb hg f (pos + 1) (by omega) (by omega)
      · unfold np; rw [decide_eq_true_eq]; omega
theorem first_bad : ∀ (l : List UInt8), allPr l = false → ∃ j, ∃ (h : j < l.length), prB l[j] = false ∧ ∀ i (hi : i < l.length), i < j → prB l[i] = true
  | [], h => by cases h
  | c :: t, h => by
    cases hc : prB c with
    | false => exact ⟨0, by simp, hc, fun i _ hi => by omega⟩
    | true =>
      have ht : allPr t = false := by
        unfold allPr at h ⊢
        rwa [List.all_cons, hc, Bool.true_and] at h
      obtain ⟨j, h1, h2, h3⟩ := first_bad t ht
      refine ⟨j + 1, by simpa using h1, h2, fun i hi hij => ?_⟩
      cases i with
      | zero => exact hc
      | succ i => exact h3 i (by simpa using hi) (by omega)
theorem idx_of (l : List UInt8) (h : allPr l = false) : decide (0 ≤ Lib.idxFunc np true (bsV l)) = true := by
  obtain ⟨j, h1, h2, h3⟩ := first_bad l h
  apply decide_eq_true
  unfold Lib.idxFunc
  have hs := bs_size l
  exact idx_bad (bsV l) j (by omega) (by rw [bs_get]; exact h2) (fun i hi hij => by rw [bs_get]; exact h3 i (by omega) hij) _ 0 (Nat.zero_le _) (by omega)
theorem put_new {P : Program} (w : World) (mty kt et : TypeId) (r clock : Nat) (es : Array MapEntry) (x : Int) (val : Value)
    (hm : P.underlying mty = some (.map kt et)) (hk : P.underlying kt = some (.int .i64)) (hb : w.heap[r]? = some (.map es clock)) (hf : Instr.findNow (.int .i64) (.int .i64 x) es.toList 0 = some none) :
    ∃ w', (Instr.mapUpdate mty (.map (some r)) (.int .i64 x) val).run P w = .ok () w' ∧ w'.heap[r]? = some (.map (es.push { key := .int .i64 x, val := val, born := clock }) (clock + 1)) ∧ ∀ B, B ≤ r → RowKit.Below B w w' := by
  have hc : (Instr.checkKey false 10000 kt (.int .i64 x)).run P w = .ok () w := MapKept.run_checkKey (k := .int .i64 x) hk (by simp [MapKept.IsKey]) false 9999
  refine ⟨{ w with heap := w.heap.setIfInBounds r (.map (es.push { key := .int .i64 x, val := val, born := clock }) (clock + 1)) }, by simp [Instr.mapUpdate, run_underlying hm, MapKept.run_getObj_map hb, hc, MapKept.run_findKey hk hf, MapKept.run_setObj_map _ hb, Result.andThen], (MapKept.heap_set hb).1, fun B hB => ⟨rfl, rfl, rfl, by simp, fun k hk2 => (MapKept.heap_set hb).2 k (by omega)⟩⟩
theorem look_map {P : Program} (w : World) (mty kt et : TypeId) (r clock : Nat) (es : Array MapEntry) (x : Int) (i : Nat) (v : Value)
    (hm : P.underlying mty = some (.map kt et)) (hk : P.underlying kt = some (.int .i64)) (hb : w.heap[r]? = some (.map es clock)) (hf : Instr.findNow (.int .i64) (.int .i64 x) es.toList 0 = some (some (i, v))) :
    (Instr.lookup mty (.map (some r)) (.int .i64 x) false).run P w = .ok v w := by
  have hc : (Instr.checkKey es.isEmpty 10000 kt (.int .i64 x)).run P w = .ok () w := MapKept.run_checkKey (k := .int .i64 x) hk (by simp [MapKept.IsKey]) es.isEmpty 9999
  simp [Instr.lookup, run_underlying hm, MapKept.run_getObj_map hb, hc, MapKept.run_findKey hk hf]
theorem cut_is (A b : List UInt8) : Lib.trimSuffix (A ++ b) b = A ∧ Lib.hasSuffix (A ++ b) b = true := by
  have h : Lib.hasSuffix (A ++ b) b = true := List.isSuffixOf_iff_suffix.2 (List.suffix_append A b)
  refine ⟨?_, h⟩
  unfold Lib.trimSuffix
  rw [h, if_pos rfl, List.length_append, Nat.add_sub_cancel, List.take_left]
theorem cutS (A b : List UInt8) (h : (A ++ b).length ≤ 10000000) (W : World) : Calls Tryz.prog 24 #[.string (bsV (A ++ b)), .string (bsV b)] W fun e w' => e = .returned (.tuple #[.string (bsV A), .bool true]) ∧ w' = W := by
  have := Tryz.strings_CutSuffix (bsV (A ++ b)) (bsV b) W (by rw [bs_size]; omega)
  rw [bsV_list, bsV_list, (cut_is A b).1, (cut_is A b).2] at this
  exact this
theorem codeV_ne {l : List UInt8} (h : codeV l = true) : l ≠ [] := by
  intro e; subst e; exact absurd h (by decide +kernel)
theorem ne_empty {l : List UInt8} (h : l ≠ []) : (bsV l).toList ≠ [] ∧ (bsV l).toList.isEmpty = false := toList_ne (s := bsV l) (by rw [bs_size]; exact List.length_pos_iff.2 h)
theorem okW_k {k : Nat} {wd : Int} (hk : k < 4) (h0 : k ≠ 0) (h : okW k wd = true) : wd = 0 := by
  unfold okW at h; rw [if_neg h0] at h; exact of_decide_eq_true h

set_option maxRecDepth 20000 in
set_option maxHeartbeats 8000000 in
theorem bad_value (n wd : Int) (l id : List UInt8) (w : World) (hg : Gl w) (hl : l.length ≤ 300) (hi : id.length ≤ 60) (hv : validN n wd l = false) :
    Calls Tryz.prog 5 #[.int .i64 n, .int .i64 wd, .string (bsV l), .string (bsV id)] w fun e w' => e = .returned (.bool true) ∧ Below w.heap.size w w' := by
  have A := hide (awake_any w hg)
  have G := hide hg
  have z1 := bs_size l
  have z2 := bs_size id
  have hs1 : ((300 : Int) < (l.length : Int)) = False := by simp; omega
  have hs2 : ((60 : Int) < (id.length : Int)) = False := by simp; omega
  have C := hide (fun (W : World) (h : Gl W) => Command_any n wd l id W (by omega) (by omega) h)
  have V := hide (fun (W : World) (h : Gl W) => Valid_any n wd l W (by omega) h)
  have hc : commandN n wd l id = [] := by unfold commandN; rw [hv]; rfl
  rw [hc, show bsV [] = (⟨#[]⟩ : ByteArray) from rfl] at C
  rw [hv] at V
  clear hc hv hg
  have B0 := hide (Below.refl w.heap.size w)
  go_enter Tryz.func5, Tryz.ntmps5
  go_wp2_with fail
  refine (A.out).mono ?_
  rintro e w1 ⟨rfl, hb⟩
  have B1 := hide (B0.out.trans (hb.mono B0.out.size))
  clear hb
  go_wp2_with fail
  refine (C.out _ (G.out.below B1.out)).mono ?_
  rintro e w2 ⟨rfl, hb⟩
  have B2 := hide (B1.out.trans (hb.mono B1.out.size))
  clear hb
  go_wp2_with fail
  refine (V.out _ (G.out.below B2.out)).mono ?_
  rintro e w3 ⟨rfl, hb⟩
  have B3 := hide (B2.out.trans (hb.mono B2.out.size))
  clear hb
  go_wp2
  go_ret
  exact ⟨rfl, B3.out⟩

set_option maxRecDepth 20000 in
set_option maxHeartbeats 8000000 in
theorem bad_code (n wd : Int) (l id : List UInt8) (w : World) (hg : Gl w) (hl : l.length ≤ 300) (hi : id.length ≤ 60) (hv : validN n wd l = true) (hco : codeV id = false) :
    Calls Tryz.prog 5 #[.int .i64 n, .int .i64 wd, .string (bsV l), .string (bsV id)] w fun e w' => e = .returned (.bool true) ∧ Below w.heap.size w w' := by
  have A := hide (awake_any w hg)
  have G := hide hg
  have z1 := bs_size l
  have z2 := bs_size id
  have hs1 : ((300 : Int) < (l.length : Int)) = False := by simp; omega
  have hs2 : ((60 : Int) < (id.length : Int)) = False := by simp; omega
  have C := hide (fun (W : World) (h : Gl W) => Command_any n wd l id W (by omega) (by omega) h)
  have V := hide (fun (W : World) (h : Gl W) => Valid_any n wd l W (by omega) h)
  have hc : commandN n wd l id = [] := by unfold commandN; rw [hv, hco]; rfl
  rw [hc, show bsV [] = (⟨#[]⟩ : ByteArray) from rfl] at C
  rw [hv] at V
  clear hc hv
  by_cases h0 : id = []
  · have e1 : ((id.length : Int) < 1) = True := by rw [h0]; simp
    clear h0 hco hg
    have B0 := hide (Below.refl w.heap.size w)
    go_enter Tryz.func5, Tryz.ntmps5
    go_wp2_with fail
    refine (A.out).mono ?_
    rintro e w1 ⟨rfl, hb⟩
    have B1 := hide (B0.out.trans (hb.mono B0.out.size))
    clear hb
    go_wp2_with fail
    refine (C.out _ (G.out.below B1.out)).mono ?_
    rintro e w2 ⟨rfl, hb⟩
    have B2 := hide (B1.out.trans (hb.mono B1.out.size))
    clear hb
    go_wp2_with fail
    refine (V.out _ (G.out.below B2.out)).mono ?_
    rintro e w3 ⟨rfl, hb⟩
    have B3 := hide (B2.out.trans (hb.mono B2.out.size))
    clear hb
    go_wp2
    go_ret
    exact ⟨rfl, B3.out⟩
  · have hpos := List.length_pos_iff.2 h0
    have e1 : ((id.length : Int) < 1) = False := by simp; omega
    by_cases h8 : 8 < id.length
    · have e2 : ((8 : Int) < (id.length : Int)) = True := by simp; omega
      clear h0 hco hg
      have B0 := hide (Below.refl w.heap.size w)
      go_enter Tryz.func5, Tryz.ntmps5
      go_wp2_with fail
      refine (A.out).mono ?_
      rintro e w1 ⟨rfl, hb⟩
      have B1 := hide (B0.out.trans (hb.mono B0.out.size))
      clear hb
      go_wp2_with fail
      refine (C.out _ (G.out.below B1.out)).mono ?_
      rintro e w2 ⟨rfl, hb⟩
      have B2 := hide (B1.out.trans (hb.mono B1.out.size))
      clear hb
      go_wp2_with fail
      refine (V.out _ (G.out.below B2.out)).mono ?_
      rintro e w3 ⟨rfl, hb⟩
      have B3 := hide (B2.out.trans (hb.mono B2.out.size))
      clear hb
      go_wp2
      go_ret
      exact ⟨rfl, B3.out⟩
    · have e2 : ((8 : Int) < (id.length : Int)) = False := by simp; omega
      have hb4 : ((bsV id).toList == [36, 101, 110, 100]) = decide (id = [36, 101, 110, 100]) := by
        rw [show ([36, 101, 110, 100] : List UInt8) = (⟨#[36, 101, 110, 100]⟩ : ByteArray).toList from by decide +kernel, toList_beq]
        rw [show (⟨#[36, 101, 110, 100]⟩ : ByteArray).toList = [36, 101, 110, 100] from by decide +kernel]
        congr 1
        rw [eq_iff_iff]
        exact ⟨fun h => by have := congrArg (fun b : ByteArray => b.data.toList) h; simpa [bsV_list] using this, fun h => by rw [h]; rfl⟩
      by_cases he : id = [36, 101, 110, 100]
      · rw [decide_eq_true he] at hb4
        clear h0 hco hg he
        have B0 := hide (Below.refl w.heap.size w)
        go_enter Tryz.func5, Tryz.ntmps5
        go_wp2_with fail
        refine (A.out).mono ?_
        rintro e w1 ⟨rfl, hb⟩
        have B1 := hide (B0.out.trans (hb.mono B0.out.size))
        clear hb
        go_wp2_with fail
        refine (C.out _ (G.out.below B1.out)).mono ?_
        rintro e w2 ⟨rfl, hb⟩
        have B2 := hide (B1.out.trans (hb.mono B1.out.size))
        clear hb
        go_wp2_with fail
        refine (V.out _ (G.out.below B2.out)).mono ?_
        rintro e w3 ⟨rfl, hb⟩
        have B3 := hide (B2.out.trans (hb.mono B2.out.size))
        clear hb
        go_wp2
        go_ret
        exact ⟨rfl, B3.out⟩
      · rw [decide_eq_false he] at hb4
        have hp : allPr id = false := by
          unfold codeV at hco
          rw [decide_eq_true h0, decide_eq_true (show id.length ≤ 8 by omega), decide_eq_true he, Bool.and_true, Bool.and_true, Bool.and_true] at hco
          exact hco
        have CF := hide (fun W : World => Tryz.strings_ContainsFunc 23 #[] (fun args w => enter_of Tryz.func23 (by kernel_rfl) (by kernel_rfl) args w) np (bsV id) W (np_at W))
        rw [idx_of id hp] at CF
        clear h0 hco hg he hp
        have B0 := hide (Below.refl w.heap.size w)
        go_enter Tryz.func5, Tryz.ntmps5
        go_wp2_with fail
        refine (A.out).mono ?_
        rintro e w1 ⟨rfl, hb⟩
        have B1 := hide (B0.out.trans (hb.mono B0.out.size))
        clear hb
        go_wp2_with fail
        refine (C.out _ (G.out.below B1.out)).mono ?_
        rintro e w2 ⟨rfl, hb⟩
        have B2 := hide (B1.out.trans (hb.mono B1.out.size))
        clear hb
        go_wp2_with fail
        refine (V.out _ (G.out.below B2.out)).mono ?_
        rintro e w3 ⟨rfl, hb⟩
        have B3 := hide (B2.out.trans (hb.mono B2.out.size))
        clear hb
        go_wp2_with fail
        refine (CF.out _).mono ?_
        rintro e w4 ⟨rfl, hb⟩
        have B4 := hide (B3.out.trans (hb.mono B3.out.size))
        clear hb
        go_wp2
        go_ret
        exact ⟨rfl, B4.out⟩

set_option maxRecDepth 20000 in
set_option maxHeartbeats 8000000 in
theorem short3 (l id : List UInt8) (w : World) (hg : Gl w) (hl : l.length ≤ 300) (hi : id.length ≤ 60) (hv : validN 3 0 l = true) (hco : codeV id = true) :
    Calls Tryz.prog 5 #[.int .i64 3, .int .i64 0, .string (bsV l), .string (bsV id)] w fun e w' => e = .returned (.bool true) ∧ Below w.heap.size w w' := by
  have A := hide (awake_any w hg)
  have G := hide hg
  have z1 := bs_size l
  have z2 := bs_size id
  have hs1 : ((300 : Int) < (l.length : Int)) = False := by simp; omega
  have hs2 : ((60 : Int) < (id.length : Int)) = False := by simp; omega
  have C := hide (fun (W : World) (h : Gl W) => Command_any 3 0 l id W (by omega) (by omega) h)
  have hc : commandN 3 0 l id = formatN 3 0 l ++ id := by unfold commandN formatN; rw [hv, hco]; rfl
  have hfl := formatN_len 3 0 l
  have P := hide (fun (W : World) (h : Gl W) => Parse_any 3 0 (formatN 3 0 l) W (by omega) h)
  rw [back_N 3 0 l hv] at P
  rw [hc] at C
  generalize formatN 3 0 l = T at *
  have K := hide (fun W : World => cutS T id (by rw [List.length_append]; omega) W)
  obtain ⟨e1, e2⟩ := ne_empty (l := T ++ id) (fun h => codeV_ne hco (List.append_eq_nil_iff.1 h).2)
  generalize bsV (T ++ id) = X at *
  have hvv : ((bsV l).toList == (bsV l).toList) = true := by simp
  clear hc hv hg hfl hco
  have B0 := hide (Below.refl w.heap.size w)
  go_enter Tryz.func5, Tryz.ntmps5
  go_wp2_with fail
  refine (A.out).mono ?_
  rintro e w1 ⟨rfl, hb⟩
  have B1 := hide (B0.out.trans (hb.mono B0.out.size))
  clear hb
  go_wp2_with fail
  refine (C.out _ (G.out.below B1.out)).mono ?_
  rintro e w2 ⟨rfl, hb⟩
  have B2 := hide (B1.out.trans (hb.mono B1.out.size))
  clear hb
  go_wp2_with fail
  refine (K.out _).mono ?_
  rintro e wx ⟨rfl, rfl⟩
  go_wp2_with fail
  refine (P.out _ (G.out.below B2.out)).mono ?_
  rintro e w3 ⟨rfl, hb⟩
  have B3 := hide (B2.out.trans (hb.mono B2.out.size))
  clear hb
  go_wp2
  go_ret
  exact ⟨rfl, B3.out⟩

set_option maxRecDepth 20000 in
set_option maxHeartbeats 8000000 in
theorem short0 (l id : List UInt8) (w : World) (hg : Gl w) (hl : l.length ≤ 300) (hi : id.length ≤ 60) (hv : validN 0 1 l = true) (hco : codeV id = true) :
    Calls Tryz.prog 5 #[.int .i64 0, .int .i64 1, .string (bsV l), .string (bsV id)] w fun e w' => e = .returned (.bool true) ∧ Below w.heap.size w w' := by
  have A := hide (awake_any w hg)
  have G := hide hg
  have z1 := bs_size l
  have z2 := bs_size id
  have hs1 : ((300 : Int) < (l.length : Int)) = False := by simp; omega
  have hs2 : ((60 : Int) < (id.length : Int)) = False := by simp; omega
  have C := hide (fun (W : World) (h : Gl W) => Command_any 0 1 l id W (by omega) (by omega) h)
  have hc : commandN 0 1 l id = formatN 0 1 l ++ id := by unfold commandN formatN; rw [hv, hco]; rfl
  have hfl := formatN_len 0 1 l
  have P := hide (fun (W : World) (h : Gl W) => Parse_any 0 1 (formatN 0 1 l) W (by omega) h)
  rw [back_N 0 1 l hv] at P
  rw [hc] at C
  generalize formatN 0 1 l = T at *
  have K := hide (fun W : World => cutS T id (by rw [List.length_append]; omega) W)
  obtain ⟨e1, e2⟩ := ne_empty (l := T ++ id) (fun h => codeV_ne hco (List.append_eq_nil_iff.1 h).2)
  generalize bsV (T ++ id) = X at *
  have hvv : ((bsV l).toList == (bsV l).toList) = true := by simp
  clear hc hv hg hfl hco
  have B0 := hide (Below.refl w.heap.size w)
  go_enter Tryz.func5, Tryz.ntmps5
  go_wp2_with fail
  refine (A.out).mono ?_
  rintro e w1 ⟨rfl, hb⟩
  have B1 := hide (B0.out.trans (hb.mono B0.out.size))
  clear hb
  go_wp2_with fail
  refine (C.out _ (G.out.below B1.out)).mono ?_
  rintro e w2 ⟨rfl, hb⟩
  have B2 := hide (B1.out.trans (hb.mono B1.out.size))
  clear hb
  go_wp2_with fail
  refine (K.out _).mono ?_
  rintro e wx ⟨rfl, rfl⟩
  go_wp2_with fail
  refine (P.out _ (G.out.below B2.out)).mono ?_
  rintro e w3 ⟨rfl, hb⟩
  have B3 := hide (B2.out.trans (hb.mono B2.out.size))
  clear hb
  go_wp2
  go_ret
  exact ⟨rfl, B3.out⟩

set_option maxRecDepth 20000 in
set_option maxHeartbeats 8000000 in
theorem long0 (wd : Int) (l id : List UInt8) (w : World) (hg : Gl w) (hl : l.length ≤ 300) (hi : id.length ≤ 60) (hv : validN 0 wd l = true) (hco : codeV id = true) (hx : 1 < wd) :
    Calls Tryz.prog 5 #[.int .i64 0, .int .i64 wd, .string (bsV l), .string (bsV id)] w fun e w' => e = .returned (.bool true) ∧ Below w.heap.size w w' := by
  have A := hide (awake_any w hg)
  have G := hide hg
  have z1 := bs_size l
  have z2 := bs_size id
  have hs1 : ((300 : Int) < (l.length : Int)) = False := by simp; omega
  have hs2 : ((60 : Int) < (id.length : Int)) = False := by simp; omega
  have C := hide (fun (W : World) (h : Gl W) => Command_any 0 wd l id W (by omega) (by omega) h)
  have hc : commandN 0 wd l id = (98 :: formatN 0 wd l ++ [32]) ++ id := by
    unfold commandN formatN
    rw [hv, hco, if_pos (by rfl), if_neg (by omega), if_pos rfl]; rfl
  have hfl := formatN_len 0 wd l
  have P := hide (fun (W : World) (h : Gl W) => Parse_any 0 wd (formatN 0 wd l) W (by omega) h)
  rw [back_N 0 wd l hv] at P
  rw [hc] at C
  generalize formatN 0 wd l = T at *
  have K1 := hide (fun W : World => cutS (98 :: T ++ [32]) id (by simp only [List.length_append, List.length_cons, List.length_nil]; omega) W)
  have K2 := hide (fun W : World => cutS (98 :: T) [32] (by simp only [List.length_append, List.length_cons, List.length_nil]; omega) W)
  rw [show bsV [32] = (⟨#[32]⟩ : ByteArray) from rfl] at K2
  obtain ⟨e1, e2⟩ := ne_empty (l := 98 :: T ++ [32] ++ id) (fun h => codeV_ne hco (List.append_eq_nil_iff.1 h).2)
  obtain ⟨e3, e4⟩ := ne_empty (l := 98 :: T) (by simp)
  have x1 : (bsV (98 :: T)).extract 0 1 = ⟨#[98]⟩ := bs_take (98 :: T) 1
  have x2 : (bsV (98 :: T)).extract 1 (bsV (98 :: T)).size = bsV T := bs_drop (98 :: T) 1
  have z3 : (bsV (98 :: T)).size = T.length + 1 := bs_size (98 :: T)
  have z4 : (1 : Int) ≤ ((bsV (98 :: T)).size : Int) := by rw [z3]; omega
  generalize bsV (98 :: T ++ [32] ++ id) = X at *
  generalize bsV (98 :: T ++ [32]) = Y at *
  generalize bsV (98 :: T) = Z at *
  generalize bsV T = U at *
  have hvv : ((bsV l).toList == (bsV l).toList) = true := by simp
  have hmm := @run_makeMap Tryz.prog
  clear hc hv hg hfl hco z3
  have B0 := hide (Below.refl w.heap.size w)
  go_enter Tryz.func5, Tryz.ntmps5
  go_wp2_with fail
  refine (A.out).mono ?_
  rintro e w1 ⟨rfl, hb⟩
  have B1 := hide (B0.out.trans (hb.mono B0.out.size))
  clear hb
  go_wp2_with fail
  refine (C.out _ (G.out.below B1.out)).mono ?_
  rintro e w2 ⟨rfl, hb⟩
  have B2 := hide (B1.out.trans (hb.mono B1.out.size))
  clear hb
  go_wp2_with fail
  refine (K1.out _).mono ?_
  rintro e wx ⟨rfl, rfl⟩
  go_wp2_with fail
  refine (K2.out _).mono ?_
  rintro e wx ⟨rfl, rfl⟩
  go_upto_region 13 with fail
  refine wp_region_any (by kernel_rfl) ?_
  change wpAny _ _ _ _ _ _ _ (World.drew _)
  refine wpAny_take (i := 0) (oi := ?oi0q1) (v := ?v0q1) ?h00q1 ?h10q1 ?h20q1 ?h30q1 ?h40q1 (Or.inl ⟨?hw0q1, ?hy0q1⟩) ?rest0q1
  case h00q1 => (simp only [List.getElem?_toArray, List.getElem?_cons_zero, List.getElem?_cons_succ]; rfl)
  case h10q1 => kernel_rfl
  case h20q1 => kernel_rfl
  case h30q1 => kernel_rfl
  case h40q1 => exact fun _ _ _ h => h
  case hw0q1 => rfl
  case hy0q1 => ((intro w; go_simp); (try (with_reducible rfl)))
  try simp only [Act.put, List.setIfInBounds_toArray, List.set_cons_zero, List.set_cons_succ]
  refine wpAny_take (i := 1) (oi := ?oi1q2) (v := ?v1q2) ?h01q2 ?h11q2 ?h21q2 ?h31q2 ?h41q2 (Or.inl ⟨?hw1q2, ?hy1q2⟩) ?rest1q2
  case h01q2 => (simp only [List.getElem?_toArray, List.getElem?_cons_zero, List.getElem?_cons_succ]; rfl)
  case h11q2 => kernel_rfl
  case h21q2 => kernel_rfl
  case h31q2 => kernel_rfl
  case h41q2 => exact fun _ _ _ h => h
  case hw1q2 => rfl
  case hy1q2 => ((intro w; go_simp); (try (with_reducible rfl)))
  try simp only [Act.put, List.setIfInBounds_toArray, List.set_cons_zero, List.set_cons_succ]
  refine wpAny_take (i := 2) (oi := ?oi2q3) (v := ?v2q3) ?h02q3 ?h12q3 ?h22q3 ?h32q3 ?h42q3 (Or.inl ⟨?hw2q3, ?hy2q3⟩) ?rest2q3
  case h02q3 => (simp only [List.getElem?_toArray, List.getElem?_cons_zero, List.getElem?_cons_succ]; rfl)
  case h12q3 => kernel_rfl
  case h22q3 => kernel_rfl
  case h32q3 => kernel_rfl
  case h42q3 => exact fun _ _ _ h => h
  case hw2q3 => rfl
  case hy2q3 => ((intro w; go_simp); (try (with_reducible rfl)))
  try simp only [Act.put, List.setIfInBounds_toArray, List.set_cons_zero, List.set_cons_succ]
  refine wpAny_take (i := 3) (oi := ?oi3q4) (v := ?v3q4) ?h03q4 ?h13q4 ?h23q4 ?h33q4 ?h43q4 (Or.inl ⟨?hw3q4, ?hy3q4⟩) ?rest3q4
  case h03q4 => (simp only [List.getElem?_toArray, List.getElem?_cons_zero, List.getElem?_cons_succ]; rfl)
  case h13q4 => kernel_rfl
  case h23q4 => kernel_rfl
  case h33q4 => kernel_rfl
  case h43q4 => exact fun _ _ _ h => h
  case hw3q4 => rfl
  case hy3q4 => ((intro w; go_simp); (try (with_reducible rfl)))
  try simp only [Act.put, List.setIfInBounds_toArray, List.set_cons_zero, List.set_cons_succ]
  refine wpAny_take (i := 4) (oi := ?oi4q5) (v := ?v4q5) ?h04q5 ?h14q5 ?h24q5 ?h34q5 ?h44q5 (Or.inl ⟨?hw4q5, ?hy4q5⟩) ?rest4q5
  case h04q5 => (simp only [List.getElem?_toArray, List.getElem?_cons_zero, List.getElem?_cons_succ]; rfl)
  case h14q5 => kernel_rfl
  case h24q5 => kernel_rfl
  case h34q5 => kernel_rfl
  case h44q5 => exact fun _ _ _ h => h
  case hw4q5 => rfl
  case hy4q5 => ((intro w; go_simp); (try (with_reducible rfl)))
  try simp only [Act.put, List.setIfInBounds_toArray, List.set_cons_zero, List.set_cons_succ]
  refine wpAny_take (i := 5) (oi := ?oi5q6) (v := ?v5q6) ?h05q6 ?h15q6 ?h25q6 ?h35q6 ?h45q6 (Or.inl ⟨?hw5q6, ?hy5q6⟩) ?rest5q6
  case h05q6 => (simp only [List.getElem?_toArray, List.getElem?_cons_zero, List.getElem?_cons_succ]; rfl)
  case h15q6 => kernel_rfl
  case h25q6 => kernel_rfl
  case h35q6 => kernel_rfl
  case h45q6 => exact fun _ _ _ h => h
  case hw5q6 => rfl
  case hy5q6 => ((intro w; go_simp); (try (with_reducible rfl)))
  try simp only [Act.put, List.setIfInBounds_toArray, List.set_cons_zero, List.set_cons_succ]
  refine wpAny_take (i := 6) (oi := ?oi6q7) (v := ?v6q7) ?h06q7 ?h16q7 ?h26q7 ?h36q7 ?h46q7 (Or.inl ⟨?hw6q7, ?hy6q7⟩) ?rest6q7
  case h06q7 => (simp only [List.getElem?_toArray, List.getElem?_cons_zero, List.getElem?_cons_succ]; rfl)
  case h16q7 => kernel_rfl
  case h26q7 => kernel_rfl
  case h36q7 => kernel_rfl
  case h46q7 => exact fun _ _ _ h => h
  case hw6q7 => rfl
  case hy6q7 => ((intro w; go_simp); (try (with_reducible rfl)))
  try simp only [Act.put, List.setIfInBounds_toArray, List.set_cons_zero, List.set_cons_succ]
  refine wpAny_take (i := 7) (oi := ?oi7q8) (v := ?v7q8) ?h07q8 ?h17q8 ?h27q8 ?h37q8 ?h47q8 (Or.inl ⟨?hw7q8, ?hy7q8⟩) ?rest7q8
  case h07q8 => (simp only [List.getElem?_toArray, List.getElem?_cons_zero, List.getElem?_cons_succ]; rfl)
  case h17q8 => kernel_rfl
  case h27q8 => kernel_rfl
  case h37q8 => kernel_rfl
  case h47q8 => exact fun _ _ _ h => h
  case hw7q8 => rfl
  case hy7q8 => ((intro w; go_simp); (try (with_reducible rfl)))
  try simp only [Act.put, List.setIfInBounds_toArray, List.set_cons_zero, List.set_cons_succ]
  refine wpAny_take (i := 8) (oi := ?oi8q9) (v := ?v8q9) ?h08q9 ?h18q9 ?h28q9 ?h38q9 ?h48q9 (Or.inl ⟨?hw8q9, ?hy8q9⟩) ?rest8q9
  case h08q9 => (simp only [List.getElem?_toArray, List.getElem?_cons_zero, List.getElem?_cons_succ]; rfl)
  case h18q9 => kernel_rfl
  case h28q9 => kernel_rfl
  case h38q9 => kernel_rfl
  case h48q9 => exact fun _ _ _ h => h
  case hw8q9 => rfl
  case hy8q9 => ((intro w; go_simp); (try (with_reducible rfl)))
  try simp only [Act.put, List.setIfInBounds_toArray, List.set_cons_zero, List.set_cons_succ]
  refine wpAny_take (i := 14) (oi := ?oi14q10) (v := ?v14q10) ?h014q10 ?h114q10 ?h214q10 ?h314q10 ?h414q10 (Or.inl ⟨?hw14q10, ?hy14q10⟩) ?rest14q10
  case h014q10 => (simp only [List.getElem?_toArray, List.getElem?_cons_zero, List.getElem?_cons_succ]; rfl)
  case h114q10 => kernel_rfl
  case h214q10 => kernel_rfl
  case h314q10 => kernel_rfl
  case h414q10 => exact fun _ _ _ h => h
  case hw14q10 => rfl
  case hy14q10 => ((intro w; go_simp); (try (with_reducible rfl)))
  try simp only [Act.put, List.setIfInBounds_toArray, List.set_cons_zero, List.set_cons_succ]
  refine wpAny_ready (rs := [9]) (by kernel_rfl) (by simp) ?_
  refine AllReady.cons (o := ?oi9q11) ?h09q11 (fun K hK => ?_) AllReady.nil
  case h09q11 => (simp only [List.getElem?_toArray, List.getElem?_cons_zero, List.getElem?_cons_succ]; rfl)
  go_simp
  refine hK _ _ ?_
  clear hK K
  try simp only [Act.put, List.setIfInBounds_toArray, List.set_cons_zero, List.set_cons_succ]
  have hb0 : ((wx.alloc (.map #[] 0)).drew).heap[wx.heap.size]? = some (.map #[] 0) := (MapKept.heap_alloc wx _).1
  refine wpAny_ready (rs := [10, 11, 12]) (by kernel_rfl) (by simp) ?_
  refine AllReady.cons (o := ?oi10q12) ?h010q12 (fun K hK => ?step10q12) ?more10q12
  case h010q12 => (simp only [List.getElem?_toArray, List.getElem?_cons_zero, List.getElem?_cons_succ]; rfl)
  case step10q12 =>
    obtain ⟨W1, r1, hb1, b1⟩ := put_new _ _ _ _ _ _ _ 0 (.string ⟨#[98]⟩) Tryz.underlying36 Tryz.underlying3 hb0 rfl
    go_simp
    refine hK _ _ ?_
    clear hK K
    try simp only [Act.put, List.setIfInBounds_toArray, List.set_cons_zero, List.set_cons_succ]
    refine wpAny_ready (rs := [11, 12]) (by kernel_rfl) (by simp) ?_
    refine AllReady.cons (o := ?oi11q13) ?h011q13 (fun K hK => ?step11q13) ?more11q13
    case h011q13 => (simp only [List.getElem?_toArray, List.getElem?_cons_zero, List.getElem?_cons_succ]; rfl)
    case step11q13 =>
      obtain ⟨W2, r2, hb2, b2⟩ := put_new W1 _ _ _ _ _ _ 1 (.string ⟨#[114]⟩) Tryz.underlying36 Tryz.underlying3 hb1 rfl
      go_simp
      refine hK _ _ ?_
      clear hK K
      try simp only [Act.put, List.setIfInBounds_toArray, List.set_cons_zero, List.set_cons_succ]
      refine wpAny_ready (rs := [12]) (by kernel_rfl) (by simp) ?_
      refine AllReady.cons (o := ?oi12q14) ?h012q14 (fun K hK => ?step12q14) ?more12q14
      case h012q14 => (simp only [List.getElem?_toArray, List.getElem?_cons_zero, List.getElem?_cons_succ]; rfl)
      case step12q14 =>
        obtain ⟨W3, r3, hb3, b3⟩ := put_new W2 _ _ _ _ _ _ 2 (.string ⟨#[115]⟩) Tryz.underlying36 Tryz.underlying3 hb2 rfl
        go_simp
        refine hK _ _ ?_
        clear hK K
        try simp only [Act.put, List.setIfInBounds_toArray, List.set_cons_zero, List.set_cons_succ]
        refine wpAny_take (i := 13) (oi := ?oi13q15) (v := ?v13q15) ?h013q15 ?h113q15 ?h213q15 ?h313q15 ?h413q15 (Or.inl ⟨?hw13q15, ?hy13q15⟩) ?rest13q15
        case h013q15 => (simp only [List.getElem?_toArray, List.getElem?_cons_zero, List.getElem?_cons_succ]; rfl)
        case h113q15 => kernel_rfl
        case h213q15 => kernel_rfl
        case h313q15 => kernel_rfl
        case h413q15 => exact fun _ _ _ h => h
        case hw13q15 => rfl
        case hy13q15 => ((intro w; go_simp); (try (with_reducible rfl)))
        try simp only [Act.put, List.setIfInBounds_toArray, List.set_cons_zero, List.set_cons_succ]
        have hlk := look_map W3 _ _ _ _ _ _ 0 _ _ Tryz.underlying36 Tryz.underlying3 hb3 (show _ = some (some (0, .string ⟨#[98]⟩)) from rfl)
        refine wpAny_ready (rs := [15]) (by kernel_rfl) (by simp) ?_
        refine AllReady.cons (o := ?oi15q16) ?h015q16 (fun K hK => ?_) AllReady.nil
        case h015q16 => (simp only [List.getElem?_toArray, List.getElem?_cons_zero, List.getElem?_cons_succ]; rfl)
        go_simp
        refine hK _ _ ?_
        clear hK K
        try simp only [Act.put, List.setIfInBounds_toArray, List.set_cons_zero, List.set_cons_succ]
        refine wpAny_take (i := 16) (oi := ?oi16q17) (v := ?v16q17) ?h016q17 ?h116q17 ?h216q17 ?h316q17 ?h416q17 (Or.inl ⟨?hw16q17, ?hy16q17⟩) ?rest16q17
        case h016q17 => (simp only [List.getElem?_toArray, List.getElem?_cons_zero, List.getElem?_cons_succ]; rfl)
        case h116q17 => kernel_rfl
        case h216q17 => kernel_rfl
        case h316q17 => kernel_rfl
        case h416q17 => exact fun _ _ _ h => h
        case hw16q17 => rfl
        case hy16q17 => ((intro w; go_simp); (try (with_reducible rfl)))
        try simp only [Act.put, List.setIfInBounds_toArray, List.set_cons_zero, List.set_cons_succ]
        refine wpAny_take (i := 17) (oi := ?oi17q18) (v := ?v17q18) ?h017q18 ?h117q18 ?h217q18 ?h317q18 ?h417q18 (Or.inl ⟨?hw17q18, ?hy17q18⟩) ?rest17q18
        case h017q18 => (simp only [List.getElem?_toArray, List.getElem?_cons_zero, List.getElem?_cons_succ]; rfl)
        case h117q18 => kernel_rfl
        case h217q18 => kernel_rfl
        case h317q18 => kernel_rfl
        case h417q18 => exact fun _ _ _ h => h
        case hw17q18 => rfl
        case hy17q18 => ((intro w; go_simp); (try (with_reducible rfl)))
        try simp only [Act.put, List.setIfInBounds_toArray, List.set_cons_zero, List.set_cons_succ]
        refine wpAny_done (by kernel_rfl) ?_ _
        have hsz := B2.out.size
        have BW := hide ((((B2.out.alloc B2.out.size (.map #[] 0)).drew.trans (b1 _ hsz)).trans (b2 _ hsz)).trans (b3 _ hsz))
        clear r1 r2 r3 b1 b2 b3 hb0 hb1 hb2 hb3 hlk hsz
        go_wp2_with fail
        refine (P.out _ (G.out.below BW.out)).mono ?_
        rintro e wz ⟨rfl, hb⟩
        have Bz := hide (BW.out.trans (hb.mono BW.out.size))
        clear hb
        go_wp2
        go_ret
        exact ⟨rfl, Bz.out⟩
      exact AllReady.nil
    refine AllReady.cons (o := ?oi12q19) ?h012q19 (fun K hK => ?step12q19) ?more12q19
    case h012q19 => (simp only [List.getElem?_toArray, List.getElem?_cons_zero, List.getElem?_cons_succ]; rfl)
    case step12q19 =>
      obtain ⟨W2, r2, hb2, b2⟩ := put_new W1 _ _ _ _ _ _ 2 (.string ⟨#[115]⟩) Tryz.underlying36 Tryz.underlying3 hb1 rfl
      go_simp
      refine hK _ _ ?_
      clear hK K
      try simp only [Act.put, List.setIfInBounds_toArray, List.set_cons_zero, List.set_cons_succ]
      refine wpAny_ready (rs := [11]) (by kernel_rfl) (by simp) ?_
      refine AllReady.cons (o := ?oi11q20) ?h011q20 (fun K hK => ?step11q20) ?more11q20
      case h011q20 => (simp only [List.getElem?_toArray, List.getElem?_cons_zero, List.getElem?_cons_succ]; rfl)
      case step11q20 =>
        obtain ⟨W3, r3, hb3, b3⟩ := put_new W2 _ _ _ _ _ _ 1 (.string ⟨#[114]⟩) Tryz.underlying36 Tryz.underlying3 hb2 rfl
        go_simp
        refine hK _ _ ?_
        clear hK K
        try simp only [Act.put, List.setIfInBounds_toArray, List.set_cons_zero, List.set_cons_succ]
        refine wpAny_take (i := 13) (oi := ?oi13q21) (v := ?v13q21) ?h013q21 ?h113q21 ?h213q21 ?h313q21 ?h413q21 (Or.inl ⟨?hw13q21, ?hy13q21⟩) ?rest13q21
        case h013q21 => (simp only [List.getElem?_toArray, List.getElem?_cons_zero, List.getElem?_cons_succ]; rfl)
        case h113q21 => kernel_rfl
        case h213q21 => kernel_rfl
        case h313q21 => kernel_rfl
        case h413q21 => exact fun _ _ _ h => h
        case hw13q21 => rfl
        case hy13q21 => ((intro w; go_simp); (try (with_reducible rfl)))
        try simp only [Act.put, List.setIfInBounds_toArray, List.set_cons_zero, List.set_cons_succ]
        have hlk := look_map W3 _ _ _ _ _ _ 0 _ _ Tryz.underlying36 Tryz.underlying3 hb3 (show _ = some (some (0, .string ⟨#[98]⟩)) from rfl)
        refine wpAny_ready (rs := [15]) (by kernel_rfl) (by simp) ?_
        refine AllReady.cons (o := ?oi15q22) ?h015q22 (fun K hK => ?_) AllReady.nil
        case h015q22 => (simp only [List.getElem?_toArray, List.getElem?_cons_zero, List.getElem?_cons_succ]; rfl)
        go_simp
        refine hK _ _ ?_
        clear hK K
        try simp only [Act.put, List.setIfInBounds_toArray, List.set_cons_zero, List.set_cons_succ]
        refine wpAny_take (i := 16) (oi := ?oi16q23) (v := ?v16q23) ?h016q23 ?h116q23 ?h216q23 ?h316q23 ?h416q23 (Or.inl ⟨?hw16q23, ?hy16q23⟩) ?rest16q23
        case h016q23 => (simp only [List.getElem?_toArray, List.getElem?_cons_zero, List.getElem?_cons_succ]; rfl)
        case h116q23 => kernel_rfl
        case h216q23 => kernel_rfl
        case h316q23 => kernel_rfl
        case h416q23 => exact fun _ _ _ h => h
        case hw16q23 => rfl
        case hy16q23 => ((intro w; go_simp); (try (with_reducible rfl)))
        try simp only [Act.put, List.setIfInBounds_toArray, List.set_cons_zero, List.set_cons_succ]
        refine wpAny_take (i := 17) (oi := ?oi17q24) (v := ?v17q24) ?h017q24 ?h117q24 ?h217q24 ?h317q24 ?h417q24 (Or.inl ⟨?hw17q24, ?hy17q24⟩) ?rest17q24
        case h017q24 => (simp only [List.getElem?_toArray, List.getElem?_cons_zero, List.getElem?_cons_succ]; rfl)
        case h117q24 => kernel_rfl
        case h217q24 => kernel_rfl
        case h317q24 => kernel_rfl
        case h417q24 => exact fun _ _ _ h => h
        case hw17q24 => rfl
        case hy17q24 => ((intro w; go_simp); (try (with_reducible rfl)))
        try simp only [Act.put, List.setIfInBounds_toArray, List.set_cons_zero, List.set_cons_succ]
        refine wpAny_done (by kernel_rfl) ?_ _
        have hsz := B2.out.size
        have BW := hide ((((B2.out.alloc B2.out.size (.map #[] 0)).drew.trans (b1 _ hsz)).trans (b2 _ hsz)).trans (b3 _ hsz))
        clear r1 r2 r3 b1 b2 b3 hb0 hb1 hb2 hb3 hlk hsz
        go_wp2_with fail
        refine (P.out _ (G.out.below BW.out)).mono ?_
        rintro e wz ⟨rfl, hb⟩
        have Bz := hide (BW.out.trans (hb.mono BW.out.size))
        clear hb
        go_wp2
        go_ret
        exact ⟨rfl, Bz.out⟩
      exact AllReady.nil
    exact AllReady.nil
  refine AllReady.cons (o := ?oi11q25) ?h011q25 (fun K hK => ?step11q25) ?more11q25
  case h011q25 => (simp only [List.getElem?_toArray, List.getElem?_cons_zero, List.getElem?_cons_succ]; rfl)
  case step11q25 =>
    obtain ⟨W1, r1, hb1, b1⟩ := put_new _ _ _ _ _ _ _ 1 (.string ⟨#[114]⟩) Tryz.underlying36 Tryz.underlying3 hb0 rfl
    go_simp
    refine hK _ _ ?_
    clear hK K
    try simp only [Act.put, List.setIfInBounds_toArray, List.set_cons_zero, List.set_cons_succ]
    refine wpAny_ready (rs := [10, 12]) (by kernel_rfl) (by simp) ?_
    refine AllReady.cons (o := ?oi10q26) ?h010q26 (fun K hK => ?step10q26) ?more10q26
    case h010q26 => (simp only [List.getElem?_toArray, List.getElem?_cons_zero, List.getElem?_cons_succ]; rfl)
    case step10q26 =>
      obtain ⟨W2, r2, hb2, b2⟩ := put_new W1 _ _ _ _ _ _ 0 (.string ⟨#[98]⟩) Tryz.underlying36 Tryz.underlying3 hb1 rfl
      go_simp
      refine hK _ _ ?_
      clear hK K
      try simp only [Act.put, List.setIfInBounds_toArray, List.set_cons_zero, List.set_cons_succ]
      refine wpAny_ready (rs := [12]) (by kernel_rfl) (by simp) ?_
      refine AllReady.cons (o := ?oi12q27) ?h012q27 (fun K hK => ?step12q27) ?more12q27
      case h012q27 => (simp only [List.getElem?_toArray, List.getElem?_cons_zero, List.getElem?_cons_succ]; rfl)
      case step12q27 =>
        obtain ⟨W3, r3, hb3, b3⟩ := put_new W2 _ _ _ _ _ _ 2 (.string ⟨#[115]⟩) Tryz.underlying36 Tryz.underlying3 hb2 rfl
        go_simp
        refine hK _ _ ?_
        clear hK K
        try simp only [Act.put, List.setIfInBounds_toArray, List.set_cons_zero, List.set_cons_succ]
        refine wpAny_take (i := 13) (oi := ?oi13q28) (v := ?v13q28) ?h013q28 ?h113q28 ?h213q28 ?h313q28 ?h413q28 (Or.inl ⟨?hw13q28, ?hy13q28⟩) ?rest13q28
        case h013q28 => (simp only [List.getElem?_toArray, List.getElem?_cons_zero, List.getElem?_cons_succ]; rfl)
        case h113q28 => kernel_rfl
        case h213q28 => kernel_rfl
        case h313q28 => kernel_rfl
        case h413q28 => exact fun _ _ _ h => h
        case hw13q28 => rfl
        case hy13q28 => ((intro w; go_simp); (try (with_reducible rfl)))
        try simp only [Act.put, List.setIfInBounds_toArray, List.set_cons_zero, List.set_cons_succ]
        have hlk := look_map W3 _ _ _ _ _ _ 0 _ _ Tryz.underlying36 Tryz.underlying3 hb3 (show _ = some (some (1, .string ⟨#[98]⟩)) from rfl)
        refine wpAny_ready (rs := [15]) (by kernel_rfl) (by simp) ?_
        refine AllReady.cons (o := ?oi15q29) ?h015q29 (fun K hK => ?_) AllReady.nil
        case h015q29 => (simp only [List.getElem?_toArray, List.getElem?_cons_zero, List.getElem?_cons_succ]; rfl)
        go_simp
        refine hK _ _ ?_
        clear hK K
        try simp only [Act.put, List.setIfInBounds_toArray, List.set_cons_zero, List.set_cons_succ]
        refine wpAny_take (i := 16) (oi := ?oi16q30) (v := ?v16q30) ?h016q30 ?h116q30 ?h216q30 ?h316q30 ?h416q30 (Or.inl ⟨?hw16q30, ?hy16q30⟩) ?rest16q30
        case h016q30 => (simp only [List.getElem?_toArray, List.getElem?_cons_zero, List.getElem?_cons_succ]; rfl)
        case h116q30 => kernel_rfl
        case h216q30 => kernel_rfl
        case h316q30 => kernel_rfl
        case h416q30 => exact fun _ _ _ h => h
        case hw16q30 => rfl
        case hy16q30 => ((intro w; go_simp); (try (with_reducible rfl)))
        try simp only [Act.put, List.setIfInBounds_toArray, List.set_cons_zero, List.set_cons_succ]
        refine wpAny_take (i := 17) (oi := ?oi17q31) (v := ?v17q31) ?h017q31 ?h117q31 ?h217q31 ?h317q31 ?h417q31 (Or.inl ⟨?hw17q31, ?hy17q31⟩) ?rest17q31
        case h017q31 => (simp only [List.getElem?_toArray, List.getElem?_cons_zero, List.getElem?_cons_succ]; rfl)
        case h117q31 => kernel_rfl
        case h217q31 => kernel_rfl
        case h317q31 => kernel_rfl
        case h417q31 => exact fun _ _ _ h => h
        case hw17q31 => rfl
        case hy17q31 => ((intro w; go_simp); (try (with_reducible rfl)))
        try simp only [Act.put, List.setIfInBounds_toArray, List.set_cons_zero, List.set_cons_succ]
        refine wpAny_done (by kernel_rfl) ?_ _
        have hsz := B2.out.size
        have BW := hide ((((B2.out.alloc B2.out.size (.map #[] 0)).drew.trans (b1 _ hsz)).trans (b2 _ hsz)).trans (b3 _ hsz))
        clear r1 r2 r3 b1 b2 b3 hb0 hb1 hb2 hb3 hlk hsz
        go_wp2_with fail
        refine (P.out _ (G.out.below BW.out)).mono ?_
        rintro e wz ⟨rfl, hb⟩
        have Bz := hide (BW.out.trans (hb.mono BW.out.size))
        clear hb
        go_wp2
        go_ret
        exact ⟨rfl, Bz.out⟩
      exact AllReady.nil
    refine AllReady.cons (o := ?oi12q32) ?h012q32 (fun K hK => ?step12q32) ?more12q32
    case h012q32 => (simp only [List.getElem?_toArray, List.getElem?_cons_zero, List.getElem?_cons_succ]; rfl)
    case step12q32 =>
      obtain ⟨W2, r2, hb2, b2⟩ := put_new W1 _ _ _ _ _ _ 2 (.string ⟨#[115]⟩) Tryz.underlying36 Tryz.underlying3 hb1 rfl
      go_simp
      refine hK _ _ ?_
      clear hK K
      try simp only [Act.put, List.setIfInBounds_toArray, List.set_cons_zero, List.set_cons_succ]
      refine wpAny_ready (rs := [10]) (by kernel_rfl) (by simp) ?_
      refine AllReady.cons (o := ?oi10q33) ?h010q33 (fun K hK => ?step10q33) ?more10q33
      case h010q33 => (simp only [List.getElem?_toArray, List.getElem?_cons_zero, List.getElem?_cons_succ]; rfl)
      case step10q33 =>
        obtain ⟨W3, r3, hb3, b3⟩ := put_new W2 _ _ _ _ _ _ 0 (.string ⟨#[98]⟩) Tryz.underlying36 Tryz.underlying3 hb2 rfl
        go_simp
        refine hK _ _ ?_
        clear hK K
        try simp only [Act.put, List.setIfInBounds_toArray, List.set_cons_zero, List.set_cons_succ]
        refine wpAny_take (i := 13) (oi := ?oi13q34) (v := ?v13q34) ?h013q34 ?h113q34 ?h213q34 ?h313q34 ?h413q34 (Or.inl ⟨?hw13q34, ?hy13q34⟩) ?rest13q34
        case h013q34 => (simp only [List.getElem?_toArray, List.getElem?_cons_zero, List.getElem?_cons_succ]; rfl)
        case h113q34 => kernel_rfl
        case h213q34 => kernel_rfl
        case h313q34 => kernel_rfl
        case h413q34 => exact fun _ _ _ h => h
        case hw13q34 => rfl
        case hy13q34 => ((intro w; go_simp); (try (with_reducible rfl)))
        try simp only [Act.put, List.setIfInBounds_toArray, List.set_cons_zero, List.set_cons_succ]
        have hlk := look_map W3 _ _ _ _ _ _ 0 _ _ Tryz.underlying36 Tryz.underlying3 hb3 (show _ = some (some (2, .string ⟨#[98]⟩)) from rfl)
        refine wpAny_ready (rs := [15]) (by kernel_rfl) (by simp) ?_
        refine AllReady.cons (o := ?oi15q35) ?h015q35 (fun K hK => ?_) AllReady.nil
        case h015q35 => (simp only [List.getElem?_toArray, List.getElem?_cons_zero, List.getElem?_cons_succ]; rfl)
        go_simp
        refine hK _ _ ?_
        clear hK K
        try simp only [Act.put, List.setIfInBounds_toArray, List.set_cons_zero, List.set_cons_succ]
        refine wpAny_take (i := 16) (oi := ?oi16q36) (v := ?v16q36) ?h016q36 ?h116q36 ?h216q36 ?h316q36 ?h416q36 (Or.inl ⟨?hw16q36, ?hy16q36⟩) ?rest16q36
        case h016q36 => (simp only [List.getElem?_toArray, List.getElem?_cons_zero, List.getElem?_cons_succ]; rfl)
        case h116q36 => kernel_rfl
        case h216q36 => kernel_rfl
        case h316q36 => kernel_rfl
        case h416q36 => exact fun _ _ _ h => h
        case hw16q36 => rfl
        case hy16q36 => ((intro w; go_simp); (try (with_reducible rfl)))
        try simp only [Act.put, List.setIfInBounds_toArray, List.set_cons_zero, List.set_cons_succ]
        refine wpAny_take (i := 17) (oi := ?oi17q37) (v := ?v17q37) ?h017q37 ?h117q37 ?h217q37 ?h317q37 ?h417q37 (Or.inl ⟨?hw17q37, ?hy17q37⟩) ?rest17q37
        case h017q37 => (simp only [List.getElem?_toArray, List.getElem?_cons_zero, List.getElem?_cons_succ]; rfl)
        case h117q37 => kernel_rfl
        case h217q37 => kernel_rfl
        case h317q37 => kernel_rfl
        case h417q37 => exact fun _ _ _ h => h
        case hw17q37 => rfl
        case hy17q37 => ((intro w; go_simp); (try (with_reducible rfl)))
        try simp only [Act.put, List.setIfInBounds_toArray, List.set_cons_zero, List.set_cons_succ]
        refine wpAny_done (by kernel_rfl) ?_ _
        have hsz := B2.out.size
        have BW := hide ((((B2.out.alloc B2.out.size (.map #[] 0)).drew.trans (b1 _ hsz)).trans (b2 _ hsz)).trans (b3 _ hsz))
        clear r1 r2 r3 b1 b2 b3 hb0 hb1 hb2 hb3 hlk hsz
        go_wp2_with fail
        refine (P.out _ (G.out.below BW.out)).mono ?_
        rintro e wz ⟨rfl, hb⟩
        have Bz := hide (BW.out.trans (hb.mono BW.out.size))
        clear hb
        go_wp2
        go_ret
        exact ⟨rfl, Bz.out⟩
      exact AllReady.nil
    exact AllReady.nil
  refine AllReady.cons (o := ?oi12q38) ?h012q38 (fun K hK => ?step12q38) ?more12q38
  case h012q38 => (simp only [List.getElem?_toArray, List.getElem?_cons_zero, List.getElem?_cons_succ]; rfl)
  case step12q38 =>
    obtain ⟨W1, r1, hb1, b1⟩ := put_new _ _ _ _ _ _ _ 2 (.string ⟨#[115]⟩) Tryz.underlying36 Tryz.underlying3 hb0 rfl
    go_simp
    refine hK _ _ ?_
    clear hK K
    try simp only [Act.put, List.setIfInBounds_toArray, List.set_cons_zero, List.set_cons_succ]
    refine wpAny_ready (rs := [10, 11]) (by kernel_rfl) (by simp) ?_
    refine AllReady.cons (o := ?oi10q39) ?h010q39 (fun K hK => ?step10q39) ?more10q39
    case h010q39 => (simp only [List.getElem?_toArray, List.getElem?_cons_zero, List.getElem?_cons_succ]; rfl)
    case step10q39 =>
      obtain ⟨W2, r2, hb2, b2⟩ := put_new W1 _ _ _ _ _ _ 0 (.string ⟨#[98]⟩) Tryz.underlying36 Tryz.underlying3 hb1 rfl
      go_simp
      refine hK _ _ ?_
      clear hK K
      try simp only [Act.put, List.setIfInBounds_toArray, List.set_cons_zero, List.set_cons_succ]
      refine wpAny_ready (rs := [11]) (by kernel_rfl) (by simp) ?_
      refine AllReady.cons (o := ?oi11q40) ?h011q40 (fun K hK => ?step11q40) ?more11q40
      case h011q40 => (simp only [List.getElem?_toArray, List.getElem?_cons_zero, List.getElem?_cons_succ]; rfl)
      case step11q40 =>
        obtain ⟨W3, r3, hb3, b3⟩ := put_new W2 _ _ _ _ _ _ 1 (.string ⟨#[114]⟩) Tryz.underlying36 Tryz.underlying3 hb2 rfl
        go_simp
        refine hK _ _ ?_
        clear hK K
        try simp only [Act.put, List.setIfInBounds_toArray, List.set_cons_zero, List.set_cons_succ]
        refine wpAny_take (i := 13) (oi := ?oi13q41) (v := ?v13q41) ?h013q41 ?h113q41 ?h213q41 ?h313q41 ?h413q41 (Or.inl ⟨?hw13q41, ?hy13q41⟩) ?rest13q41
        case h013q41 => (simp only [List.getElem?_toArray, List.getElem?_cons_zero, List.getElem?_cons_succ]; rfl)
        case h113q41 => kernel_rfl
        case h213q41 => kernel_rfl
        case h313q41 => kernel_rfl
        case h413q41 => exact fun _ _ _ h => h
        case hw13q41 => rfl
        case hy13q41 => ((intro w; go_simp); (try (with_reducible rfl)))
        try simp only [Act.put, List.setIfInBounds_toArray, List.set_cons_zero, List.set_cons_succ]
        have hlk := look_map W3 _ _ _ _ _ _ 0 _ _ Tryz.underlying36 Tryz.underlying3 hb3 (show _ = some (some (1, .string ⟨#[98]⟩)) from rfl)
        refine wpAny_ready (rs := [15]) (by kernel_rfl) (by simp) ?_
        refine AllReady.cons (o := ?oi15q42) ?h015q42 (fun K hK => ?_) AllReady.nil
        case h015q42 => (simp only [List.getElem?_toArray, List.getElem?_cons_zero, List.getElem?_cons_succ]; rfl)
        go_simp
        refine hK _ _ ?_
        clear hK K
        try simp only [Act.put, List.setIfInBounds_toArray, List.set_cons_zero, List.set_cons_succ]
        refine wpAny_take (i := 16) (oi := ?oi16q43) (v := ?v16q43) ?h016q43 ?h116q43 ?h216q43 ?h316q43 ?h416q43 (Or.inl ⟨?hw16q43, ?hy16q43⟩) ?rest16q43
        case h016q43 => (simp only [List.getElem?_toArray, List.getElem?_cons_zero, List.getElem?_cons_succ]; rfl)
        case h116q43 => kernel_rfl
        case h216q43 => kernel_rfl
        case h316q43 => kernel_rfl
        case h416q43 => exact fun _ _ _ h => h
        case hw16q43 => rfl
        case hy16q43 => ((intro w; go_simp); (try (with_reducible rfl)))
        try simp only [Act.put, List.setIfInBounds_toArray, List.set_cons_zero, List.set_cons_succ]
        refine wpAny_take (i := 17) (oi := ?oi17q44) (v := ?v17q44) ?h017q44 ?h117q44 ?h217q44 ?h317q44 ?h417q44 (Or.inl ⟨?hw17q44, ?hy17q44⟩) ?rest17q44
        case h017q44 => (simp only [List.getElem?_toArray, List.getElem?_cons_zero, List.getElem?_cons_succ]; rfl)
        case h117q44 => kernel_rfl
        case h217q44 => kernel_rfl
        case h317q44 => kernel_rfl
        case h417q44 => exact fun _ _ _ h => h
        case hw17q44 => rfl
        case hy17q44 => ((intro w; go_simp); (try (with_reducible rfl)))
        try simp only [Act.put, List.setIfInBounds_toArray, List.set_cons_zero, List.set_cons_succ]
        refine wpAny_done (by kernel_rfl) ?_ _
        have hsz := B2.out.size
        have BW := hide ((((B2.out.alloc B2.out.size (.map #[] 0)).drew.trans (b1 _ hsz)).trans (b2 _ hsz)).trans (b3 _ hsz))
        clear r1 r2 r3 b1 b2 b3 hb0 hb1 hb2 hb3 hlk hsz
        go_wp2_with fail
        refine (P.out _ (G.out.below BW.out)).mono ?_
        rintro e wz ⟨rfl, hb⟩
        have Bz := hide (BW.out.trans (hb.mono BW.out.size))
        clear hb
        go_wp2
        go_ret
        exact ⟨rfl, Bz.out⟩
      exact AllReady.nil
    refine AllReady.cons (o := ?oi11q45) ?h011q45 (fun K hK => ?step11q45) ?more11q45
    case h011q45 => (simp only [List.getElem?_toArray, List.getElem?_cons_zero, List.getElem?_cons_succ]; rfl)
    case step11q45 =>
      obtain ⟨W2, r2, hb2, b2⟩ := put_new W1 _ _ _ _ _ _ 1 (.string ⟨#[114]⟩) Tryz.underlying36 Tryz.underlying3 hb1 rfl
      go_simp
      refine hK _ _ ?_
      clear hK K
      try simp only [Act.put, List.setIfInBounds_toArray, List.set_cons_zero, List.set_cons_succ]
      refine wpAny_ready (rs := [10]) (by kernel_rfl) (by simp) ?_
      refine AllReady.cons (o := ?oi10q46) ?h010q46 (fun K hK => ?step10q46) ?more10q46
      case h010q46 => (simp only [List.getElem?_toArray, List.getElem?_cons_zero, List.getElem?_cons_succ]; rfl)
      case step10q46 =>
        obtain ⟨W3, r3, hb3, b3⟩ := put_new W2 _ _ _ _ _ _ 0 (.string ⟨#[98]⟩) Tryz.underlying36 Tryz.underlying3 hb2 rfl
        go_simp
        refine hK _ _ ?_
        clear hK K
        try simp only [Act.put, List.setIfInBounds_toArray, List.set_cons_zero, List.set_cons_succ]
        refine wpAny_take (i := 13) (oi := ?oi13q47) (v := ?v13q47) ?h013q47 ?h113q47 ?h213q47 ?h313q47 ?h413q47 (Or.inl ⟨?hw13q47, ?hy13q47⟩) ?rest13q47
        case h013q47 => (simp only [List.getElem?_toArray, List.getElem?_cons_zero, List.getElem?_cons_succ]; rfl)
        case h113q47 => kernel_rfl
        case h213q47 => kernel_rfl
        case h313q47 => kernel_rfl
        case h413q47 => exact fun _ _ _ h => h
        case hw13q47 => rfl
        case hy13q47 => ((intro w; go_simp); (try (with_reducible rfl)))
        try simp only [Act.put, List.setIfInBounds_toArray, List.set_cons_zero, List.set_cons_succ]
        have hlk := look_map W3 _ _ _ _ _ _ 0 _ _ Tryz.underlying36 Tryz.underlying3 hb3 (show _ = some (some (2, .string ⟨#[98]⟩)) from rfl)
        refine wpAny_ready (rs := [15]) (by kernel_rfl) (by simp) ?_
        refine AllReady.cons (o := ?oi15q48) ?h015q48 (fun K hK => ?_) AllReady.nil
        case h015q48 => (simp only [List.getElem?_toArray, List.getElem?_cons_zero, List.getElem?_cons_succ]; rfl)
        go_simp
        refine hK _ _ ?_
        clear hK K
        try simp only [Act.put, List.setIfInBounds_toArray, List.set_cons_zero, List.set_cons_succ]
        refine wpAny_take (i := 16) (oi := ?oi16q49) (v := ?v16q49) ?h016q49 ?h116q49 ?h216q49 ?h316q49 ?h416q49 (Or.inl ⟨?hw16q49, ?hy16q49⟩) ?rest16q49
        case h016q49 => (simp only [List.getElem?_toArray, List.getElem?_cons_zero, List.getElem?_cons_succ]; rfl)
        case h116q49 => kernel_rfl
        case h216q49 => kernel_rfl
        case h316q49 => kernel_rfl
        case h416q49 => exact fun _ _ _ h => h
        case hw16q49 => rfl
        case hy16q49 => ((intro w; go_simp); (try (with_reducible rfl)))
        try simp only [Act.put, List.setIfInBounds_toArray, List.set_cons_zero, List.set_cons_succ]
        refine wpAny_take (i := 17) (oi := ?oi17q50) (v := ?v17q50) ?h017q50 ?h117q50 ?h217q50 ?h317q50 ?h417q50 (Or.inl ⟨?hw17q50, ?hy17q50⟩) ?rest17q50
        case h017q50 => (simp only [List.getElem?_toArray, List.getElem?_cons_zero, List.getElem?_cons_succ]; rfl)
        case h117q50 => kernel_rfl
        case h217q50 => kernel_rfl
        case h317q50 => kernel_rfl
        case h417q50 => exact fun _ _ _ h => h
        case hw17q50 => rfl
        case hy17q50 => ((intro w; go_simp); (try (with_reducible rfl)))
        try simp only [Act.put, List.setIfInBounds_toArray, List.set_cons_zero, List.set_cons_succ]
        refine wpAny_done (by kernel_rfl) ?_ _
        have hsz := B2.out.size
        have BW := hide ((((B2.out.alloc B2.out.size (.map #[] 0)).drew.trans (b1 _ hsz)).trans (b2 _ hsz)).trans (b3 _ hsz))
        clear r1 r2 r3 b1 b2 b3 hb0 hb1 hb2 hb3 hlk hsz
        go_wp2_with fail
        refine (P.out _ (G.out.below BW.out)).mono ?_
        rintro e wz ⟨rfl, hb⟩
        have Bz := hide (BW.out.trans (hb.mono BW.out.size))
        clear hb
        go_wp2
        go_ret
        exact ⟨rfl, Bz.out⟩
      exact AllReady.nil
    exact AllReady.nil
  exact AllReady.nil

set_option maxRecDepth 20000 in
set_option maxHeartbeats 8000000 in
theorem long1 (l id : List UInt8) (w : World) (hg : Gl w) (hl : l.length ≤ 300) (hi : id.length ≤ 60) (hv : validN 1 0 l = true) (hco : codeV id = true)  :
    Calls Tryz.prog 5 #[.int .i64 1, .int .i64 0, .string (bsV l), .string (bsV id)] w fun e w' => e = .returned (.bool true) ∧ Below w.heap.size w w' := by
  have A := hide (awake_any w hg)
  have G := hide hg
  have z1 := bs_size l
  have z2 := bs_size id
  have hs1 : ((300 : Int) < (l.length : Int)) = False := by simp; omega
  have hs2 : ((60 : Int) < (id.length : Int)) = False := by simp; omega
  have C := hide (fun (W : World) (h : Gl W) => Command_any 1 0 l id W (by omega) (by omega) h)
  have hc : commandN 1 0 l id = (114 :: formatN 1 0 l ++ [32]) ++ id := by
    unfold commandN formatN
    rw [hv, hco, if_pos (by rfl), if_neg (by omega), if_pos rfl]; rfl
  have hfl := formatN_len 1 0 l
  have P := hide (fun (W : World) (h : Gl W) => Parse_any 1 0 (formatN 1 0 l) W (by omega) h)
  rw [back_N 1 0 l hv] at P
  rw [hc] at C
  generalize formatN 1 0 l = T at *
  have K1 := hide (fun W : World => cutS (114 :: T ++ [32]) id (by simp only [List.length_append, List.length_cons, List.length_nil]; omega) W)
  have K2 := hide (fun W : World => cutS (114 :: T) [32] (by simp only [List.length_append, List.length_cons, List.length_nil]; omega) W)
  rw [show bsV [32] = (⟨#[32]⟩ : ByteArray) from rfl] at K2
  obtain ⟨e1, e2⟩ := ne_empty (l := 114 :: T ++ [32] ++ id) (fun h => codeV_ne hco (List.append_eq_nil_iff.1 h).2)
  obtain ⟨e3, e4⟩ := ne_empty (l := 114 :: T) (by simp)
  have x1 : (bsV (114 :: T)).extract 0 1 = ⟨#[114]⟩ := bs_take (114 :: T) 1
  have x2 : (bsV (114 :: T)).extract 1 (bsV (114 :: T)).size = bsV T := bs_drop (114 :: T) 1
  have z3 : (bsV (114 :: T)).size = T.length + 1 := bs_size (114 :: T)
  have z4 : (1 : Int) ≤ ((bsV (114 :: T)).size : Int) := by rw [z3]; omega
  generalize bsV (114 :: T ++ [32] ++ id) = X at *
  generalize bsV (114 :: T ++ [32]) = Y at *
  generalize bsV (114 :: T) = Z at *
  generalize bsV T = U at *
  have hvv : ((bsV l).toList == (bsV l).toList) = true := by simp
  have hmm := @run_makeMap Tryz.prog
  clear hc hv hg hfl hco z3
  have B0 := hide (Below.refl w.heap.size w)
  go_enter Tryz.func5, Tryz.ntmps5
  go_wp2_with fail
  refine (A.out).mono ?_
  rintro e w1 ⟨rfl, hb⟩
  have B1 := hide (B0.out.trans (hb.mono B0.out.size))
  clear hb
  go_wp2_with fail
  refine (C.out _ (G.out.below B1.out)).mono ?_
  rintro e w2 ⟨rfl, hb⟩
  have B2 := hide (B1.out.trans (hb.mono B1.out.size))
  clear hb
  go_wp2_with fail
  refine (K1.out _).mono ?_
  rintro e wx ⟨rfl, rfl⟩
  go_wp2_with fail
  refine (K2.out _).mono ?_
  rintro e wx ⟨rfl, rfl⟩
  go_upto_region 13 with fail
  refine wp_region_any (by kernel_rfl) ?_
  change wpAny _ _ _ _ _ _ _ (World.drew _)
  refine wpAny_take (i := 0) (oi := ?oi0q1) (v := ?v0q1) ?h00q1 ?h10q1 ?h20q1 ?h30q1 ?h40q1 (Or.inl ⟨?hw0q1, ?hy0q1⟩) ?rest0q1
  case h00q1 => (simp only [List.getElem?_toArray, List.getElem?_cons_zero, List.getElem?_cons_succ]; rfl)
  case h10q1 => kernel_rfl
  case h20q1 => kernel_rfl
  case h30q1 => kernel_rfl
  case h40q1 => exact fun _ _ _ h => h
  case hw0q1 => rfl
  case hy0q1 => ((intro w; go_simp); (try (with_reducible rfl)))
  try simp only [Act.put, List.setIfInBounds_toArray, List.set_cons_zero, List.set_cons_succ]
  refine wpAny_take (i := 1) (oi := ?oi1q2) (v := ?v1q2) ?h01q2 ?h11q2 ?h21q2 ?h31q2 ?h41q2 (Or.inl ⟨?hw1q2, ?hy1q2⟩) ?rest1q2
  case h01q2 => (simp only [List.getElem?_toArray, List.getElem?_cons_zero, List.getElem?_cons_succ]; rfl)
  case h11q2 => kernel_rfl
  case h21q2 => kernel_rfl
  case h31q2 => kernel_rfl
  case h41q2 => exact fun _ _ _ h => h
  case hw1q2 => rfl
  case hy1q2 => ((intro w; go_simp); (try (with_reducible rfl)))
  try simp only [Act.put, List.setIfInBounds_toArray, List.set_cons_zero, List.set_cons_succ]
  refine wpAny_take (i := 2) (oi := ?oi2q3) (v := ?v2q3) ?h02q3 ?h12q3 ?h22q3 ?h32q3 ?h42q3 (Or.inl ⟨?hw2q3, ?hy2q3⟩) ?rest2q3
  case h02q3 => (simp only [List.getElem?_toArray, List.getElem?_cons_zero, List.getElem?_cons_succ]; rfl)
  case h12q3 => kernel_rfl
  case h22q3 => kernel_rfl
  case h32q3 => kernel_rfl
  case h42q3 => exact fun _ _ _ h => h
  case hw2q3 => rfl
  case hy2q3 => ((intro w; go_simp); (try (with_reducible rfl)))
  try simp only [Act.put, List.setIfInBounds_toArray, List.set_cons_zero, List.set_cons_succ]
  refine wpAny_take (i := 3) (oi := ?oi3q4) (v := ?v3q4) ?h03q4 ?h13q4 ?h23q4 ?h33q4 ?h43q4 (Or.inl ⟨?hw3q4, ?hy3q4⟩) ?rest3q4
  case h03q4 => (simp only [List.getElem?_toArray, List.getElem?_cons_zero, List.getElem?_cons_succ]; rfl)
  case h13q4 => kernel_rfl
  case h23q4 => kernel_rfl
  case h33q4 => kernel_rfl
  case h43q4 => exact fun _ _ _ h => h
  case hw3q4 => rfl
  case hy3q4 => ((intro w; go_simp); (try (with_reducible rfl)))
  try simp only [Act.put, List.setIfInBounds_toArray, List.set_cons_zero, List.set_cons_succ]
  refine wpAny_take (i := 4) (oi := ?oi4q5) (v := ?v4q5) ?h04q5 ?h14q5 ?h24q5 ?h34q5 ?h44q5 (Or.inl ⟨?hw4q5, ?hy4q5⟩) ?rest4q5
  case h04q5 => (simp only [List.getElem?_toArray, List.getElem?_cons_zero, List.getElem?_cons_succ]; rfl)
  case h14q5 => kernel_rfl
  case h24q5 => kernel_rfl
  case h34q5 => kernel_rfl
  case h44q5 => exact fun _ _ _ h => h
  case hw4q5 => rfl
  case hy4q5 => ((intro w; go_simp); (try (with_reducible rfl)))
  try simp only [Act.put, List.setIfInBounds_toArray, List.set_cons_zero, List.set_cons_succ]
  refine wpAny_take (i := 5) (oi := ?oi5q6) (v := ?v5q6) ?h05q6 ?h15q6 ?h25q6 ?h35q6 ?h45q6 (Or.inl ⟨?hw5q6, ?hy5q6⟩) ?rest5q6
  case h05q6 => (simp only [List.getElem?_toArray, List.getElem?_cons_zero, List.getElem?_cons_succ]; rfl)
  case h15q6 => kernel_rfl
  case h25q6 => kernel_rfl
  case h35q6 => kernel_rfl
  case h45q6 => exact fun _ _ _ h => h
  case hw5q6 => rfl
  case hy5q6 => ((intro w; go_simp); (try (with_reducible rfl)))
  try simp only [Act.put, List.setIfInBounds_toArray, List.set_cons_zero, List.set_cons_succ]
  refine wpAny_take (i := 6) (oi := ?oi6q7) (v := ?v6q7) ?h06q7 ?h16q7 ?h26q7 ?h36q7 ?h46q7 (Or.inl ⟨?hw6q7, ?hy6q7⟩) ?rest6q7
  case h06q7 => (simp only [List.getElem?_toArray, List.getElem?_cons_zero, List.getElem?_cons_succ]; rfl)
  case h16q7 => kernel_rfl
  case h26q7 => kernel_rfl
  case h36q7 => kernel_rfl
  case h46q7 => exact fun _ _ _ h => h
  case hw6q7 => rfl
  case hy6q7 => ((intro w; go_simp); (try (with_reducible rfl)))
  try simp only [Act.put, List.setIfInBounds_toArray, List.set_cons_zero, List.set_cons_succ]
  refine wpAny_take (i := 7) (oi := ?oi7q8) (v := ?v7q8) ?h07q8 ?h17q8 ?h27q8 ?h37q8 ?h47q8 (Or.inl ⟨?hw7q8, ?hy7q8⟩) ?rest7q8
  case h07q8 => (simp only [List.getElem?_toArray, List.getElem?_cons_zero, List.getElem?_cons_succ]; rfl)
  case h17q8 => kernel_rfl
  case h27q8 => kernel_rfl
  case h37q8 => kernel_rfl
  case h47q8 => exact fun _ _ _ h => h
  case hw7q8 => rfl
  case hy7q8 => ((intro w; go_simp); (try (with_reducible rfl)))
  try simp only [Act.put, List.setIfInBounds_toArray, List.set_cons_zero, List.set_cons_succ]
  refine wpAny_take (i := 8) (oi := ?oi8q9) (v := ?v8q9) ?h08q9 ?h18q9 ?h28q9 ?h38q9 ?h48q9 (Or.inl ⟨?hw8q9, ?hy8q9⟩) ?rest8q9
  case h08q9 => (simp only [List.getElem?_toArray, List.getElem?_cons_zero, List.getElem?_cons_succ]; rfl)
  case h18q9 => kernel_rfl
  case h28q9 => kernel_rfl
  case h38q9 => kernel_rfl
  case h48q9 => exact fun _ _ _ h => h
  case hw8q9 => rfl
  case hy8q9 => ((intro w; go_simp); (try (with_reducible rfl)))
  try simp only [Act.put, List.setIfInBounds_toArray, List.set_cons_zero, List.set_cons_succ]
  refine wpAny_take (i := 14) (oi := ?oi14q10) (v := ?v14q10) ?h014q10 ?h114q10 ?h214q10 ?h314q10 ?h414q10 (Or.inl ⟨?hw14q10, ?hy14q10⟩) ?rest14q10
  case h014q10 => (simp only [List.getElem?_toArray, List.getElem?_cons_zero, List.getElem?_cons_succ]; rfl)
  case h114q10 => kernel_rfl
  case h214q10 => kernel_rfl
  case h314q10 => kernel_rfl
  case h414q10 => exact fun _ _ _ h => h
  case hw14q10 => rfl
  case hy14q10 => ((intro w; go_simp); (try (with_reducible rfl)))
  try simp only [Act.put, List.setIfInBounds_toArray, List.set_cons_zero, List.set_cons_succ]
  refine wpAny_ready (rs := [9]) (by kernel_rfl) (by simp) ?_
  refine AllReady.cons (o := ?oi9q11) ?h09q11 (fun K hK => ?_) AllReady.nil
  case h09q11 => (simp only [List.getElem?_toArray, List.getElem?_cons_zero, List.getElem?_cons_succ]; rfl)
  go_simp
  refine hK _ _ ?_
  clear hK K
  try simp only [Act.put, List.setIfInBounds_toArray, List.set_cons_zero, List.set_cons_succ]
  have hb0 : ((wx.alloc (.map #[] 0)).drew).heap[wx.heap.size]? = some (.map #[] 0) := (MapKept.heap_alloc wx _).1
  refine wpAny_ready (rs := [10, 11, 12]) (by kernel_rfl) (by simp) ?_
  refine AllReady.cons (o := ?oi10q12) ?h010q12 (fun K hK => ?step10q12) ?more10q12
  case h010q12 => (simp only [List.getElem?_toArray, List.getElem?_cons_zero, List.getElem?_cons_succ]; rfl)
  case step10q12 =>
    obtain ⟨W1, r1, hb1, b1⟩ := put_new _ _ _ _ _ _ _ 0 (.string ⟨#[98]⟩) Tryz.underlying36 Tryz.underlying3 hb0 rfl
    go_simp
    refine hK _ _ ?_
    clear hK K
    try simp only [Act.put, List.setIfInBounds_toArray, List.set_cons_zero, List.set_cons_succ]
    refine wpAny_ready (rs := [11, 12]) (by kernel_rfl) (by simp) ?_
    refine AllReady.cons (o := ?oi11q13) ?h011q13 (fun K hK => ?step11q13) ?more11q13
    case h011q13 => (simp only [List.getElem?_toArray, List.getElem?_cons_zero, List.getElem?_cons_succ]; rfl)
    case step11q13 =>
      obtain ⟨W2, r2, hb2, b2⟩ := put_new W1 _ _ _ _ _ _ 1 (.string ⟨#[114]⟩) Tryz.underlying36 Tryz.underlying3 hb1 rfl
      go_simp
      refine hK _ _ ?_
      clear hK K
      try simp only [Act.put, List.setIfInBounds_toArray, List.set_cons_zero, List.set_cons_succ]
      refine wpAny_ready (rs := [12]) (by kernel_rfl) (by simp) ?_
      refine AllReady.cons (o := ?oi12q14) ?h012q14 (fun K hK => ?step12q14) ?more12q14
      case h012q14 => (simp only [List.getElem?_toArray, List.getElem?_cons_zero, List.getElem?_cons_succ]; rfl)
      case step12q14 =>
        obtain ⟨W3, r3, hb3, b3⟩ := put_new W2 _ _ _ _ _ _ 2 (.string ⟨#[115]⟩) Tryz.underlying36 Tryz.underlying3 hb2 rfl
        go_simp
        refine hK _ _ ?_
        clear hK K
        try simp only [Act.put, List.setIfInBounds_toArray, List.set_cons_zero, List.set_cons_succ]
        refine wpAny_take (i := 13) (oi := ?oi13q15) (v := ?v13q15) ?h013q15 ?h113q15 ?h213q15 ?h313q15 ?h413q15 (Or.inl ⟨?hw13q15, ?hy13q15⟩) ?rest13q15
        case h013q15 => (simp only [List.getElem?_toArray, List.getElem?_cons_zero, List.getElem?_cons_succ]; rfl)
        case h113q15 => kernel_rfl
        case h213q15 => kernel_rfl
        case h313q15 => kernel_rfl
        case h413q15 => exact fun _ _ _ h => h
        case hw13q15 => rfl
        case hy13q15 => ((intro w; go_simp); (try (with_reducible rfl)))
        try simp only [Act.put, List.setIfInBounds_toArray, List.set_cons_zero, List.set_cons_succ]
        have hlk := look_map W3 _ _ _ _ _ _ 1 _ _ Tryz.underlying36 Tryz.underlying3 hb3 (show _ = some (some (1, .string ⟨#[114]⟩)) from rfl)
        refine wpAny_ready (rs := [15]) (by kernel_rfl) (by simp) ?_
        refine AllReady.cons (o := ?oi15q16) ?h015q16 (fun K hK => ?_) AllReady.nil
        case h015q16 => (simp only [List.getElem?_toArray, List.getElem?_cons_zero, List.getElem?_cons_succ]; rfl)
        go_simp
        refine hK _ _ ?_
        clear hK K
        try simp only [Act.put, List.setIfInBounds_toArray, List.set_cons_zero, List.set_cons_succ]
        refine wpAny_take (i := 16) (oi := ?oi16q17) (v := ?v16q17) ?h016q17 ?h116q17 ?h216q17 ?h316q17 ?h416q17 (Or.inl ⟨?hw16q17, ?hy16q17⟩) ?rest16q17
        case h016q17 => (simp only [List.getElem?_toArray, List.getElem?_cons_zero, List.getElem?_cons_succ]; rfl)
        case h116q17 => kernel_rfl
        case h216q17 => kernel_rfl
        case h316q17 => kernel_rfl
        case h416q17 => exact fun _ _ _ h => h
        case hw16q17 => rfl
        case hy16q17 => ((intro w; go_simp); (try (with_reducible rfl)))
        try simp only [Act.put, List.setIfInBounds_toArray, List.set_cons_zero, List.set_cons_succ]
        refine wpAny_take (i := 17) (oi := ?oi17q18) (v := ?v17q18) ?h017q18 ?h117q18 ?h217q18 ?h317q18 ?h417q18 (Or.inl ⟨?hw17q18, ?hy17q18⟩) ?rest17q18
        case h017q18 => (simp only [List.getElem?_toArray, List.getElem?_cons_zero, List.getElem?_cons_succ]; rfl)
        case h117q18 => kernel_rfl
        case h217q18 => kernel_rfl
        case h317q18 => kernel_rfl
        case h417q18 => exact fun _ _ _ h => h
        case hw17q18 => rfl
        case hy17q18 => ((intro w; go_simp); (try (with_reducible rfl)))
        try simp only [Act.put, List.setIfInBounds_toArray, List.set_cons_zero, List.set_cons_succ]
        refine wpAny_done (by kernel_rfl) ?_ _
        have hsz := B2.out.size
        have BW := hide ((((B2.out.alloc B2.out.size (.map #[] 0)).drew.trans (b1 _ hsz)).trans (b2 _ hsz)).trans (b3 _ hsz))
        clear r1 r2 r3 b1 b2 b3 hb0 hb1 hb2 hb3 hlk hsz
        go_wp2_with fail
        refine (P.out _ (G.out.below BW.out)).mono ?_
        rintro e wz ⟨rfl, hb⟩
        have Bz := hide (BW.out.trans (hb.mono BW.out.size))
        clear hb
        go_wp2
        go_ret
        exact ⟨rfl, Bz.out⟩
      exact AllReady.nil
    refine AllReady.cons (o := ?oi12q19) ?h012q19 (fun K hK => ?step12q19) ?more12q19
    case h012q19 => (simp only [List.getElem?_toArray, List.getElem?_cons_zero, List.getElem?_cons_succ]; rfl)
    case step12q19 =>
      obtain ⟨W2, r2, hb2, b2⟩ := put_new W1 _ _ _ _ _ _ 2 (.string ⟨#[115]⟩) Tryz.underlying36 Tryz.underlying3 hb1 rfl
      go_simp
      refine hK _ _ ?_
      clear hK K
      try simp only [Act.put, List.setIfInBounds_toArray, List.set_cons_zero, List.set_cons_succ]
      refine wpAny_ready (rs := [11]) (by kernel_rfl) (by simp) ?_
      refine AllReady.cons (o := ?oi11q20) ?h011q20 (fun K hK => ?step11q20) ?more11q20
      case h011q20 => (simp only [List.getElem?_toArray, List.getElem?_cons_zero, List.getElem?_cons_succ]; rfl)
      case step11q20 =>
        obtain ⟨W3, r3, hb3, b3⟩ := put_new W2 _ _ _ _ _ _ 1 (.string ⟨#[114]⟩) Tryz.underlying36 Tryz.underlying3 hb2 rfl
        go_simp
        refine hK _ _ ?_
        clear hK K
        try simp only [Act.put, List.setIfInBounds_toArray, List.set_cons_zero, List.set_cons_succ]
        refine wpAny_take (i := 13) (oi := ?oi13q21) (v := ?v13q21) ?h013q21 ?h113q21 ?h213q21 ?h313q21 ?h413q21 (Or.inl ⟨?hw13q21, ?hy13q21⟩) ?rest13q21
        case h013q21 => (simp only [List.getElem?_toArray, List.getElem?_cons_zero, List.getElem?_cons_succ]; rfl)
        case h113q21 => kernel_rfl
        case h213q21 => kernel_rfl
        case h313q21 => kernel_rfl
        case h413q21 => exact fun _ _ _ h => h
        case hw13q21 => rfl
        case hy13q21 => ((intro w; go_simp); (try (with_reducible rfl)))
        try simp only [Act.put, List.setIfInBounds_toArray, List.set_cons_zero, List.set_cons_succ]
        have hlk := look_map W3 _ _ _ _ _ _ 1 _ _ Tryz.underlying36 Tryz.underlying3 hb3 (show _ = some (some (2, .string ⟨#[114]⟩)) from rfl)
        refine wpAny_ready (rs := [15]) (by kernel_rfl) (by simp) ?_
        refine AllReady.cons (o := ?oi15q22) ?h015q22 (fun K hK => ?_) AllReady.nil
        case h015q22 => (simp only [List.getElem?_toArray, List.getElem?_cons_zero, List.getElem?_cons_succ]; rfl)
        go_simp
        refine hK _ _ ?_
        clear hK K
        try simp only [Act.put, List.setIfInBounds_toArray, List.set_cons_zero, List.set_cons_succ]
        refine wpAny_take (i := 16) (oi := ?oi16q23) (v := ?v16q23) ?h016q23 ?h116q23 ?h216q23 ?h316q23 ?h416q23 (Or.inl ⟨?hw16q23, ?hy16q23⟩) ?rest16q23
        case h016q23 => (simp only [List.getElem?_toArray, List.getElem?_cons_zero, List.getElem?_cons_succ]; rfl)
        case h116q23 => kernel_rfl
        case h216q23 => kernel_rfl
        case h316q23 => kernel_rfl
        case h416q23 => exact fun _ _ _ h => h
        case hw16q23 => rfl
        case hy16q23 => ((intro w; go_simp); (try (with_reducible rfl)))
        try simp only [Act.put, List.setIfInBounds_toArray, List.set_cons_zero, List.set_cons_succ]
        refine wpAny_take (i := 17) (oi := ?oi17q24) (v := ?v17q24) ?h017q24 ?h117q24 ?h217q24 ?h317q24 ?h417q24 (Or.inl ⟨?hw17q24, ?hy17q24⟩) ?rest17q24
        case h017q24 => (simp only [List.getElem?_toArray, List.getElem?_cons_zero, List.getElem?_cons_succ]; rfl)
        case h117q24 => kernel_rfl
        case h217q24 => kernel_rfl
        case h317q24 => kernel_rfl
        case h417q24 => exact fun _ _ _ h => h
        case hw17q24 => rfl
        case hy17q24 => ((intro w; go_simp); (try (with_reducible rfl)))
        try simp only [Act.put, List.setIfInBounds_toArray, List.set_cons_zero, List.set_cons_succ]
        refine wpAny_done (by kernel_rfl) ?_ _
        have hsz := B2.out.size
        have BW := hide ((((B2.out.alloc B2.out.size (.map #[] 0)).drew.trans (b1 _ hsz)).trans (b2 _ hsz)).trans (b3 _ hsz))
        clear r1 r2 r3 b1 b2 b3 hb0 hb1 hb2 hb3 hlk hsz
        go_wp2_with fail
        refine (P.out _ (G.out.below BW.out)).mono ?_
        rintro e wz ⟨rfl, hb⟩
        have Bz := hide (BW.out.trans (hb.mono BW.out.size))
        clear hb
        go_wp2
        go_ret
        exact ⟨rfl, Bz.out⟩
      exact AllReady.nil
    exact AllReady.nil
  refine AllReady.cons (o := ?oi11q25) ?h011q25 (fun K hK => ?step11q25) ?more11q25
  case h011q25 => (simp only [List.getElem?_toArray, List.getElem?_cons_zero, List.getElem?_cons_succ]; rfl)
  case step11q25 =>
    obtain ⟨W1, r1, hb1, b1⟩ := put_new _ _ _ _ _ _ _ 1 (.string ⟨#[114]⟩) Tryz.underlying36 Tryz.underlying3 hb0 rfl
    go_simp
    refine hK _ _ ?_
    clear hK K
    try simp only [Act.put, List.setIfInBounds_toArray, List.set_cons_zero, List.set_cons_succ]
    refine wpAny_ready (rs := [10, 12]) (by kernel_rfl) (by simp) ?_
    refine AllReady.cons (o := ?oi10q26) ?h010q26 (fun K hK => ?step10q26) ?more10q26
    case h010q26 => (simp only [List.getElem?_toArray, List.getElem?_cons_zero, List.getElem?_cons_succ]; rfl)
    case step10q26 =>
      obtain ⟨W2, r2, hb2, b2⟩ := put_new W1 _ _ _ _ _ _ 0 (.string ⟨#[98]⟩) Tryz.underlying36 Tryz.underlying3 hb1 rfl
      go_simp
      refine hK _ _ ?_
      clear hK K
      try simp only [Act.put, List.setIfInBounds_toArray, List.set_cons_zero, List.set_cons_succ]
      refine wpAny_ready (rs := [12]) (by kernel_rfl) (by simp) ?_
      refine AllReady.cons (o := ?oi12q27) ?h012q27 (fun K hK => ?step12q27) ?more12q27
      case h012q27 => (simp only [List.getElem?_toArray, List.getElem?_cons_zero, List.getElem?_cons_succ]; rfl)
      case step12q27 =>
        obtain ⟨W3, r3, hb3, b3⟩ := put_new W2 _ _ _ _ _ _ 2 (.string ⟨#[115]⟩) Tryz.underlying36 Tryz.underlying3 hb2 rfl
        go_simp
        refine hK _ _ ?_
        clear hK K
        try simp only [Act.put, List.setIfInBounds_toArray, List.set_cons_zero, List.set_cons_succ]
        refine wpAny_take (i := 13) (oi := ?oi13q28) (v := ?v13q28) ?h013q28 ?h113q28 ?h213q28 ?h313q28 ?h413q28 (Or.inl ⟨?hw13q28, ?hy13q28⟩) ?rest13q28
        case h013q28 => (simp only [List.getElem?_toArray, List.getElem?_cons_zero, List.getElem?_cons_succ]; rfl)
        case h113q28 => kernel_rfl
        case h213q28 => kernel_rfl
        case h313q28 => kernel_rfl
        case h413q28 => exact fun _ _ _ h => h
        case hw13q28 => rfl
        case hy13q28 => ((intro w; go_simp); (try (with_reducible rfl)))
        try simp only [Act.put, List.setIfInBounds_toArray, List.set_cons_zero, List.set_cons_succ]
        have hlk := look_map W3 _ _ _ _ _ _ 1 _ _ Tryz.underlying36 Tryz.underlying3 hb3 (show _ = some (some (0, .string ⟨#[114]⟩)) from rfl)
        refine wpAny_ready (rs := [15]) (by kernel_rfl) (by simp) ?_
        refine AllReady.cons (o := ?oi15q29) ?h015q29 (fun K hK => ?_) AllReady.nil
        case h015q29 => (simp only [List.getElem?_toArray, List.getElem?_cons_zero, List.getElem?_cons_succ]; rfl)
        go_simp
        refine hK _ _ ?_
        clear hK K
        try simp only [Act.put, List.setIfInBounds_toArray, List.set_cons_zero, List.set_cons_succ]
        refine wpAny_take (i := 16) (oi := ?oi16q30) (v := ?v16q30) ?h016q30 ?h116q30 ?h216q30 ?h316q30 ?h416q30 (Or.inl ⟨?hw16q30, ?hy16q30⟩) ?rest16q30
        case h016q30 => (simp only [List.getElem?_toArray, List.getElem?_cons_zero, List.getElem?_cons_succ]; rfl)
        case h116q30 => kernel_rfl
        case h216q30 => kernel_rfl
        case h316q30 => kernel_rfl
        case h416q30 => exact fun _ _ _ h => h
        case hw16q30 => rfl
        case hy16q30 => ((intro w; go_simp); (try (with_reducible rfl)))
        try simp only [Act.put, List.setIfInBounds_toArray, List.set_cons_zero, List.set_cons_succ]
        refine wpAny_take (i := 17) (oi := ?oi17q31) (v := ?v17q31) ?h017q31 ?h117q31 ?h217q31 ?h317q31 ?h417q31 (Or.inl ⟨?hw17q31, ?hy17q31⟩) ?rest17q31
        case h017q31 => (simp only [List.getElem?_toArray, List.getElem?_cons_zero, List.getElem?_cons_succ]; rfl)
        case h117q31 => kernel_rfl
        case h217q31 => kernel_rfl
        case h317q31 => kernel_rfl
        case h417q31 => exact fun _ _ _ h => h
        case hw17q31 => rfl
        case hy17q31 => ((intro w; go_simp); (try (with_reducible rfl)))
        try simp only [Act.put, List.setIfInBounds_toArray, List.set_cons_zero, List.set_cons_succ]
        refine wpAny_done (by kernel_rfl) ?_ _
        have hsz := B2.out.size
        have BW := hide ((((B2.out.alloc B2.out.size (.map #[] 0)).drew.trans (b1 _ hsz)).trans (b2 _ hsz)).trans (b3 _ hsz))
        clear r1 r2 r3 b1 b2 b3 hb0 hb1 hb2 hb3 hlk hsz
        go_wp2_with fail
        refine (P.out _ (G.out.below BW.out)).mono ?_
        rintro e wz ⟨rfl, hb⟩
        have Bz := hide (BW.out.trans (hb.mono BW.out.size))
        clear hb
        go_wp2
        go_ret
        exact ⟨rfl, Bz.out⟩
      exact AllReady.nil
    refine AllReady.cons (o := ?oi12q32) ?h012q32 (fun K hK => ?step12q32) ?more12q32
    case h012q32 => (simp only [List.getElem?_toArray, List.getElem?_cons_zero, List.getElem?_cons_succ]; rfl)
    case step12q32 =>
      obtain ⟨W2, r2, hb2, b2⟩ := put_new W1 _ _ _ _ _ _ 2 (.string ⟨#[115]⟩) Tryz.underlying36 Tryz.underlying3 hb1 rfl
      go_simp
      refine hK _ _ ?_
      clear hK K
      try simp only [Act.put, List.setIfInBounds_toArray, List.set_cons_zero, List.set_cons_succ]
      refine wpAny_ready (rs := [10]) (by kernel_rfl) (by simp) ?_
      refine AllReady.cons (o := ?oi10q33) ?h010q33 (fun K hK => ?step10q33) ?more10q33
      case h010q33 => (simp only [List.getElem?_toArray, List.getElem?_cons_zero, List.getElem?_cons_succ]; rfl)
      case step10q33 =>
        obtain ⟨W3, r3, hb3, b3⟩ := put_new W2 _ _ _ _ _ _ 0 (.string ⟨#[98]⟩) Tryz.underlying36 Tryz.underlying3 hb2 rfl
        go_simp
        refine hK _ _ ?_
        clear hK K
        try simp only [Act.put, List.setIfInBounds_toArray, List.set_cons_zero, List.set_cons_succ]
        refine wpAny_take (i := 13) (oi := ?oi13q34) (v := ?v13q34) ?h013q34 ?h113q34 ?h213q34 ?h313q34 ?h413q34 (Or.inl ⟨?hw13q34, ?hy13q34⟩) ?rest13q34
        case h013q34 => (simp only [List.getElem?_toArray, List.getElem?_cons_zero, List.getElem?_cons_succ]; rfl)
        case h113q34 => kernel_rfl
        case h213q34 => kernel_rfl
        case h313q34 => kernel_rfl
        case h413q34 => exact fun _ _ _ h => h
        case hw13q34 => rfl
        case hy13q34 => ((intro w; go_simp); (try (with_reducible rfl)))
        try simp only [Act.put, List.setIfInBounds_toArray, List.set_cons_zero, List.set_cons_succ]
        have hlk := look_map W3 _ _ _ _ _ _ 1 _ _ Tryz.underlying36 Tryz.underlying3 hb3 (show _ = some (some (0, .string ⟨#[114]⟩)) from rfl)
        refine wpAny_ready (rs := [15]) (by kernel_rfl) (by simp) ?_
        refine AllReady.cons (o := ?oi15q35) ?h015q35 (fun K hK => ?_) AllReady.nil
        case h015q35 => (simp only [List.getElem?_toArray, List.getElem?_cons_zero, List.getElem?_cons_succ]; rfl)
        go_simp
        refine hK _ _ ?_
        clear hK K
        try simp only [Act.put, List.setIfInBounds_toArray, List.set_cons_zero, List.set_cons_succ]
        refine wpAny_take (i := 16) (oi := ?oi16q36) (v := ?v16q36) ?h016q36 ?h116q36 ?h216q36 ?h316q36 ?h416q36 (Or.inl ⟨?hw16q36, ?hy16q36⟩) ?rest16q36
        case h016q36 => (simp only [List.getElem?_toArray, List.getElem?_cons_zero, List.getElem?_cons_succ]; rfl)
        case h116q36 => kernel_rfl
        case h216q36 => kernel_rfl
        case h316q36 => kernel_rfl
        case h416q36 => exact fun _ _ _ h => h
        case hw16q36 => rfl
        case hy16q36 => ((intro w; go_simp); (try (with_reducible rfl)))
        try simp only [Act.put, List.setIfInBounds_toArray, List.set_cons_zero, List.set_cons_succ]
        refine wpAny_take (i := 17) (oi := ?oi17q37) (v := ?v17q37) ?h017q37 ?h117q37 ?h217q37 ?h317q37 ?h417q37 (Or.inl ⟨?hw17q37, ?hy17q37⟩) ?rest17q37
        case h017q37 => (simp only [List.getElem?_toArray, List.getElem?_cons_zero, List.getElem?_cons_succ]; rfl)
        case h117q37 => kernel_rfl
        case h217q37 => kernel_rfl
        case h317q37 => kernel_rfl
        case h417q37 => exact fun _ _ _ h => h
        case hw17q37 => rfl
        case hy17q37 => ((intro w; go_simp); (try (with_reducible rfl)))
        try simp only [Act.put, List.setIfInBounds_toArray, List.set_cons_zero, List.set_cons_succ]
        refine wpAny_done (by kernel_rfl) ?_ _
        have hsz := B2.out.size
        have BW := hide ((((B2.out.alloc B2.out.size (.map #[] 0)).drew.trans (b1 _ hsz)).trans (b2 _ hsz)).trans (b3 _ hsz))
        clear r1 r2 r3 b1 b2 b3 hb0 hb1 hb2 hb3 hlk hsz
        go_wp2_with fail
        refine (P.out _ (G.out.below BW.out)).mono ?_
        rintro e wz ⟨rfl, hb⟩
        have Bz := hide (BW.out.trans (hb.mono BW.out.size))
        clear hb
        go_wp2
        go_ret
        exact ⟨rfl, Bz.out⟩
      exact AllReady.nil
    exact AllReady.nil
  refine AllReady.cons (o := ?oi12q38) ?h012q38 (fun K hK => ?step12q38) ?more12q38
  case h012q38 => (simp only [List.getElem?_toArray, List.getElem?_cons_zero, List.getElem?_cons_succ]; rfl)
  case step12q38 =>
    obtain ⟨W1, r1, hb1, b1⟩ := put_new _ _ _ _ _ _ _ 2 (.string ⟨#[115]⟩) Tryz.underlying36 Tryz.underlying3 hb0 rfl
    go_simp
    refine hK _ _ ?_
    clear hK K
    try simp only [Act.put, List.setIfInBounds_toArray, List.set_cons_zero, List.set_cons_succ]
    refine wpAny_ready (rs := [10, 11]) (by kernel_rfl) (by simp) ?_
    refine AllReady.cons (o := ?oi10q39) ?h010q39 (fun K hK => ?step10q39) ?more10q39
    case h010q39 => (simp only [List.getElem?_toArray, List.getElem?_cons_zero, List.getElem?_cons_succ]; rfl)
    case step10q39 =>
      obtain ⟨W2, r2, hb2, b2⟩ := put_new W1 _ _ _ _ _ _ 0 (.string ⟨#[98]⟩) Tryz.underlying36 Tryz.underlying3 hb1 rfl
      go_simp
      refine hK _ _ ?_
      clear hK K
      try simp only [Act.put, List.setIfInBounds_toArray, List.set_cons_zero, List.set_cons_succ]
      refine wpAny_ready (rs := [11]) (by kernel_rfl) (by simp) ?_
      refine AllReady.cons (o := ?oi11q40) ?h011q40 (fun K hK => ?step11q40) ?more11q40
      case h011q40 => (simp only [List.getElem?_toArray, List.getElem?_cons_zero, List.getElem?_cons_succ]; rfl)
      case step11q40 =>
        obtain ⟨W3, r3, hb3, b3⟩ := put_new W2 _ _ _ _ _ _ 1 (.string ⟨#[114]⟩) Tryz.underlying36 Tryz.underlying3 hb2 rfl
        go_simp
        refine hK _ _ ?_
        clear hK K
        try simp only [Act.put, List.setIfInBounds_toArray, List.set_cons_zero, List.set_cons_succ]
        refine wpAny_take (i := 13) (oi := ?oi13q41) (v := ?v13q41) ?h013q41 ?h113q41 ?h213q41 ?h313q41 ?h413q41 (Or.inl ⟨?hw13q41, ?hy13q41⟩) ?rest13q41
        case h013q41 => (simp only [List.getElem?_toArray, List.getElem?_cons_zero, List.getElem?_cons_succ]; rfl)
        case h113q41 => kernel_rfl
        case h213q41 => kernel_rfl
        case h313q41 => kernel_rfl
        case h413q41 => exact fun _ _ _ h => h
        case hw13q41 => rfl
        case hy13q41 => ((intro w; go_simp); (try (with_reducible rfl)))
        try simp only [Act.put, List.setIfInBounds_toArray, List.set_cons_zero, List.set_cons_succ]
        have hlk := look_map W3 _ _ _ _ _ _ 1 _ _ Tryz.underlying36 Tryz.underlying3 hb3 (show _ = some (some (2, .string ⟨#[114]⟩)) from rfl)
        refine wpAny_ready (rs := [15]) (by kernel_rfl) (by simp) ?_
        refine AllReady.cons (o := ?oi15q42) ?h015q42 (fun K hK => ?_) AllReady.nil
        case h015q42 => (simp only [List.getElem?_toArray, List.getElem?_cons_zero, List.getElem?_cons_succ]; rfl)
        go_simp
        refine hK _ _ ?_
        clear hK K
        try simp only [Act.put, List.setIfInBounds_toArray, List.set_cons_zero, List.set_cons_succ]
        refine wpAny_take (i := 16) (oi := ?oi16q43) (v := ?v16q43) ?h016q43 ?h116q43 ?h216q43 ?h316q43 ?h416q43 (Or.inl ⟨?hw16q43, ?hy16q43⟩) ?rest16q43
        case h016q43 => (simp only [List.getElem?_toArray, List.getElem?_cons_zero, List.getElem?_cons_succ]; rfl)
        case h116q43 => kernel_rfl
        case h216q43 => kernel_rfl
        case h316q43 => kernel_rfl
        case h416q43 => exact fun _ _ _ h => h
        case hw16q43 => rfl
        case hy16q43 => ((intro w; go_simp); (try (with_reducible rfl)))
        try simp only [Act.put, List.setIfInBounds_toArray, List.set_cons_zero, List.set_cons_succ]
        refine wpAny_take (i := 17) (oi := ?oi17q44) (v := ?v17q44) ?h017q44 ?h117q44 ?h217q44 ?h317q44 ?h417q44 (Or.inl ⟨?hw17q44, ?hy17q44⟩) ?rest17q44
        case h017q44 => (simp only [List.getElem?_toArray, List.getElem?_cons_zero, List.getElem?_cons_succ]; rfl)
        case h117q44 => kernel_rfl
        case h217q44 => kernel_rfl
        case h317q44 => kernel_rfl
        case h417q44 => exact fun _ _ _ h => h
        case hw17q44 => rfl
        case hy17q44 => ((intro w; go_simp); (try (with_reducible rfl)))
        try simp only [Act.put, List.setIfInBounds_toArray, List.set_cons_zero, List.set_cons_succ]
        refine wpAny_done (by kernel_rfl) ?_ _
        have hsz := B2.out.size
        have BW := hide ((((B2.out.alloc B2.out.size (.map #[] 0)).drew.trans (b1 _ hsz)).trans (b2 _ hsz)).trans (b3 _ hsz))
        clear r1 r2 r3 b1 b2 b3 hb0 hb1 hb2 hb3 hlk hsz
        go_wp2_with fail
        refine (P.out _ (G.out.below BW.out)).mono ?_
        rintro e wz ⟨rfl, hb⟩
        have Bz := hide (BW.out.trans (hb.mono BW.out.size))
        clear hb
        go_wp2
        go_ret
        exact ⟨rfl, Bz.out⟩
      exact AllReady.nil
    refine AllReady.cons (o := ?oi11q45) ?h011q45 (fun K hK => ?step11q45) ?more11q45
    case h011q45 => (simp only [List.getElem?_toArray, List.getElem?_cons_zero, List.getElem?_cons_succ]; rfl)
    case step11q45 =>
      obtain ⟨W2, r2, hb2, b2⟩ := put_new W1 _ _ _ _ _ _ 1 (.string ⟨#[114]⟩) Tryz.underlying36 Tryz.underlying3 hb1 rfl
      go_simp
      refine hK _ _ ?_
      clear hK K
      try simp only [Act.put, List.setIfInBounds_toArray, List.set_cons_zero, List.set_cons_succ]
      refine wpAny_ready (rs := [10]) (by kernel_rfl) (by simp) ?_
      refine AllReady.cons (o := ?oi10q46) ?h010q46 (fun K hK => ?step10q46) ?more10q46
      case h010q46 => (simp only [List.getElem?_toArray, List.getElem?_cons_zero, List.getElem?_cons_succ]; rfl)
      case step10q46 =>
        obtain ⟨W3, r3, hb3, b3⟩ := put_new W2 _ _ _ _ _ _ 0 (.string ⟨#[98]⟩) Tryz.underlying36 Tryz.underlying3 hb2 rfl
        go_simp
        refine hK _ _ ?_
        clear hK K
        try simp only [Act.put, List.setIfInBounds_toArray, List.set_cons_zero, List.set_cons_succ]
        refine wpAny_take (i := 13) (oi := ?oi13q47) (v := ?v13q47) ?h013q47 ?h113q47 ?h213q47 ?h313q47 ?h413q47 (Or.inl ⟨?hw13q47, ?hy13q47⟩) ?rest13q47
        case h013q47 => (simp only [List.getElem?_toArray, List.getElem?_cons_zero, List.getElem?_cons_succ]; rfl)
        case h113q47 => kernel_rfl
        case h213q47 => kernel_rfl
        case h313q47 => kernel_rfl
        case h413q47 => exact fun _ _ _ h => h
        case hw13q47 => rfl
        case hy13q47 => ((intro w; go_simp); (try (with_reducible rfl)))
        try simp only [Act.put, List.setIfInBounds_toArray, List.set_cons_zero, List.set_cons_succ]
        have hlk := look_map W3 _ _ _ _ _ _ 1 _ _ Tryz.underlying36 Tryz.underlying3 hb3 (show _ = some (some (1, .string ⟨#[114]⟩)) from rfl)
        refine wpAny_ready (rs := [15]) (by kernel_rfl) (by simp) ?_
        refine AllReady.cons (o := ?oi15q48) ?h015q48 (fun K hK => ?_) AllReady.nil
        case h015q48 => (simp only [List.getElem?_toArray, List.getElem?_cons_zero, List.getElem?_cons_succ]; rfl)
        go_simp
        refine hK _ _ ?_
        clear hK K
        try simp only [Act.put, List.setIfInBounds_toArray, List.set_cons_zero, List.set_cons_succ]
        refine wpAny_take (i := 16) (oi := ?oi16q49) (v := ?v16q49) ?h016q49 ?h116q49 ?h216q49 ?h316q49 ?h416q49 (Or.inl ⟨?hw16q49, ?hy16q49⟩) ?rest16q49
        case h016q49 => (simp only [List.getElem?_toArray, List.getElem?_cons_zero, List.getElem?_cons_succ]; rfl)
        case h116q49 => kernel_rfl
        case h216q49 => kernel_rfl
        case h316q49 => kernel_rfl
        case h416q49 => exact fun _ _ _ h => h
        case hw16q49 => rfl
        case hy16q49 => ((intro w; go_simp); (try (with_reducible rfl)))
        try simp only [Act.put, List.setIfInBounds_toArray, List.set_cons_zero, List.set_cons_succ]
        refine wpAny_take (i := 17) (oi := ?oi17q50) (v := ?v17q50) ?h017q50 ?h117q50 ?h217q50 ?h317q50 ?h417q50 (Or.inl ⟨?hw17q50, ?hy17q50⟩) ?rest17q50
        case h017q50 => (simp only [List.getElem?_toArray, List.getElem?_cons_zero, List.getElem?_cons_succ]; rfl)
        case h117q50 => kernel_rfl
        case h217q50 => kernel_rfl
        case h317q50 => kernel_rfl
        case h417q50 => exact fun _ _ _ h => h
        case hw17q50 => rfl
        case hy17q50 => ((intro w; go_simp); (try (with_reducible rfl)))
        try simp only [Act.put, List.setIfInBounds_toArray, List.set_cons_zero, List.set_cons_succ]
        refine wpAny_done (by kernel_rfl) ?_ _
        have hsz := B2.out.size
        have BW := hide ((((B2.out.alloc B2.out.size (.map #[] 0)).drew.trans (b1 _ hsz)).trans (b2 _ hsz)).trans (b3 _ hsz))
        clear r1 r2 r3 b1 b2 b3 hb0 hb1 hb2 hb3 hlk hsz
        go_wp2_with fail
        refine (P.out _ (G.out.below BW.out)).mono ?_
        rintro e wz ⟨rfl, hb⟩
        have Bz := hide (BW.out.trans (hb.mono BW.out.size))
        clear hb
        go_wp2
        go_ret
        exact ⟨rfl, Bz.out⟩
      exact AllReady.nil
    exact AllReady.nil
  exact AllReady.nil

set_option maxRecDepth 20000 in
set_option maxHeartbeats 8000000 in
theorem long2 (l id : List UInt8) (w : World) (hg : Gl w) (hl : l.length ≤ 300) (hi : id.length ≤ 60) (hv : validN 2 0 l = true) (hco : codeV id = true)  :
    Calls Tryz.prog 5 #[.int .i64 2, .int .i64 0, .string (bsV l), .string (bsV id)] w fun e w' => e = .returned (.bool true) ∧ Below w.heap.size w w' := by
  have A := hide (awake_any w hg)
  have G := hide hg
  have z1 := bs_size l
  have z2 := bs_size id
  have hs1 : ((300 : Int) < (l.length : Int)) = False := by simp; omega
  have hs2 : ((60 : Int) < (id.length : Int)) = False := by simp; omega
  have C := hide (fun (W : World) (h : Gl W) => Command_any 2 0 l id W (by omega) (by omega) h)
  have hc : commandN 2 0 l id = (115 :: formatN 2 0 l ++ [32]) ++ id := by
    unfold commandN formatN
    rw [hv, hco, if_pos (by rfl), if_neg (by omega), if_pos rfl]; rfl
  have hfl := formatN_len 2 0 l
  have P := hide (fun (W : World) (h : Gl W) => Parse_any 2 0 (formatN 2 0 l) W (by omega) h)
  rw [back_N 2 0 l hv] at P
  rw [hc] at C
  generalize formatN 2 0 l = T at *
  have K1 := hide (fun W : World => cutS (115 :: T ++ [32]) id (by simp only [List.length_append, List.length_cons, List.length_nil]; omega) W)
  have K2 := hide (fun W : World => cutS (115 :: T) [32] (by simp only [List.length_append, List.length_cons, List.length_nil]; omega) W)
  rw [show bsV [32] = (⟨#[32]⟩ : ByteArray) from rfl] at K2
  obtain ⟨e1, e2⟩ := ne_empty (l := 115 :: T ++ [32] ++ id) (fun h => codeV_ne hco (List.append_eq_nil_iff.1 h).2)
  obtain ⟨e3, e4⟩ := ne_empty (l := 115 :: T) (by simp)
  have x1 : (bsV (115 :: T)).extract 0 1 = ⟨#[115]⟩ := bs_take (115 :: T) 1
  have x2 : (bsV (115 :: T)).extract 1 (bsV (115 :: T)).size = bsV T := bs_drop (115 :: T) 1
  have z3 : (bsV (115 :: T)).size = T.length + 1 := bs_size (115 :: T)
  have z4 : (1 : Int) ≤ ((bsV (115 :: T)).size : Int) := by rw [z3]; omega
  generalize bsV (115 :: T ++ [32] ++ id) = X at *
  generalize bsV (115 :: T ++ [32]) = Y at *
  generalize bsV (115 :: T) = Z at *
  generalize bsV T = U at *
  have hvv : ((bsV l).toList == (bsV l).toList) = true := by simp
  have hmm := @run_makeMap Tryz.prog
  clear hc hv hg hfl hco z3
  have B0 := hide (Below.refl w.heap.size w)
  go_enter Tryz.func5, Tryz.ntmps5
  go_wp2_with fail
  refine (A.out).mono ?_
  rintro e w1 ⟨rfl, hb⟩
  have B1 := hide (B0.out.trans (hb.mono B0.out.size))
  clear hb
  go_wp2_with fail
  refine (C.out _ (G.out.below B1.out)).mono ?_
  rintro e w2 ⟨rfl, hb⟩
  have B2 := hide (B1.out.trans (hb.mono B1.out.size))
  clear hb
  go_wp2_with fail
  refine (K1.out _).mono ?_
  rintro e wx ⟨rfl, rfl⟩
  go_wp2_with fail
  refine (K2.out _).mono ?_
  rintro e wx ⟨rfl, rfl⟩
  go_upto_region 13 with fail
  refine wp_region_any (by kernel_rfl) ?_
  change wpAny _ _ _ _ _ _ _ (World.drew _)
  refine wpAny_take (i := 0) (oi := ?oi0q1) (v := ?v0q1) ?h00q1 ?h10q1 ?h20q1 ?h30q1 ?h40q1 (Or.inl ⟨?hw0q1, ?hy0q1⟩) ?rest0q1
  case h00q1 => (simp only [List.getElem?_toArray, List.getElem?_cons_zero, List.getElem?_cons_succ]; rfl)
  case h10q1 => kernel_rfl
  case h20q1 => kernel_rfl
  case h30q1 => kernel_rfl
  case h40q1 => exact fun _ _ _ h => h
  case hw0q1 => rfl
  case hy0q1 => ((intro w; go_simp); (try (with_reducible rfl)))
  try simp only [Act.put, List.setIfInBounds_toArray, List.set_cons_zero, List.set_cons_succ]
  refine wpAny_take (i := 1) (oi := ?oi1q2) (v := ?v1q2) ?h01q2 ?h11q2 ?h21q2 ?h31q2 ?h41q2 (Or.inl ⟨?hw1q2, ?hy1q2⟩) ?rest1q2
  case h01q2 => (simp only [List.getElem?_toArray, List.getElem?_cons_zero, List.getElem?_cons_succ]; rfl)
  case h11q2 => kernel_rfl
  case h21q2 => kernel_rfl
  case h31q2 => kernel_rfl
  case h41q2 => exact fun _ _ _ h => h
  case hw1q2 => rfl
  case hy1q2 => ((intro w; go_simp); (try (with_reducible rfl)))
  try simp only [Act.put, List.setIfInBounds_toArray, List.set_cons_zero, List.set_cons_succ]
  refine wpAny_take (i := 2) (oi := ?oi2q3) (v := ?v2q3) ?h02q3 ?h12q3 ?h22q3 ?h32q3 ?h42q3 (Or.inl ⟨?hw2q3, ?hy2q3⟩) ?rest2q3
  case h02q3 => (simp only [List.getElem?_toArray, List.getElem?_cons_zero, List.getElem?_cons_succ]; rfl)
  case h12q3 => kernel_rfl
  case h22q3 => kernel_rfl
  case h32q3 => kernel_rfl
  case h42q3 => exact fun _ _ _ h => h
  case hw2q3 => rfl
  case hy2q3 => ((intro w; go_simp); (try (with_reducible rfl)))
  try simp only [Act.put, List.setIfInBounds_toArray, List.set_cons_zero, List.set_cons_succ]
  refine wpAny_take (i := 3) (oi := ?oi3q4) (v := ?v3q4) ?h03q4 ?h13q4 ?h23q4 ?h33q4 ?h43q4 (Or.inl ⟨?hw3q4, ?hy3q4⟩) ?rest3q4
  case h03q4 => (simp only [List.getElem?_toArray, List.getElem?_cons_zero, List.getElem?_cons_succ]; rfl)
  case h13q4 => kernel_rfl
  case h23q4 => kernel_rfl
  case h33q4 => kernel_rfl
  case h43q4 => exact fun _ _ _ h => h
  case hw3q4 => rfl
  case hy3q4 => ((intro w; go_simp); (try (with_reducible rfl)))
  try simp only [Act.put, List.setIfInBounds_toArray, List.set_cons_zero, List.set_cons_succ]
  refine wpAny_take (i := 4) (oi := ?oi4q5) (v := ?v4q5) ?h04q5 ?h14q5 ?h24q5 ?h34q5 ?h44q5 (Or.inl ⟨?hw4q5, ?hy4q5⟩) ?rest4q5
  case h04q5 => (simp only [List.getElem?_toArray, List.getElem?_cons_zero, List.getElem?_cons_succ]; rfl)
  case h14q5 => kernel_rfl
  case h24q5 => kernel_rfl
  case h34q5 => kernel_rfl
  case h44q5 => exact fun _ _ _ h => h
  case hw4q5 => rfl
  case hy4q5 => ((intro w; go_simp); (try (with_reducible rfl)))
  try simp only [Act.put, List.setIfInBounds_toArray, List.set_cons_zero, List.set_cons_succ]
  refine wpAny_take (i := 5) (oi := ?oi5q6) (v := ?v5q6) ?h05q6 ?h15q6 ?h25q6 ?h35q6 ?h45q6 (Or.inl ⟨?hw5q6, ?hy5q6⟩) ?rest5q6
  case h05q6 => (simp only [List.getElem?_toArray, List.getElem?_cons_zero, List.getElem?_cons_succ]; rfl)
  case h15q6 => kernel_rfl
  case h25q6 => kernel_rfl
  case h35q6 => kernel_rfl
  case h45q6 => exact fun _ _ _ h => h
  case hw5q6 => rfl
  case hy5q6 => ((intro w; go_simp); (try (with_reducible rfl)))
  try simp only [Act.put, List.setIfInBounds_toArray, List.set_cons_zero, List.set_cons_succ]
  refine wpAny_take (i := 6) (oi := ?oi6q7) (v := ?v6q7) ?h06q7 ?h16q7 ?h26q7 ?h36q7 ?h46q7 (Or.inl ⟨?hw6q7, ?hy6q7⟩) ?rest6q7
  case h06q7 => (simp only [List.getElem?_toArray, List.getElem?_cons_zero, List.getElem?_cons_succ]; rfl)
  case h16q7 => kernel_rfl
  case h26q7 => kernel_rfl
  case h36q7 => kernel_rfl
  case h46q7 => exact fun _ _ _ h => h
  case hw6q7 => rfl
  case hy6q7 => ((intro w; go_simp); (try (with_reducible rfl)))
  try simp only [Act.put, List.setIfInBounds_toArray, List.set_cons_zero, List.set_cons_succ]
  refine wpAny_take (i := 7) (oi := ?oi7q8) (v := ?v7q8) ?h07q8 ?h17q8 ?h27q8 ?h37q8 ?h47q8 (Or.inl ⟨?hw7q8, ?hy7q8⟩) ?rest7q8
  case h07q8 => (simp only [List.getElem?_toArray, List.getElem?_cons_zero, List.getElem?_cons_succ]; rfl)
  case h17q8 => kernel_rfl
  case h27q8 => kernel_rfl
  case h37q8 => kernel_rfl
  case h47q8 => exact fun _ _ _ h => h
  case hw7q8 => rfl
  case hy7q8 => ((intro w; go_simp); (try (with_reducible rfl)))
  try simp only [Act.put, List.setIfInBounds_toArray, List.set_cons_zero, List.set_cons_succ]
  refine wpAny_take (i := 8) (oi := ?oi8q9) (v := ?v8q9) ?h08q9 ?h18q9 ?h28q9 ?h38q9 ?h48q9 (Or.inl ⟨?hw8q9, ?hy8q9⟩) ?rest8q9
  case h08q9 => (simp only [List.getElem?_toArray, List.getElem?_cons_zero, List.getElem?_cons_succ]; rfl)
  case h18q9 => kernel_rfl
  case h28q9 => kernel_rfl
  case h38q9 => kernel_rfl
  case h48q9 => exact fun _ _ _ h => h
  case hw8q9 => rfl
  case hy8q9 => ((intro w; go_simp); (try (with_reducible rfl)))
  try simp only [Act.put, List.setIfInBounds_toArray, List.set_cons_zero, List.set_cons_succ]
  refine wpAny_take (i := 14) (oi := ?oi14q10) (v := ?v14q10) ?h014q10 ?h114q10 ?h214q10 ?h314q10 ?h414q10 (Or.inl ⟨?hw14q10, ?hy14q10⟩) ?rest14q10
  case h014q10 => (simp only [List.getElem?_toArray, List.getElem?_cons_zero, List.getElem?_cons_succ]; rfl)
  case h114q10 => kernel_rfl
  case h214q10 => kernel_rfl
  case h314q10 => kernel_rfl
  case h414q10 => exact fun _ _ _ h => h
  case hw14q10 => rfl
  case hy14q10 => ((intro w; go_simp); (try (with_reducible rfl)))
  try simp only [Act.put, List.setIfInBounds_toArray, List.set_cons_zero, List.set_cons_succ]
  refine wpAny_ready (rs := [9]) (by kernel_rfl) (by simp) ?_
  refine AllReady.cons (o := ?oi9q11) ?h09q11 (fun K hK => ?_) AllReady.nil
  case h09q11 => (simp only [List.getElem?_toArray, List.getElem?_cons_zero, List.getElem?_cons_succ]; rfl)
  go_simp
  refine hK _ _ ?_
  clear hK K
  try simp only [Act.put, List.setIfInBounds_toArray, List.set_cons_zero, List.set_cons_succ]
  have hb0 : ((wx.alloc (.map #[] 0)).drew).heap[wx.heap.size]? = some (.map #[] 0) := (MapKept.heap_alloc wx _).1
  refine wpAny_ready (rs := [10, 11, 12]) (by kernel_rfl) (by simp) ?_
  refine AllReady.cons (o := ?oi10q12) ?h010q12 (fun K hK => ?step10q12) ?more10q12
  case h010q12 => (simp only [List.getElem?_toArray, List.getElem?_cons_zero, List.getElem?_cons_succ]; rfl)
  case step10q12 =>
    obtain ⟨W1, r1, hb1, b1⟩ := put_new _ _ _ _ _ _ _ 0 (.string ⟨#[98]⟩) Tryz.underlying36 Tryz.underlying3 hb0 rfl
    go_simp
    refine hK _ _ ?_
    clear hK K
    try simp only [Act.put, List.setIfInBounds_toArray, List.set_cons_zero, List.set_cons_succ]
    refine wpAny_ready (rs := [11, 12]) (by kernel_rfl) (by simp) ?_
    refine AllReady.cons (o := ?oi11q13) ?h011q13 (fun K hK => ?step11q13) ?more11q13
    case h011q13 => (simp only [List.getElem?_toArray, List.getElem?_cons_zero, List.getElem?_cons_succ]; rfl)
    case step11q13 =>
      obtain ⟨W2, r2, hb2, b2⟩ := put_new W1 _ _ _ _ _ _ 1 (.string ⟨#[114]⟩) Tryz.underlying36 Tryz.underlying3 hb1 rfl
      go_simp
      refine hK _ _ ?_
      clear hK K
      try simp only [Act.put, List.setIfInBounds_toArray, List.set_cons_zero, List.set_cons_succ]
      refine wpAny_ready (rs := [12]) (by kernel_rfl) (by simp) ?_
      refine AllReady.cons (o := ?oi12q14) ?h012q14 (fun K hK => ?step12q14) ?more12q14
      case h012q14 => (simp only [List.getElem?_toArray, List.getElem?_cons_zero, List.getElem?_cons_succ]; rfl)
      case step12q14 =>
        obtain ⟨W3, r3, hb3, b3⟩ := put_new W2 _ _ _ _ _ _ 2 (.string ⟨#[115]⟩) Tryz.underlying36 Tryz.underlying3 hb2 rfl
        go_simp
        refine hK _ _ ?_
        clear hK K
        try simp only [Act.put, List.setIfInBounds_toArray, List.set_cons_zero, List.set_cons_succ]
        refine wpAny_take (i := 13) (oi := ?oi13q15) (v := ?v13q15) ?h013q15 ?h113q15 ?h213q15 ?h313q15 ?h413q15 (Or.inl ⟨?hw13q15, ?hy13q15⟩) ?rest13q15
        case h013q15 => (simp only [List.getElem?_toArray, List.getElem?_cons_zero, List.getElem?_cons_succ]; rfl)
        case h113q15 => kernel_rfl
        case h213q15 => kernel_rfl
        case h313q15 => kernel_rfl
        case h413q15 => exact fun _ _ _ h => h
        case hw13q15 => rfl
        case hy13q15 => ((intro w; go_simp); (try (with_reducible rfl)))
        try simp only [Act.put, List.setIfInBounds_toArray, List.set_cons_zero, List.set_cons_succ]
        have hlk := look_map W3 _ _ _ _ _ _ 2 _ _ Tryz.underlying36 Tryz.underlying3 hb3 (show _ = some (some (2, .string ⟨#[115]⟩)) from rfl)
        refine wpAny_ready (rs := [15]) (by kernel_rfl) (by simp) ?_
        refine AllReady.cons (o := ?oi15q16) ?h015q16 (fun K hK => ?_) AllReady.nil
        case h015q16 => (simp only [List.getElem?_toArray, List.getElem?_cons_zero, List.getElem?_cons_succ]; rfl)
        go_simp
        refine hK _ _ ?_
        clear hK K
        try simp only [Act.put, List.setIfInBounds_toArray, List.set_cons_zero, List.set_cons_succ]
        refine wpAny_take (i := 16) (oi := ?oi16q17) (v := ?v16q17) ?h016q17 ?h116q17 ?h216q17 ?h316q17 ?h416q17 (Or.inl ⟨?hw16q17, ?hy16q17⟩) ?rest16q17
        case h016q17 => (simp only [List.getElem?_toArray, List.getElem?_cons_zero, List.getElem?_cons_succ]; rfl)
        case h116q17 => kernel_rfl
        case h216q17 => kernel_rfl
        case h316q17 => kernel_rfl
        case h416q17 => exact fun _ _ _ h => h
        case hw16q17 => rfl
        case hy16q17 => ((intro w; go_simp); (try (with_reducible rfl)))
        try simp only [Act.put, List.setIfInBounds_toArray, List.set_cons_zero, List.set_cons_succ]
        refine wpAny_take (i := 17) (oi := ?oi17q18) (v := ?v17q18) ?h017q18 ?h117q18 ?h217q18 ?h317q18 ?h417q18 (Or.inl ⟨?hw17q18, ?hy17q18⟩) ?rest17q18
        case h017q18 => (simp only [List.getElem?_toArray, List.getElem?_cons_zero, List.getElem?_cons_succ]; rfl)
        case h117q18 => kernel_rfl
        case h217q18 => kernel_rfl
        case h317q18 => kernel_rfl
        case h417q18 => exact fun _ _ _ h => h
        case hw17q18 => rfl
        case hy17q18 => ((intro w; go_simp); (try (with_reducible rfl)))
        try simp only [Act.put, List.setIfInBounds_toArray, List.set_cons_zero, List.set_cons_succ]
        refine wpAny_done (by kernel_rfl) ?_ _
        have hsz := B2.out.size
        have BW := hide ((((B2.out.alloc B2.out.size (.map #[] 0)).drew.trans (b1 _ hsz)).trans (b2 _ hsz)).trans (b3 _ hsz))
        clear r1 r2 r3 b1 b2 b3 hb0 hb1 hb2 hb3 hlk hsz
        go_wp2_with fail
        refine (P.out _ (G.out.below BW.out)).mono ?_
        rintro e wz ⟨rfl, hb⟩
        have Bz := hide (BW.out.trans (hb.mono BW.out.size))
        clear hb
        go_wp2
        go_ret
        exact ⟨rfl, Bz.out⟩
      exact AllReady.nil
    refine AllReady.cons (o := ?oi12q19) ?h012q19 (fun K hK => ?step12q19) ?more12q19
    case h012q19 => (simp only [List.getElem?_toArray, List.getElem?_cons_zero, List.getElem?_cons_succ]; rfl)
    case step12q19 =>
      obtain ⟨W2, r2, hb2, b2⟩ := put_new W1 _ _ _ _ _ _ 2 (.string ⟨#[115]⟩) Tryz.underlying36 Tryz.underlying3 hb1 rfl
      go_simp
      refine hK _ _ ?_
      clear hK K
      try simp only [Act.put, List.setIfInBounds_toArray, List.set_cons_zero, List.set_cons_succ]
      refine wpAny_ready (rs := [11]) (by kernel_rfl) (by simp) ?_
      refine AllReady.cons (o := ?oi11q20) ?h011q20 (fun K hK => ?step11q20) ?more11q20
      case h011q20 => (simp only [List.getElem?_toArray, List.getElem?_cons_zero, List.getElem?_cons_succ]; rfl)
      case step11q20 =>
        obtain ⟨W3, r3, hb3, b3⟩ := put_new W2 _ _ _ _ _ _ 1 (.string ⟨#[114]⟩) Tryz.underlying36 Tryz.underlying3 hb2 rfl
        go_simp
        refine hK _ _ ?_
        clear hK K
        try simp only [Act.put, List.setIfInBounds_toArray, List.set_cons_zero, List.set_cons_succ]
        refine wpAny_take (i := 13) (oi := ?oi13q21) (v := ?v13q21) ?h013q21 ?h113q21 ?h213q21 ?h313q21 ?h413q21 (Or.inl ⟨?hw13q21, ?hy13q21⟩) ?rest13q21
        case h013q21 => (simp only [List.getElem?_toArray, List.getElem?_cons_zero, List.getElem?_cons_succ]; rfl)
        case h113q21 => kernel_rfl
        case h213q21 => kernel_rfl
        case h313q21 => kernel_rfl
        case h413q21 => exact fun _ _ _ h => h
        case hw13q21 => rfl
        case hy13q21 => ((intro w; go_simp); (try (with_reducible rfl)))
        try simp only [Act.put, List.setIfInBounds_toArray, List.set_cons_zero, List.set_cons_succ]
        have hlk := look_map W3 _ _ _ _ _ _ 2 _ _ Tryz.underlying36 Tryz.underlying3 hb3 (show _ = some (some (1, .string ⟨#[115]⟩)) from rfl)
        refine wpAny_ready (rs := [15]) (by kernel_rfl) (by simp) ?_
        refine AllReady.cons (o := ?oi15q22) ?h015q22 (fun K hK => ?_) AllReady.nil
        case h015q22 => (simp only [List.getElem?_toArray, List.getElem?_cons_zero, List.getElem?_cons_succ]; rfl)
        go_simp
        refine hK _ _ ?_
        clear hK K
        try simp only [Act.put, List.setIfInBounds_toArray, List.set_cons_zero, List.set_cons_succ]
        refine wpAny_take (i := 16) (oi := ?oi16q23) (v := ?v16q23) ?h016q23 ?h116q23 ?h216q23 ?h316q23 ?h416q23 (Or.inl ⟨?hw16q23, ?hy16q23⟩) ?rest16q23
        case h016q23 => (simp only [List.getElem?_toArray, List.getElem?_cons_zero, List.getElem?_cons_succ]; rfl)
        case h116q23 => kernel_rfl
        case h216q23 => kernel_rfl
        case h316q23 => kernel_rfl
        case h416q23 => exact fun _ _ _ h => h
        case hw16q23 => rfl
        case hy16q23 => ((intro w; go_simp); (try (with_reducible rfl)))
        try simp only [Act.put, List.setIfInBounds_toArray, List.set_cons_zero, List.set_cons_succ]
        refine wpAny_take (i := 17) (oi := ?oi17q24) (v := ?v17q24) ?h017q24 ?h117q24 ?h217q24 ?h317q24 ?h417q24 (Or.inl ⟨?hw17q24, ?hy17q24⟩) ?rest17q24
        case h017q24 => (simp only [List.getElem?_toArray, List.getElem?_cons_zero, List.getElem?_cons_succ]; rfl)
        case h117q24 => kernel_rfl
        case h217q24 => kernel_rfl
        case h317q24 => kernel_rfl
        case h417q24 => exact fun _ _ _ h => h
        case hw17q24 => rfl
        case hy17q24 => ((intro w; go_simp); (try (with_reducible rfl)))
        try simp only [Act.put, List.setIfInBounds_toArray, List.set_cons_zero, List.set_cons_succ]
        refine wpAny_done (by kernel_rfl) ?_ _
        have hsz := B2.out.size
        have BW := hide ((((B2.out.alloc B2.out.size (.map #[] 0)).drew.trans (b1 _ hsz)).trans (b2 _ hsz)).trans (b3 _ hsz))
        clear r1 r2 r3 b1 b2 b3 hb0 hb1 hb2 hb3 hlk hsz
        go_wp2_with fail
        refine (P.out _ (G.out.below BW.out)).mono ?_
        rintro e wz ⟨rfl, hb⟩
        have Bz := hide (BW.out.trans (hb.mono BW.out.size))
        clear hb
        go_wp2
        go_ret
        exact ⟨rfl, Bz.out⟩
      exact AllReady.nil
    exact AllReady.nil
  refine AllReady.cons (o := ?oi11q25) ?h011q25 (fun K hK => ?step11q25) ?more11q25
  case h011q25 => (simp only [List.getElem?_toArray, List.getElem?_cons_zero, List.getElem?_cons_succ]; rfl)
  case step11q25 =>
    obtain ⟨W1, r1, hb1, b1⟩ := put_new _ _ _ _ _ _ _ 1 (.string ⟨#[114]⟩) Tryz.underlying36 Tryz.underlying3 hb0 rfl
    go_simp
    refine hK _ _ ?_
    clear hK K
    try simp only [Act.put, List.setIfInBounds_toArray, List.set_cons_zero, List.set_cons_succ]
    refine wpAny_ready (rs := [10, 12]) (by kernel_rfl) (by simp) ?_
    refine AllReady.cons (o := ?oi10q26) ?h010q26 (fun K hK => ?step10q26) ?more10q26
    case h010q26 => (simp only [List.getElem?_toArray, List.getElem?_cons_zero, List.getElem?_cons_succ]; rfl)
    case step10q26 =>
      obtain ⟨W2, r2, hb2, b2⟩ := put_new W1 _ _ _ _ _ _ 0 (.string ⟨#[98]⟩) Tryz.underlying36 Tryz.underlying3 hb1 rfl
      go_simp
      refine hK _ _ ?_
      clear hK K
      try simp only [Act.put, List.setIfInBounds_toArray, List.set_cons_zero, List.set_cons_succ]
      refine wpAny_ready (rs := [12]) (by kernel_rfl) (by simp) ?_
      refine AllReady.cons (o := ?oi12q27) ?h012q27 (fun K hK => ?step12q27) ?more12q27
      case h012q27 => (simp only [List.getElem?_toArray, List.getElem?_cons_zero, List.getElem?_cons_succ]; rfl)
      case step12q27 =>
        obtain ⟨W3, r3, hb3, b3⟩ := put_new W2 _ _ _ _ _ _ 2 (.string ⟨#[115]⟩) Tryz.underlying36 Tryz.underlying3 hb2 rfl
        go_simp
        refine hK _ _ ?_
        clear hK K
        try simp only [Act.put, List.setIfInBounds_toArray, List.set_cons_zero, List.set_cons_succ]
        refine wpAny_take (i := 13) (oi := ?oi13q28) (v := ?v13q28) ?h013q28 ?h113q28 ?h213q28 ?h313q28 ?h413q28 (Or.inl ⟨?hw13q28, ?hy13q28⟩) ?rest13q28
        case h013q28 => (simp only [List.getElem?_toArray, List.getElem?_cons_zero, List.getElem?_cons_succ]; rfl)
        case h113q28 => kernel_rfl
        case h213q28 => kernel_rfl
        case h313q28 => kernel_rfl
        case h413q28 => exact fun _ _ _ h => h
        case hw13q28 => rfl
        case hy13q28 => ((intro w; go_simp); (try (with_reducible rfl)))
        try simp only [Act.put, List.setIfInBounds_toArray, List.set_cons_zero, List.set_cons_succ]
        have hlk := look_map W3 _ _ _ _ _ _ 2 _ _ Tryz.underlying36 Tryz.underlying3 hb3 (show _ = some (some (2, .string ⟨#[115]⟩)) from rfl)
        refine wpAny_ready (rs := [15]) (by kernel_rfl) (by simp) ?_
        refine AllReady.cons (o := ?oi15q29) ?h015q29 (fun K hK => ?_) AllReady.nil
        case h015q29 => (simp only [List.getElem?_toArray, List.getElem?_cons_zero, List.getElem?_cons_succ]; rfl)
        go_simp
        refine hK _ _ ?_
        clear hK K
        try simp only [Act.put, List.setIfInBounds_toArray, List.set_cons_zero, List.set_cons_succ]
        refine wpAny_take (i := 16) (oi := ?oi16q30) (v := ?v16q30) ?h016q30 ?h116q30 ?h216q30 ?h316q30 ?h416q30 (Or.inl ⟨?hw16q30, ?hy16q30⟩) ?rest16q30
        case h016q30 => (simp only [List.getElem?_toArray, List.getElem?_cons_zero, List.getElem?_cons_succ]; rfl)
        case h116q30 => kernel_rfl
        case h216q30 => kernel_rfl
        case h316q30 => kernel_rfl
        case h416q30 => exact fun _ _ _ h => h
        case hw16q30 => rfl
        case hy16q30 => ((intro w; go_simp); (try (with_reducible rfl)))
        try simp only [Act.put, List.setIfInBounds_toArray, List.set_cons_zero, List.set_cons_succ]
        refine wpAny_take (i := 17) (oi := ?oi17q31) (v := ?v17q31) ?h017q31 ?h117q31 ?h217q31 ?h317q31 ?h417q31 (Or.inl ⟨?hw17q31, ?hy17q31⟩) ?rest17q31
        case h017q31 => (simp only [List.getElem?_toArray, List.getElem?_cons_zero, List.getElem?_cons_succ]; rfl)
        case h117q31 => kernel_rfl
        case h217q31 => kernel_rfl
        case h317q31 => kernel_rfl
        case h417q31 => exact fun _ _ _ h => h
        case hw17q31 => rfl
        case hy17q31 => ((intro w; go_simp); (try (with_reducible rfl)))
        try simp only [Act.put, List.setIfInBounds_toArray, List.set_cons_zero, List.set_cons_succ]
        refine wpAny_done (by kernel_rfl) ?_ _
        have hsz := B2.out.size
        have BW := hide ((((B2.out.alloc B2.out.size (.map #[] 0)).drew.trans (b1 _ hsz)).trans (b2 _ hsz)).trans (b3 _ hsz))
        clear r1 r2 r3 b1 b2 b3 hb0 hb1 hb2 hb3 hlk hsz
        go_wp2_with fail
        refine (P.out _ (G.out.below BW.out)).mono ?_
        rintro e wz ⟨rfl, hb⟩
        have Bz := hide (BW.out.trans (hb.mono BW.out.size))
        clear hb
        go_wp2
        go_ret
        exact ⟨rfl, Bz.out⟩
      exact AllReady.nil
    refine AllReady.cons (o := ?oi12q32) ?h012q32 (fun K hK => ?step12q32) ?more12q32
    case h012q32 => (simp only [List.getElem?_toArray, List.getElem?_cons_zero, List.getElem?_cons_succ]; rfl)
    case step12q32 =>
      obtain ⟨W2, r2, hb2, b2⟩ := put_new W1 _ _ _ _ _ _ 2 (.string ⟨#[115]⟩) Tryz.underlying36 Tryz.underlying3 hb1 rfl
      go_simp
      refine hK _ _ ?_
      clear hK K
      try simp only [Act.put, List.setIfInBounds_toArray, List.set_cons_zero, List.set_cons_succ]
      refine wpAny_ready (rs := [10]) (by kernel_rfl) (by simp) ?_
      refine AllReady.cons (o := ?oi10q33) ?h010q33 (fun K hK => ?step10q33) ?more10q33
      case h010q33 => (simp only [List.getElem?_toArray, List.getElem?_cons_zero, List.getElem?_cons_succ]; rfl)
      case step10q33 =>
        obtain ⟨W3, r3, hb3, b3⟩ := put_new W2 _ _ _ _ _ _ 0 (.string ⟨#[98]⟩) Tryz.underlying36 Tryz.underlying3 hb2 rfl
        go_simp
        refine hK _ _ ?_
        clear hK K
        try simp only [Act.put, List.setIfInBounds_toArray, List.set_cons_zero, List.set_cons_succ]
        refine wpAny_take (i := 13) (oi := ?oi13q34) (v := ?v13q34) ?h013q34 ?h113q34 ?h213q34 ?h313q34 ?h413q34 (Or.inl ⟨?hw13q34, ?hy13q34⟩) ?rest13q34
        case h013q34 => (simp only [List.getElem?_toArray, List.getElem?_cons_zero, List.getElem?_cons_succ]; rfl)
        case h113q34 => kernel_rfl
        case h213q34 => kernel_rfl
        case h313q34 => kernel_rfl
        case h413q34 => exact fun _ _ _ h => h
        case hw13q34 => rfl
        case hy13q34 => ((intro w; go_simp); (try (with_reducible rfl)))
        try simp only [Act.put, List.setIfInBounds_toArray, List.set_cons_zero, List.set_cons_succ]
        have hlk := look_map W3 _ _ _ _ _ _ 2 _ _ Tryz.underlying36 Tryz.underlying3 hb3 (show _ = some (some (1, .string ⟨#[115]⟩)) from rfl)
        refine wpAny_ready (rs := [15]) (by kernel_rfl) (by simp) ?_
        refine AllReady.cons (o := ?oi15q35) ?h015q35 (fun K hK => ?_) AllReady.nil
        case h015q35 => (simp only [List.getElem?_toArray, List.getElem?_cons_zero, List.getElem?_cons_succ]; rfl)
        go_simp
        refine hK _ _ ?_
        clear hK K
        try simp only [Act.put, List.setIfInBounds_toArray, List.set_cons_zero, List.set_cons_succ]
        refine wpAny_take (i := 16) (oi := ?oi16q36) (v := ?v16q36) ?h016q36 ?h116q36 ?h216q36 ?h316q36 ?h416q36 (Or.inl ⟨?hw16q36, ?hy16q36⟩) ?rest16q36
        case h016q36 => (simp only [List.getElem?_toArray, List.getElem?_cons_zero, List.getElem?_cons_succ]; rfl)
        case h116q36 => kernel_rfl
        case h216q36 => kernel_rfl
        case h316q36 => kernel_rfl
        case h416q36 => exact fun _ _ _ h => h
        case hw16q36 => rfl
        case hy16q36 => ((intro w; go_simp); (try (with_reducible rfl)))
        try simp only [Act.put, List.setIfInBounds_toArray, List.set_cons_zero, List.set_cons_succ]
        refine wpAny_take (i := 17) (oi := ?oi17q37) (v := ?v17q37) ?h017q37 ?h117q37 ?h217q37 ?h317q37 ?h417q37 (Or.inl ⟨?hw17q37, ?hy17q37⟩) ?rest17q37
        case h017q37 => (simp only [List.getElem?_toArray, List.getElem?_cons_zero, List.getElem?_cons_succ]; rfl)
        case h117q37 => kernel_rfl
        case h217q37 => kernel_rfl
        case h317q37 => kernel_rfl
        case h417q37 => exact fun _ _ _ h => h
        case hw17q37 => rfl
        case hy17q37 => ((intro w; go_simp); (try (with_reducible rfl)))
        try simp only [Act.put, List.setIfInBounds_toArray, List.set_cons_zero, List.set_cons_succ]
        refine wpAny_done (by kernel_rfl) ?_ _
        have hsz := B2.out.size
        have BW := hide ((((B2.out.alloc B2.out.size (.map #[] 0)).drew.trans (b1 _ hsz)).trans (b2 _ hsz)).trans (b3 _ hsz))
        clear r1 r2 r3 b1 b2 b3 hb0 hb1 hb2 hb3 hlk hsz
        go_wp2_with fail
        refine (P.out _ (G.out.below BW.out)).mono ?_
        rintro e wz ⟨rfl, hb⟩
        have Bz := hide (BW.out.trans (hb.mono BW.out.size))
        clear hb
        go_wp2
        go_ret
        exact ⟨rfl, Bz.out⟩
      exact AllReady.nil
    exact AllReady.nil
  refine AllReady.cons (o := ?oi12q38) ?h012q38 (fun K hK => ?step12q38) ?more12q38
  case h012q38 => (simp only [List.getElem?_toArray, List.getElem?_cons_zero, List.getElem?_cons_succ]; rfl)
  case step12q38 =>
    obtain ⟨W1, r1, hb1, b1⟩ := put_new _ _ _ _ _ _ _ 2 (.string ⟨#[115]⟩) Tryz.underlying36 Tryz.underlying3 hb0 rfl
    go_simp
    refine hK _ _ ?_
    clear hK K
    try simp only [Act.put, List.setIfInBounds_toArray, List.set_cons_zero, List.set_cons_succ]
    refine wpAny_ready (rs := [10, 11]) (by kernel_rfl) (by simp) ?_
    refine AllReady.cons (o := ?oi10q39) ?h010q39 (fun K hK => ?step10q39) ?more10q39
    case h010q39 => (simp only [List.getElem?_toArray, List.getElem?_cons_zero, List.getElem?_cons_succ]; rfl)
    case step10q39 =>
      obtain ⟨W2, r2, hb2, b2⟩ := put_new W1 _ _ _ _ _ _ 0 (.string ⟨#[98]⟩) Tryz.underlying36 Tryz.underlying3 hb1 rfl
      go_simp
      refine hK _ _ ?_
      clear hK K
      try simp only [Act.put, List.setIfInBounds_toArray, List.set_cons_zero, List.set_cons_succ]
      refine wpAny_ready (rs := [11]) (by kernel_rfl) (by simp) ?_
      refine AllReady.cons (o := ?oi11q40) ?h011q40 (fun K hK => ?step11q40) ?more11q40
      case h011q40 => (simp only [List.getElem?_toArray, List.getElem?_cons_zero, List.getElem?_cons_succ]; rfl)
      case step11q40 =>
        obtain ⟨W3, r3, hb3, b3⟩ := put_new W2 _ _ _ _ _ _ 1 (.string ⟨#[114]⟩) Tryz.underlying36 Tryz.underlying3 hb2 rfl
        go_simp
        refine hK _ _ ?_
        clear hK K
        try simp only [Act.put, List.setIfInBounds_toArray, List.set_cons_zero, List.set_cons_succ]
        refine wpAny_take (i := 13) (oi := ?oi13q41) (v := ?v13q41) ?h013q41 ?h113q41 ?h213q41 ?h313q41 ?h413q41 (Or.inl ⟨?hw13q41, ?hy13q41⟩) ?rest13q41
        case h013q41 => (simp only [List.getElem?_toArray, List.getElem?_cons_zero, List.getElem?_cons_succ]; rfl)
        case h113q41 => kernel_rfl
        case h213q41 => kernel_rfl
        case h313q41 => kernel_rfl
        case h413q41 => exact fun _ _ _ h => h
        case hw13q41 => rfl
        case hy13q41 => ((intro w; go_simp); (try (with_reducible rfl)))
        try simp only [Act.put, List.setIfInBounds_toArray, List.set_cons_zero, List.set_cons_succ]
        have hlk := look_map W3 _ _ _ _ _ _ 2 _ _ Tryz.underlying36 Tryz.underlying3 hb3 (show _ = some (some (0, .string ⟨#[115]⟩)) from rfl)
        refine wpAny_ready (rs := [15]) (by kernel_rfl) (by simp) ?_
        refine AllReady.cons (o := ?oi15q42) ?h015q42 (fun K hK => ?_) AllReady.nil
        case h015q42 => (simp only [List.getElem?_toArray, List.getElem?_cons_zero, List.getElem?_cons_succ]; rfl)
        go_simp
        refine hK _ _ ?_
        clear hK K
        try simp only [Act.put, List.setIfInBounds_toArray, List.set_cons_zero, List.set_cons_succ]
        refine wpAny_take (i := 16) (oi := ?oi16q43) (v := ?v16q43) ?h016q43 ?h116q43 ?h216q43 ?h316q43 ?h416q43 (Or.inl ⟨?hw16q43, ?hy16q43⟩) ?rest16q43
        case h016q43 => (simp only [List.getElem?_toArray, List.getElem?_cons_zero, List.getElem?_cons_succ]; rfl)
        case h116q43 => kernel_rfl
        case h216q43 => kernel_rfl
        case h316q43 => kernel_rfl
        case h416q43 => exact fun _ _ _ h => h
        case hw16q43 => rfl
        case hy16q43 => ((intro w; go_simp); (try (with_reducible rfl)))
        try simp only [Act.put, List.setIfInBounds_toArray, List.set_cons_zero, List.set_cons_succ]
        refine wpAny_take (i := 17) (oi := ?oi17q44) (v := ?v17q44) ?h017q44 ?h117q44 ?h217q44 ?h317q44 ?h417q44 (Or.inl ⟨?hw17q44, ?hy17q44⟩) ?rest17q44
        case h017q44 => (simp only [List.getElem?_toArray, List.getElem?_cons_zero, List.getElem?_cons_succ]; rfl)
        case h117q44 => kernel_rfl
        case h217q44 => kernel_rfl
        case h317q44 => kernel_rfl
        case h417q44 => exact fun _ _ _ h => h
        case hw17q44 => rfl
        case hy17q44 => ((intro w; go_simp); (try (with_reducible rfl)))
        try simp only [Act.put, List.setIfInBounds_toArray, List.set_cons_zero, List.set_cons_succ]
        refine wpAny_done (by kernel_rfl) ?_ _
        have hsz := B2.out.size
        have BW := hide ((((B2.out.alloc B2.out.size (.map #[] 0)).drew.trans (b1 _ hsz)).trans (b2 _ hsz)).trans (b3 _ hsz))
        clear r1 r2 r3 b1 b2 b3 hb0 hb1 hb2 hb3 hlk hsz
        go_wp2_with fail
        refine (P.out _ (G.out.below BW.out)).mono ?_
        rintro e wz ⟨rfl, hb⟩
        have Bz := hide (BW.out.trans (hb.mono BW.out.size))
        clear hb
        go_wp2
        go_ret
        exact ⟨rfl, Bz.out⟩
      exact AllReady.nil
    refine AllReady.cons (o := ?oi11q45) ?h011q45 (fun K hK => ?step11q45) ?more11q45
    case h011q45 => (simp only [List.getElem?_toArray, List.getElem?_cons_zero, List.getElem?_cons_succ]; rfl)
    case step11q45 =>
      obtain ⟨W2, r2, hb2, b2⟩ := put_new W1 _ _ _ _ _ _ 1 (.string ⟨#[114]⟩) Tryz.underlying36 Tryz.underlying3 hb1 rfl
      go_simp
      refine hK _ _ ?_
      clear hK K
      try simp only [Act.put, List.setIfInBounds_toArray, List.set_cons_zero, List.set_cons_succ]
      refine wpAny_ready (rs := [10]) (by kernel_rfl) (by simp) ?_
      refine AllReady.cons (o := ?oi10q46) ?h010q46 (fun K hK => ?step10q46) ?more10q46
      case h010q46 => (simp only [List.getElem?_toArray, List.getElem?_cons_zero, List.getElem?_cons_succ]; rfl)
      case step10q46 =>
        obtain ⟨W3, r3, hb3, b3⟩ := put_new W2 _ _ _ _ _ _ 0 (.string ⟨#[98]⟩) Tryz.underlying36 Tryz.underlying3 hb2 rfl
        go_simp
        refine hK _ _ ?_
        clear hK K
        try simp only [Act.put, List.setIfInBounds_toArray, List.set_cons_zero, List.set_cons_succ]
        refine wpAny_take (i := 13) (oi := ?oi13q47) (v := ?v13q47) ?h013q47 ?h113q47 ?h213q47 ?h313q47 ?h413q47 (Or.inl ⟨?hw13q47, ?hy13q47⟩) ?rest13q47
        case h013q47 => (simp only [List.getElem?_toArray, List.getElem?_cons_zero, List.getElem?_cons_succ]; rfl)
        case h113q47 => kernel_rfl
        case h213q47 => kernel_rfl
        case h313q47 => kernel_rfl
        case h413q47 => exact fun _ _ _ h => h
        case hw13q47 => rfl
        case hy13q47 => ((intro w; go_simp); (try (with_reducible rfl)))
        try simp only [Act.put, List.setIfInBounds_toArray, List.set_cons_zero, List.set_cons_succ]
        have hlk := look_map W3 _ _ _ _ _ _ 2 _ _ Tryz.underlying36 Tryz.underlying3 hb3 (show _ = some (some (0, .string ⟨#[115]⟩)) from rfl)
        refine wpAny_ready (rs := [15]) (by kernel_rfl) (by simp) ?_
        refine AllReady.cons (o := ?oi15q48) ?h015q48 (fun K hK => ?_) AllReady.nil
        case h015q48 => (simp only [List.getElem?_toArray, List.getElem?_cons_zero, List.getElem?_cons_succ]; rfl)
        go_simp
        refine hK _ _ ?_
        clear hK K
        try simp only [Act.put, List.setIfInBounds_toArray, List.set_cons_zero, List.set_cons_succ]
        refine wpAny_take (i := 16) (oi := ?oi16q49) (v := ?v16q49) ?h016q49 ?h116q49 ?h216q49 ?h316q49 ?h416q49 (Or.inl ⟨?hw16q49, ?hy16q49⟩) ?rest16q49
        case h016q49 => (simp only [List.getElem?_toArray, List.getElem?_cons_zero, List.getElem?_cons_succ]; rfl)
        case h116q49 => kernel_rfl
        case h216q49 => kernel_rfl
        case h316q49 => kernel_rfl
        case h416q49 => exact fun _ _ _ h => h
        case hw16q49 => rfl
        case hy16q49 => ((intro w; go_simp); (try (with_reducible rfl)))
        try simp only [Act.put, List.setIfInBounds_toArray, List.set_cons_zero, List.set_cons_succ]
        refine wpAny_take (i := 17) (oi := ?oi17q50) (v := ?v17q50) ?h017q50 ?h117q50 ?h217q50 ?h317q50 ?h417q50 (Or.inl ⟨?hw17q50, ?hy17q50⟩) ?rest17q50
        case h017q50 => (simp only [List.getElem?_toArray, List.getElem?_cons_zero, List.getElem?_cons_succ]; rfl)
        case h117q50 => kernel_rfl
        case h217q50 => kernel_rfl
        case h317q50 => kernel_rfl
        case h417q50 => exact fun _ _ _ h => h
        case hw17q50 => rfl
        case hy17q50 => ((intro w; go_simp); (try (with_reducible rfl)))
        try simp only [Act.put, List.setIfInBounds_toArray, List.set_cons_zero, List.set_cons_succ]
        refine wpAny_done (by kernel_rfl) ?_ _
        have hsz := B2.out.size
        have BW := hide ((((B2.out.alloc B2.out.size (.map #[] 0)).drew.trans (b1 _ hsz)).trans (b2 _ hsz)).trans (b3 _ hsz))
        clear r1 r2 r3 b1 b2 b3 hb0 hb1 hb2 hb3 hlk hsz
        go_wp2_with fail
        refine (P.out _ (G.out.below BW.out)).mono ?_
        rintro e wz ⟨rfl, hb⟩
        have Bz := hide (BW.out.trans (hb.mono BW.out.size))
        clear hb
        go_wp2
        go_ret
        exact ⟨rfl, Bz.out⟩
      exact AllReady.nil
    exact AllReady.nil
  exact AllReady.nil

set_option maxHeartbeats 4000000 in
theorem big (n wd : Int) (a b : ByteArray) (w : World) (hg : Gl w) (h : 300 < a.size ∨ 60 < b.size) :
    Calls Tryz.prog 5 #[.int .i64 n, .int .i64 wd, .string a, .string b] w fun e w' => e = .returned (.bool true) ∧ Below w.heap.size w w' := by
  have A := hide (awake_any w hg)
  clear hg
  by_cases h1 : 300 < a.size
  · have h1' : (300 : Int) < (a.size : Int) := by omega
    clear h
    go_enter Tryz.func5, Tryz.ntmps5
    go_wp2_with fail
    refine A.out.mono ?_
    rintro e w1 ⟨rfl, hb⟩
    have Hb := hide hb
    clear hb
    go_wp2
    go_ret
    exact ⟨rfl, Hb.out⟩
  · have h2 : 60 < b.size := by omega
    have h1' : ¬ (300 : Int) < (a.size : Int) := by omega
    have h2' : (60 : Int) < (b.size : Int) := by omega
    clear h
    go_enter Tryz.func5, Tryz.ntmps5
    go_wp2_with fail
    refine A.out.mono ?_
    rintro e w1 ⟨rfl, hb⟩
    have Hb := hide hb
    clear hb
    go_wp2
    go_ret
    exact ⟨rfl, Hb.out⟩
theorem walk (n wd : Int) (a b : ByteArray) (w : World) (_ : (Lit.int .i64 n).wf = true) (_ : (Lit.int .i64 wd).wf = true) (w2 : a.size ≤ maxLen) (w3 : b.size ≤ maxLen) (hg : Gl w) :
    Calls Tryz.prog 5 #[.int .i64 n, .int .i64 wd, .string a, .string b] w fun e w' => e = .returned (.bool true) ∧ Below w.heap.size w w' := by
  by_cases h : 300 < a.size ∨ 60 < b.size
  · exact big n wd a b w hg h
  · have hl : a.data.toList.length ≤ 300 := by rw [← Lib.size_eq]; omega
    have hi : b.data.toList.length ≤ 60 := by rw [← Lib.size_eq]; omega
    rw [bs_of a, bs_of b]
    generalize a.data.toList = l at *
    generalize b.data.toList = id at *
    cases hv : validN n wd l with
    | false => exact bad_value n wd l id w hg hl hi hv
    | true =>
      cases hc : codeV id with
      | false => exact bad_code n wd l id w hg hl hi hv hc
      | true =>
        obtain ⟨k, rfl, hk, ho⟩ := inK_k (validN_k hv).1
        have hk5 : k = 0 ∨ k = 1 ∨ k = 2 ∨ k = 3 := by omega
        rcases hk5 with rfl | rfl | rfl | rfl
        · have h0 := okW_0 ho
          by_cases h1 : 1 < wd
          · exact long0 wd l id w hg hl hi hv hc h1
          · obtain rfl : wd = 1 := by omega
            exact short0 l id w hg hl hi hv hc
        · obtain rfl := okW_k hk (by decide) ho
          exact long1 l id w hg hl hi hv hc
        · obtain rfl := okW_k hk (by decide) ho
          exact long2 l id w hg hl hi hv hc
        · obtain rfl := okW_k hk (by decide) ho
          exact short3 l id w hg hl hi hv hc
end Go.Proofs.YtpjikbfeegncbaaGreatDoor.valueCommands
