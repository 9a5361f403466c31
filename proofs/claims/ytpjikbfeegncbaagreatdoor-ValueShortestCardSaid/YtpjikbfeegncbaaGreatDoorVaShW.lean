/- The walk of ValueShortest. -/
import Derived.Test.YtpjikbfeegncbaaGreatDoorVaS
import Derived.Test.YtpjikbfeegncbaaGreatDoorShelfE
import Derived.MakeChecks
set_option linter.unusedVariables false
set_option linter.unusedSimpArgs false
namespace Go.Proofs.YtpjikbfeegncbaaGreatDoor.valueShortest
open Go.RowKit Go.Shelf Go.Sort

theorem gl_of {W : World} (h : laidMetH Tryz.prog Rows.valueShortestRow.laid W) (hS : W.ShapedOpen Tryz.prog) : Gl W := by
  rw [MakeChecks.laidMetH_plain _ _ _ (by kernel_rfl)] at h
  exact gl_mk (x := ("math/bits.deBruijn32tab", Rows.laid_math_bits_deBruijn32tab)) (y := ("math/bits.deBruijn64tab", Rows.laid_math_bits_deBruijn64tab)) (rest := Rows.valueShortestRow.laid.drop 3) h hS

theorem parseN_0 (wd : Int) (l : List UInt8) (v : List UInt8) (h : (parseN 0 wd l).2 = 0) : bitsV wd l = ((bitsV wd l).1, 0) ∧ inK 0 wd = true ∧ parseN 0 wd l = (bsV (bitsV wd l).1, 0) := by
  unfold parseN at h ⊢
  by_cases hk : inK 0 wd = true
  · rw [if_pos hk] at h ⊢
    have h2 : (bitsV wd l).2 = 0 := h
    refine ⟨by rw [← h2], hk, ?_⟩
    show (bsV (bitsV wd l).1, (bitsV wd l).2) = _
    rw [h2]
  · rw [if_neg hk] at h; exact absurd h (by decide)
theorem parseN_bits (wd : Int) (l v : List UInt8) (x : Int) (hk : inK 0 wd = true) (h : bitsV wd l = (v, x)) : parseN 0 wd l = (bsV v, x) := by
  unfold parseN
  rw [if_pos hk]
  show (bsV (bitsV wd l).1, (bitsV wd l).2) = _
  rw [h]
theorem dg_ascii {l : List UInt8} (h : l.all dgB = true) (j : Nat) (b : UInt8) (hj : (bsV l).data.toList[j]? = some b) : b.toNat < 128 := by
  rw [bsV_list] at hj
  have hb := List.all_eq_true.1 h b (List.mem_of_getElem? hj)
  rcases dgB_cases hb with rfl | rfl | rfl | rfl | rfl | rfl <;> decide

theorem low_is {c : UInt8} (h : dgB c = true) : Lib.lowerB c = lowC c := by rcases dgB_cases h with rfl | rfl | rfl | rfl | rfl | rfl <;> decide
theorem lower_is {l : List UInt8} (h : l.all dgB = true) : Lib.toLowerA l = l.map lowC := by
  unfold Lib.toLowerA
  exact List.map_congr_left fun c hc => low_is (List.all_eq_true.1 h c hc)
theorem suffix_is {s l : List UInt8} (h : s <:+ l) : Lib.hasSuffix l s = true := by
  unfold Lib.hasSuffix; exact List.isSuffixOf_iff_suffix.2 h

set_option maxHeartbeats 4000000 in
theorem long (wd : Int) (a : ByteArray) (w : World) (hg : Gl w) (h : 300 < a.size) :
    Calls Tryz.prog 8 #[.int .i64 wd, .string a] w fun e w' => e = .returned (.bool true) ∧ Below w.heap.size w w' := by
  have A := hide (awake_any w hg)
  clear hg
  have h1' : (300 : Int) < (a.size : Int) := by omega
  clear h
  go_enter Tryz.func8, Tryz.ntmps8
  go_wp2_with fail
  refine A.out.mono ?_
  rintro e w1 ⟨rfl, hb⟩
  have Hb := hide hb
  clear hb
  go_wp2
  go_ret
  exact ⟨rfl, Hb.out⟩
set_option maxHeartbeats 4000000 in
theorem bad (wd : Int) (l : List UInt8) (w : World) (hg : Gl w) (hl : l.length ≤ 300) (hp : (parseN 0 wd l).2 ≠ 0) :
    Calls Tryz.prog 8 #[.int .i64 wd, .string (bsV l)] w fun e w' => e = .returned (.bool true) ∧ Below w.heap.size w w' := by
  have A := hide (awake_any w hg)
  have G := hide hg
  have P := hide (fun (W : World) (h : Gl W) => Parse_any 0 wd l W (by omega) h)
  have z1 := bs_size l
  have hs1 : ((300 : Int) < (l.length : Int)) = False := by simp; omega
  obtain ⟨⟨r, x⟩, hr⟩ : ∃ r, parseN 0 wd l = r := ⟨_, rfl⟩
  rw [hr] at P hp
  have hx0 : (x != 0) = true := by simpa using hp
  clear hg hp hr
  have B0 := hide (Below.refl w.heap.size w)
  go_enter Tryz.func8, Tryz.ntmps8
  go_wp2_with fail
  refine (A.out).mono ?_
  rintro e w1 ⟨rfl, hb⟩
  have B1 := hide (B0.out.trans (hb.mono B0.out.size))
  clear hb
  go_wp2_with fail
  refine (P.out _ (G.out.below B1.out)).mono ?_
  rintro e w2 ⟨rfl, hb⟩
  have B2 := hide (B1.out.trans (hb.mono B1.out.size))
  clear hb
  go_wp2
  go_ret
  exact ⟨rfl, B2.out⟩

set_option maxRecDepth 20000 in
set_option maxHeartbeats 8000000 in
theorem good (wd : Int) (l : List UInt8) (w : World) (hg : Gl w) (hl : l.length ≤ 300) (hp : (parseN 0 wd l).2 = 0) :
    Calls Tryz.prog 8 #[.int .i64 wd, .string (bsV l)] w fun e w' => e = .returned (.bool true) ∧ Below w.heap.size w w' := by
  have A := hide (awake_any w hg)
  have G := hide hg
  have P := hide (fun (W : World) (h : Gl W) => Parse_any 0 wd l W (by omega) h)
  have z1 := bs_size l
  have hs1 : ((300 : Int) < (l.length : Int)) = False := by simp; omega
  obtain ⟨hb1, hk, hr⟩ := parseN_0 wd l [] hp
  rw [hr] at P
  generalize (bitsV wd l).1 = v at *
  have hok := bitsV_ok hb1
  have hval := bits_value hb1
  have hsuf := short_suffix hb1
  have hvl : v.length ≤ 128 := by have := (valV_iff (w := wd) (l := v)).1 hval; omega
  have F := hide (fun (W : World) (h : Gl W) => Format_any 0 wd v W (by omega) h)
  have hf : formatN 0 wd v = shortV v := by
    unfold formatN validN
    rw [hk, Bool.true_and, show validK (0 : Int).toNat wd v = true from hval, if_pos rfl]
    show (if isV v then shortV v else []) = _
    rw [if_pos (isV_of_val hval)]
  rw [hf] at F
  have hsl : (shortV v).length ≤ l.length := by have := hsuf.length_le; rwa [List.length_map] at this
  have z2 := bs_size (shortV v)
  have hle : (((shortV v).length : Int) ≤ (l.length : Int)) = True := by simp; omega
  have L := hide (fun W : World => Tryz.strings_ToLower_ascii (bsV l) W (by rw [z1]; omega) (dg_ascii hok.2.2.2.1))
  rw [bsV_list, lower_is hok.2.2.2.1] at L
  have S := hide (fun W : World => Tryz.strings_HasSuffix ⟨(l.map lowC).toArray⟩ (bsV (shortV v)) W (by
    rw [Lib.size_eq]; show (l.map lowC).length ≤ _; rw [List.length_map]; omega))
  rw [show (⟨(l.map lowC).toArray⟩ : ByteArray).data.toList = l.map lowC from rfl, bsV_list, suffix_is hsuf] at S
  generalize (⟨(l.map lowC).toArray⟩ : ByteArray) = low at *
  generalize bsV (shortV v) = sv at *
  clear hg hp hb1 hk hr hok hval hsuf hvl hf hsl
  have B0 := hide (Below.refl w.heap.size w)
  go_enter Tryz.func8, Tryz.ntmps8
  go_wp2_with fail
  refine (A.out).mono ?_
  rintro e w1 ⟨rfl, hb⟩
  have B1 := hide (B0.out.trans (hb.mono B0.out.size))
  clear hb
  go_wp2_with fail
  refine (P.out _ (G.out.below B1.out)).mono ?_
  rintro e w2 ⟨rfl, hb⟩
  have B2 := hide (B1.out.trans (hb.mono B1.out.size))
  clear hb
  go_wp2_with fail
  refine (F.out _ (G.out.below B2.out)).mono ?_
  rintro e w3 ⟨rfl, hb⟩
  have B3 := hide (B2.out.trans (hb.mono B2.out.size))
  clear hb
  go_wp2_with fail
  refine (L.out _).mono ?_
  rintro e w4 ⟨rfl, hb⟩
  have B4 := hide (B3.out.trans (hb.mono B3.out.size))
  clear hb
  go_wp2_with fail
  refine (S.out _).mono ?_
  rintro e wx ⟨rfl, rfl⟩
  go_wp2
  go_ret
  exact ⟨rfl, B4.out⟩
theorem walk (wd : Int) (a : ByteArray) (w : World) (_ : (Lit.int .i64 wd).wf = true) (w1 : a.size ≤ maxLen) (hg : Gl w) :
    Calls Tryz.prog 8 #[.int .i64 wd, .string a] w fun e w' => e = .returned (.bool true) ∧ Below w.heap.size w w' := by
  by_cases h : 300 < a.size
  · exact long wd a w hg h
  · have hl : a.data.toList.length ≤ 300 := by rw [← Lib.size_eq]; omega
    rw [bs_of a]
    by_cases hp : (parseN 0 wd a.data.toList).2 = 0
    · exact good wd _ w hg hl hp
    · exact bad wd _ w hg hl hp
end Go.Proofs.YtpjikbfeegncbaaGreatDoor.valueShortest
