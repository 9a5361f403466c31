/- The walk of ValueExtends. -/
import Derived.Test.YtpjikbfeegncbaaGreatDoorVaS
import Derived.Test.YtpjikbfeegncbaaGreatDoorShelfE
import Derived.MakeChecks
set_option linter.unusedVariables false
set_option linter.unusedSimpArgs false
namespace Go.Proofs.YtpjikbfeegncbaaGreatDoor.valueExtends
open Go.RowKit Go.Shelf Go.Sort

theorem gl_of {W : World} (h : laidMetH Tryz.prog Rows.valueExtendsRow.laid W) (hS : W.ShapedOpen Tryz.prog) : Gl W := by
  rw [MakeChecks.laidMetH_plain _ _ _ (by kernel_rfl)] at h
  exact gl_mk (x := ("math/bits.deBruijn32tab", Rows.laid_math_bits_deBruijn32tab)) (y := ("math/bits.deBruijn64tab", Rows.laid_math_bits_deBruijn64tab)) (rest := Rows.valueExtendsRow.laid.drop 3) h hS

theorem parseN_0 (wd : Int) (l : List UInt8) (v : List UInt8) (h : (parseN 0 wd l).2 = 0) : bitsV wd l = ((bitsV wd l).1, 0) ∧ inK 0 wd = true ∧ parseN 0 wd l = (bsV (bitsV wd l).1, 0) := by
  unfold parseN at h ⊢
  by_cases hk : inK 0 wd = true
  · rw [if_pos hk] at h ⊢
    have h2 : (bitsV wd l).2 = 0 := h
    refine ⟨by rw [← h2], hk, ?_⟩
    show (bsV (bitsV wd l).1, (bitsV wd l).2) = _
    rw [h2]
  · rw [if_neg hk] at h; exact absurd h (by decide)
theorem parseN_bits (wd : Int) (l v : List UInt8) (x : Int) (hk : inK 0 wd = true) (h : bitsV wd l = (v, x)) : parseN 0 wd l = (bsV v, x) := by
  unfold parseN
  rw [if_pos hk]
  show (bsV (bitsV wd l).1, (bitsV wd l).2) = _
  rw [h]
theorem dg_ascii {l : List UInt8} (h : l.all dgB = true) (j : Nat) (b : UInt8) (hj : (bsV l).data.toList[j]? = some b) : b.toNat < 128 := by
  rw [bsV_list] at hj
  have hb := List.all_eq_true.1 h b (List.mem_of_getElem? hj)
  rcases dgB_cases hb with rfl | rfl | rfl | rfl | rfl | rfl <;> decide

theorem up_is {c : UInt8} (h : dgB c = true) : Lib.upperB c = upC c := by rcases dgB_cases h with rfl | rfl | rfl | rfl | rfl | rfl <;> decide
theorem upper_is {l : List UInt8} (h : l.all dgB = true) : Lib.toUpperA l = l.map upC := by
  unfold Lib.toUpperA
  exact List.map_congr_left fun c hc => up_is (List.all_eq_true.1 h c hc)

set_option maxHeartbeats 4000000 in
theorem long (wd : Int) (a : ByteArray) (w : World) (hg : Gl w) (h : 300 < a.size) :
    Calls Tryz.prog 7 #[.int .i64 wd, .string a] w fun e w' => e = .returned (.bool true) ∧ Below w.heap.size w w' := by
  have A := hide (awake_any w hg)
  clear hg
  have h1' : (300 : Int) < (a.size : Int) := by omega
  clear h
  go_enter Tryz.func7, Tryz.ntmps7
  go_wp2_with fail
  refine A.out.mono ?_
  rintro e w1 ⟨rfl, hb⟩
  have Hb := hide hb
  clear hb
  go_wp2
  go_ret
  exact ⟨rfl, Hb.out⟩
set_option maxHeartbeats 4000000 in
theorem bad (wd : Int) (l : List UInt8) (w : World) (hg : Gl w) (hl : l.length ≤ 300) (hp : (parseN 0 wd l).2 ≠ 0) :
    Calls Tryz.prog 7 #[.int .i64 wd, .string (bsV l)] w fun e w' => e = .returned (.bool true) ∧ Below w.heap.size w w' := by
  have A := hide (awake_any w hg)
  have G := hide hg
  have P := hide (fun (W : World) (h : Gl W) => Parse_any 0 wd l W (by omega) h)
  have z1 := bs_size l
  have hs1 : ((300 : Int) < (l.length : Int)) = False := by simp; omega
  obtain ⟨⟨r, x⟩, hr⟩ : ∃ r, parseN 0 wd l = r := ⟨_, rfl⟩
  rw [hr] at P hp
  have hx0 : (x != 0) = true := by simpa using hp
  clear hg hp hr
  have B0 := hide (Below.refl w.heap.size w)
  go_enter Tryz.func7, Tryz.ntmps7
  go_wp2_with fail
  refine (A.out).mono ?_
  rintro e w1 ⟨rfl, hb⟩
  have B1 := hide (B0.out.trans (hb.mono B0.out.size))
  clear hb
  go_wp2_with fail
  refine (P.out _ (G.out.below B1.out)).mono ?_
  rintro e w2 ⟨rfl, hb⟩
  have B2 := hide (B1.out.trans (hb.mono B1.out.size))
  clear hb
  go_wp2
  go_ret
  exact ⟨rfl, B2.out⟩

set_option maxRecDepth 20000 in
set_option maxHeartbeats 8000000 in
theorem good_one_full (wd : Int) (c : UInt8) (t : List UInt8) (w : World) (hg : Gl w) (hl : (c :: t).length ≤ 300) (hp : (parseN 0 wd (c :: t)).2 = 0) (hc : c = 49) (hw : ((c :: t).length : Int) = wd) :
    Calls Tryz.prog 7 #[.int .i64 wd, .string (bsV (c :: t))] w fun e w' => e = .returned (.bool true) ∧ Below w.heap.size w w' := by
  have A := hide (awake_any w hg)
  have G := hide hg
  have P := hide (fun (W : World) (h : Gl W) => Parse_any 0 wd (c :: t) W (by omega) h)
  obtain ⟨hb1, hk, hr⟩ := parseN_0 wd (c :: t) [] hp
  rw [hr] at P
  generalize (bitsV wd (c :: t)).1 = v at *
  have hok := bitsV_ok hb1
  have hup := bits_up hb1
  have hmo := bits_more hb1
  have z1 := bs_size (c :: t)
  have U := hide (fun W : World => Tryz.strings_ToUpper_ascii (bsV (c :: t)) W (by rw [z1]; omega) (dg_ascii hok.2.2.2.1))
  rw [bsV_list, upper_is hok.2.2.2.1] at U
  have P2 := hide (fun (W : World) (h : Gl W) => Parse_any 0 wd ((c :: t).map upC) W (by rw [List.length_map]; omega) h)
  rw [parseN_bits wd _ v 0 hk hup] at P2
  have P3 := hide (fun (W : World) (h : Gl W) => Parse_any 0 wd (48 :: c :: t) W (by rw [List.length_cons]; omega) h)
  rw [if_pos hc] at hmo
  rw [if_pos hw] at hmo
  rw [parseN_bits wd _ [] 8 hk hmo, show bsV [] = (⟨#[]⟩ : ByteArray) from rfl] at P3
  have hadd : ∀ W, (Op.stringOp .add (bsV [48]) (bsV (c :: t))).run Tryz.prog W = .ok (.string (bsV (48 :: c :: t))) W := fun W => run_add [48] (c :: t) (by decide) (by omega) W
  have hsz1 : (1 : Int) ≤ ((c :: t).length : Int) := by simp only [List.length_cons]; omega
  have hs1 : ((300 : Int) < ((c :: t).length : Int)) = False := by simp only [eq_iff_iff, iff_false]; omega
  have hex : (bsV (c :: t)).extract 0 1 = bsV [c] := bs_take (c :: t) 1
  have hw2 : (((c :: t).length : Int) == wd) = true := by rw [beq_iff_eq]; exact hw
  have heq : ((bsV [c]).toList == [49]) = true := by
    rw [show ([49] : List UInt8) = (⟨#[49]⟩ : ByteArray).toList from by decide +kernel, toList_beq]
    rw [hc]; decide +kernel
  have hvv : ((bsV v).toList == (bsV v).toList) = true := by simp
  rw [show (⟨((c :: t).map upC).toArray⟩ : ByteArray) = bsV ((c :: t).map upC) from rfl] at U
  generalize bsV ((c :: t).map upC) = ub at *
  generalize bsV (48 :: c :: t) = db at *
  rw [show bsV [48] = (⟨#[48]⟩ : ByteArray) from rfl] at hadd
  generalize bsV [c] = cb at *
  generalize bsV (c :: t) = tb at *
  generalize bsV v = vb at *
  generalize (c :: t).length = m at *
  clear hg hp hb1 hk hr hok hup hmo hc hw
  have B0 := hide (Below.refl w.heap.size w)
  go_enter Tryz.func7, Tryz.ntmps7
  go_wp2_with fail
  refine (A.out).mono ?_
  rintro e w1 ⟨rfl, hb⟩
  have B1 := hide (B0.out.trans (hb.mono B0.out.size))
  clear hb
  go_wp2_with fail
  refine (P.out _ (G.out.below B1.out)).mono ?_
  rintro e w2 ⟨rfl, hb⟩
  have B2 := hide (B1.out.trans (hb.mono B1.out.size))
  clear hb
  go_wp2_with fail
  refine (U.out _).mono ?_
  rintro e w3 ⟨rfl, hb⟩
  have B3 := hide (B2.out.trans (hb.mono B2.out.size))
  clear hb
  go_wp2_with fail
  refine (P2.out _ (G.out.below B3.out)).mono ?_
  rintro e w4 ⟨rfl, hb⟩
  have B4 := hide (B3.out.trans (hb.mono B3.out.size))
  clear hb
  go_wp2_with fail
  refine (P3.out _ (G.out.below B4.out)).mono ?_
  rintro e w5 ⟨rfl, hb⟩
  have B5 := hide (B4.out.trans (hb.mono B4.out.size))
  clear hb
  go_wp2
  go_ret
  exact ⟨rfl, B5.out⟩

set_option maxRecDepth 20000 in
set_option maxHeartbeats 8000000 in
theorem good_one_more (wd : Int) (c : UInt8) (t : List UInt8) (w : World) (hg : Gl w) (hl : (c :: t).length ≤ 300) (hp : (parseN 0 wd (c :: t)).2 = 0) (hc : c = 49) (hw : ((c :: t).length : Int) ≠ wd) :
    Calls Tryz.prog 7 #[.int .i64 wd, .string (bsV (c :: t))] w fun e w' => e = .returned (.bool true) ∧ Below w.heap.size w w' := by
  have A := hide (awake_any w hg)
  have G := hide hg
  have P := hide (fun (W : World) (h : Gl W) => Parse_any 0 wd (c :: t) W (by omega) h)
  obtain ⟨hb1, hk, hr⟩ := parseN_0 wd (c :: t) [] hp
  rw [hr] at P
  generalize (bitsV wd (c :: t)).1 = v at *
  have hok := bitsV_ok hb1
  have hup := bits_up hb1
  have hmo := bits_more hb1
  have z1 := bs_size (c :: t)
  have U := hide (fun W : World => Tryz.strings_ToUpper_ascii (bsV (c :: t)) W (by rw [z1]; omega) (dg_ascii hok.2.2.2.1))
  rw [bsV_list, upper_is hok.2.2.2.1] at U
  have P2 := hide (fun (W : World) (h : Gl W) => Parse_any 0 wd ((c :: t).map upC) W (by rw [List.length_map]; omega) h)
  rw [parseN_bits wd _ v 0 hk hup] at P2
  have P3 := hide (fun (W : World) (h : Gl W) => Parse_any 0 wd (48 :: c :: t) W (by rw [List.length_cons]; omega) h)
  rw [if_pos hc] at hmo
  rw [if_neg hw] at hmo
  rw [parseN_bits wd _ v 0 hk hmo] at P3
  have hadd : ∀ W, (Op.stringOp .add (bsV [48]) (bsV (c :: t))).run Tryz.prog W = .ok (.string (bsV (48 :: c :: t))) W := fun W => run_add [48] (c :: t) (by decide) (by omega) W
  have hsz1 : (1 : Int) ≤ ((c :: t).length : Int) := by simp only [List.length_cons]; omega
  have hs1 : ((300 : Int) < ((c :: t).length : Int)) = False := by simp only [eq_iff_iff, iff_false]; omega
  have hex : (bsV (c :: t)).extract 0 1 = bsV [c] := bs_take (c :: t) 1
  have hw2 : (((c :: t).length : Int) == wd) = false := by exact beq_eq_false_iff_ne.2 hw
  have heq : ((bsV [c]).toList == [49]) = true := by
    rw [show ([49] : List UInt8) = (⟨#[49]⟩ : ByteArray).toList from by decide +kernel, toList_beq]
    rw [hc]; decide +kernel
  have hvv : ((bsV v).toList == (bsV v).toList) = true := by simp
  rw [show (⟨((c :: t).map upC).toArray⟩ : ByteArray) = bsV ((c :: t).map upC) from rfl] at U
  generalize bsV ((c :: t).map upC) = ub at *
  generalize bsV (48 :: c :: t) = db at *
  rw [show bsV [48] = (⟨#[48]⟩ : ByteArray) from rfl] at hadd
  generalize bsV [c] = cb at *
  generalize bsV (c :: t) = tb at *
  generalize bsV v = vb at *
  generalize (c :: t).length = m at *
  clear hg hp hb1 hk hr hok hup hmo hc hw
  have B0 := hide (Below.refl w.heap.size w)
  go_enter Tryz.func7, Tryz.ntmps7
  go_wp2_with fail
  refine (A.out).mono ?_
  rintro e w1 ⟨rfl, hb⟩
  have B1 := hide (B0.out.trans (hb.mono B0.out.size))
  clear hb
  go_wp2_with fail
  refine (P.out _ (G.out.below B1.out)).mono ?_
  rintro e w2 ⟨rfl, hb⟩
  have B2 := hide (B1.out.trans (hb.mono B1.out.size))
  clear hb
  go_wp2_with fail
  refine (U.out _).mono ?_
  rintro e w3 ⟨rfl, hb⟩
  have B3 := hide (B2.out.trans (hb.mono B2.out.size))
  clear hb
  go_wp2_with fail
  refine (P2.out _ (G.out.below B3.out)).mono ?_
  rintro e w4 ⟨rfl, hb⟩
  have B4 := hide (B3.out.trans (hb.mono B3.out.size))
  clear hb
  go_wp2_with fail
  refine (P3.out _ (G.out.below B4.out)).mono ?_
  rintro e w5 ⟨rfl, hb⟩
  have B5 := hide (B4.out.trans (hb.mono B4.out.size))
  clear hb
  go_wp2
  go_ret
  exact ⟨rfl, B5.out⟩

set_option maxRecDepth 20000 in
set_option maxHeartbeats 8000000 in
theorem good_else_full (wd : Int) (c : UInt8) (t : List UInt8) (w : World) (hg : Gl w) (hl : (c :: t).length ≤ 300) (hp : (parseN 0 wd (c :: t)).2 = 0) (hc : c ≠ 49) (hw : ((c :: t).length : Int) = wd) :
    Calls Tryz.prog 7 #[.int .i64 wd, .string (bsV (c :: t))] w fun e w' => e = .returned (.bool true) ∧ Below w.heap.size w w' := by
  have A := hide (awake_any w hg)
  have G := hide hg
  have P := hide (fun (W : World) (h : Gl W) => Parse_any 0 wd (c :: t) W (by omega) h)
  obtain ⟨hb1, hk, hr⟩ := parseN_0 wd (c :: t) [] hp
  rw [hr] at P
  generalize (bitsV wd (c :: t)).1 = v at *
  have hok := bitsV_ok hb1
  have hup := bits_up hb1
  have hmo := bits_more hb1
  have z1 := bs_size (c :: t)
  have U := hide (fun W : World => Tryz.strings_ToUpper_ascii (bsV (c :: t)) W (by rw [z1]; omega) (dg_ascii hok.2.2.2.1))
  rw [bsV_list, upper_is hok.2.2.2.1] at U
  have P2 := hide (fun (W : World) (h : Gl W) => Parse_any 0 wd ((c :: t).map upC) W (by rw [List.length_map]; omega) h)
  rw [parseN_bits wd _ v 0 hk hup] at P2
  have P3 := hide (fun (W : World) (h : Gl W) => Parse_any 0 wd (c :: c :: t) W (by rw [List.length_cons]; omega) h)
  rw [if_neg hc] at hmo
  rw [if_pos hw] at hmo
  rw [parseN_bits wd _ [] 8 hk hmo, show bsV [] = (⟨#[]⟩ : ByteArray) from rfl] at P3
  have hadd : ∀ W, (Op.stringOp .add (bsV [c]) (bsV (c :: t))).run Tryz.prog W = .ok (.string (bsV (c :: c :: t))) W := fun W => run_add [c] (c :: t) (by simp) (by omega) W
  have hsz1 : (1 : Int) ≤ ((c :: t).length : Int) := by simp only [List.length_cons]; omega
  have hs1 : ((300 : Int) < ((c :: t).length : Int)) = False := by simp only [eq_iff_iff, iff_false]; omega
  have hex : (bsV (c :: t)).extract 0 1 = bsV [c] := bs_take (c :: t) 1
  have hw2 : (((c :: t).length : Int) == wd) = true := by rw [beq_iff_eq]; exact hw
  have heq : ((bsV [c]).toList == [49]) = false := by
    rw [show ([49] : List UInt8) = (⟨#[49]⟩ : ByteArray).toList from by decide +kernel, toList_beq]
    exact decide_eq_false fun h => hc (by have h2 := congrArg (fun b : ByteArray => b.data.toList) h; simpa [bsV_list] using h2)
  have hvv : ((bsV v).toList == (bsV v).toList) = true := by simp
  rw [show (⟨((c :: t).map upC).toArray⟩ : ByteArray) = bsV ((c :: t).map upC) from rfl] at U
  generalize bsV ((c :: t).map upC) = ub at *
  generalize bsV (c :: c :: t) = db at *
  skip
  generalize bsV [c] = cb at *
  generalize bsV (c :: t) = tb at *
  generalize bsV v = vb at *
  generalize (c :: t).length = m at *
  clear hg hp hb1 hk hr hok hup hmo hc hw
  have B0 := hide (Below.refl w.heap.size w)
  go_enter Tryz.func7, Tryz.ntmps7
  go_wp2_with fail
  refine (A.out).mono ?_
  rintro e w1 ⟨rfl, hb⟩
  have B1 := hide (B0.out.trans (hb.mono B0.out.size))
  clear hb
  go_wp2_with fail
  refine (P.out _ (G.out.below B1.out)).mono ?_
  rintro e w2 ⟨rfl, hb⟩
  have B2 := hide (B1.out.trans (hb.mono B1.out.size))
  clear hb
  go_wp2_with fail
  refine (U.out _).mono ?_
  rintro e w3 ⟨rfl, hb⟩
  have B3 := hide (B2.out.trans (hb.mono B2.out.size))
  clear hb
  go_wp2_with fail
  refine (P2.out _ (G.out.below B3.out)).mono ?_
  rintro e w4 ⟨rfl, hb⟩
  have B4 := hide (B3.out.trans (hb.mono B3.out.size))
  clear hb
  go_wp2_with fail
  refine (P3.out _ (G.out.below B4.out)).mono ?_
  rintro e w5 ⟨rfl, hb⟩
  have B5 := hide (B4.out.trans (hb.mono B4.out.size))
  clear hb
  go_wp2
  go_ret
  exact ⟨rfl, B5.out⟩

set_option maxRecDepth 20000 in
set_option maxHeartbeats 8000000 in
theorem good_else_more (wd : Int) (c : UInt8) (t : List UInt8) (w : World) (hg : Gl w) (hl : (c :: t).length ≤ 300) (hp : (parseN 0 wd (c :: t)).2 = 0) (hc : c ≠ 49) (hw : ((c :: t).length : Int) ≠ wd) :
    Calls Tryz.prog 7 #[.int .i64 wd, .string (bsV (c :: t))] w fun e w' => e = .returned (.bool true) ∧ Below w.heap.size w w' := by
  have A := hide (awake_any w hg)
  have G := hide hg
  have P := hide (fun (W : World) (h : Gl W) => Parse_any 0 wd (c :: t) W (by omega) h)
  obtain ⟨hb1, hk, hr⟩ := parseN_0 wd (c :: t) [] hp
  rw [hr] at P
  generalize (bitsV wd (c :: t)).1 = v at *
  have hok := bitsV_ok hb1
  have hup := bits_up hb1
  have hmo := bits_more hb1
  have z1 := bs_size (c :: t)
  have U := hide (fun W : World => Tryz.strings_ToUpper_ascii (bsV (c :: t)) W (by rw [z1]; omega) (dg_ascii hok.2.2.2.1))
  rw [bsV_list, upper_is hok.2.2.2.1] at U
  have P2 := hide (fun (W : World) (h : Gl W) => Parse_any 0 wd ((c :: t).map upC) W (by rw [List.length_map]; omega) h)
  rw [parseN_bits wd _ v 0 hk hup] at P2
  have P3 := hide (fun (W : World) (h : Gl W) => Parse_any 0 wd (c :: c :: t) W (by rw [List.length_cons]; omega) h)
  rw [if_neg hc] at hmo
  rw [if_neg hw] at hmo
  rw [parseN_bits wd _ v 0 hk hmo] at P3
  have hadd : ∀ W, (Op.stringOp .add (bsV [c]) (bsV (c :: t))).run Tryz.prog W = .ok (.string (bsV (c :: c :: t))) W := fun W => run_add [c] (c :: t) (by simp) (by omega) W
  have hsz1 : (1 : Int) ≤ ((c :: t).length : Int) := by simp only [List.length_cons]; omega
  have hs1 : ((300 : Int) < ((c :: t).length : Int)) = False := by simp only [eq_iff_iff, iff_false]; omega
  have hex : (bsV (c :: t)).extract 0 1 = bsV [c] := bs_take (c :: t) 1
  have hw2 : (((c :: t).length : Int) == wd) = false := by exact beq_eq_false_iff_ne.2 hw
  have heq : ((bsV [c]).toList == [49]) = false := by
    rw [show ([49] : List UInt8) = (⟨#[49]⟩ : ByteArray).toList from by decide +kernel, toList_beq]
    exact decide_eq_false fun h => hc (by have h2 := congrArg (fun b : ByteArray => b.data.toList) h; simpa [bsV_list] using h2)
  have hvv : ((bsV v).toList == (bsV v).toList) = true := by simp
  rw [show (⟨((c :: t).map upC).toArray⟩ : ByteArray) = bsV ((c :: t).map upC) from rfl] at U
  generalize bsV ((c :: t).map upC) = ub at *
  generalize bsV (c :: c :: t) = db at *
  skip
  generalize bsV [c] = cb at *
  generalize bsV (c :: t) = tb at *
  generalize bsV v = vb at *
  generalize (c :: t).length = m at *
  clear hg hp hb1 hk hr hok hup hmo hc hw
  have B0 := hide (Below.refl w.heap.size w)
  go_enter Tryz.func7, Tryz.ntmps7
  go_wp2_with fail
  refine (A.out).mono ?_
  rintro e w1 ⟨rfl, hb⟩
  have B1 := hide (B0.out.trans (hb.mono B0.out.size))
  clear hb
  go_wp2_with fail
  refine (P.out _ (G.out.below B1.out)).mono ?_
  rintro e w2 ⟨rfl, hb⟩
  have B2 := hide (B1.out.trans (hb.mono B1.out.size))
  clear hb
  go_wp2_with fail
  refine (U.out _).mono ?_
  rintro e w3 ⟨rfl, hb⟩
  have B3 := hide (B2.out.trans (hb.mono B2.out.size))
  clear hb
  go_wp2_with fail
  refine (P2.out _ (G.out.below B3.out)).mono ?_
  rintro e w4 ⟨rfl, hb⟩
  have B4 := hide (B3.out.trans (hb.mono B3.out.size))
  clear hb
  go_wp2_with fail
  refine (P3.out _ (G.out.below B4.out)).mono ?_
  rintro e w5 ⟨rfl, hb⟩
  have B5 := hide (B4.out.trans (hb.mono B4.out.size))
  clear hb
  go_wp2
  go_ret
  exact ⟨rfl, B5.out⟩

theorem good (wd : Int) (l : List UInt8) (w : World) (hg : Gl w) (hl : l.length ≤ 300) (hp : (parseN 0 wd l).2 = 0) :
    Calls Tryz.prog 7 #[.int .i64 wd, .string (bsV l)] w fun e w' => e = .returned (.bool true) ∧ Below w.heap.size w w' := by
  cases l with
  | nil => exact absurd rfl (bitsV_ok (parseN_0 wd [] [] hp).1).2.2.1
  | cons c t =>
    by_cases hc : c = 49
    · by_cases hw : ((c :: t).length : Int) = wd
      · exact good_one_full wd c t w hg hl hp hc hw
      · exact good_one_more wd c t w hg hl hp hc hw
    · by_cases hw : ((c :: t).length : Int) = wd
      · exact good_else_full wd c t w hg hl hp hc hw
      · exact good_else_more wd c t w hg hl hp hc hw
theorem walk (wd : Int) (a : ByteArray) (w : World) (_ : (Lit.int .i64 wd).wf = true) (w1 : a.size ≤ maxLen) (hg : Gl w) :
    Calls Tryz.prog 7 #[.int .i64 wd, .string a] w fun e w' => e = .returned (.bool true) ∧ Below w.heap.size w w' := by
  by_cases h : 300 < a.size
  · exact long wd a w hg h
  · have hl : a.data.toList.length ≤ 300 := by rw [← Lib.size_eq]; omega
    rw [bs_of a]
    by_cases hp : (parseN 0 wd a.data.toList).2 = 0
    · exact good wd _ w hg hl hp
    · exact bad wd _ w hg hl hp
end Go.Proofs.YtpjikbfeegncbaaGreatDoor.valueExtends
