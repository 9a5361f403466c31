/- The walk of ValueReturns. -/
import Derived.Test.YtpjikbfeegncbaaDoorVaS
import Derived.MakeChecks
set_option linter.unusedVariables false
set_option linter.unusedSimpArgs false
namespace Go.Proofs.YtpjikbfeegncbaaDoor.valueReturns
open Go.RowKit Go.Shelf Go.Sort

theorem gl_of {W : World} (h : laidMetH Tryd.prog Rows.valueReturnsRow.laid W) (hS : W.ShapedOpen Tryd.prog) : Gl W := by
  rw [MakeChecks.laidMetH_plain _ _ _ (by kernel_rfl)] at h
  exact gl_mk (x := ("math/bits.deBruijn32tab", Rows.laid_math_bits_deBruijn32tab)) (y := ("math/bits.deBruijn64tab", Rows.laid_math_bits_deBruijn64tab)) (rest := Rows.valueReturnsRow.laid.drop 3) h hS

set_option maxRecDepth 20000 in
set_option maxHeartbeats 8000000 in
theorem way_vv_pg (n wd : Int) (l t : List UInt8) (w : World) (hl : l.length ≤ 300) (ht : t.length ≤ 300) (hg : Gl w) (hv : validN n wd l = true) (hp : (parseN n wd t).2 = 0) :
    Calls Tryd.prog 3 #[.int .i64 n, .int .i64 wd, .string (bsV l), .string (bsV t)] w fun e w' => e = .returned (.bool true) ∧ Below w.heap.size w w' := by
  have A := hide (fun (W : World) (h : Gl W) => awake_any W h)
  have G := hide hg
  have V := hide (fun (W : World) (h : Gl W) => Valid_any n wd l W (by omega) h)
  have F := hide (fun (W : World) (h : Gl W) => Format_any n wd l W (by omega) h)
  have P := hide (fun (W : World) (h : Gl W) => Parse_any n wd t W (by omega) h)
  have hs1 : ((300 : Int) < (l.length : Int)) = False := by simp; omega
  have hs2 : ((300 : Int) < (t.length : Int)) = False := by simp; omega
  have z1 := bs_size l
  have z2 := bs_size t
  have FL := formatN_len n wd l
  have B := hide (fun (W : World) (h : Gl W) => Parse_any n wd (formatN n wd l) W (by omega) h)
  rw [back_N n wd l hv] at B
  rw [hv] at V
  clear FL
  have V2 := hide (fun (W : World) (h : Gl W) => Valid_any n wd (parseN n wd t).1.data.toList W (Nat.le_trans (len_N n wd _ (good_N n wd t hp)) (by decide)) h)
  rw [good_N n wd t hp] at V2
  obtain ⟨r, hr⟩ : ∃ r, (parseN n wd t).1 = r := ⟨_, rfl⟩
  rw [hp, hr] at P
  rw [hr, ← bs_of] at V2
  clear hp hr hg hv
  have B0 := hide (Below.refl w.heap.size w)
  go_enter Tryd.func3, Tryd.ntmps3
  go_wp2_with fail
  refine (A.out _ (G.out.below B0.out)).mono ?_
  rintro e w1 ⟨rfl, hb⟩
  have B1 := hide (B0.out.trans (hb.mono B0.out.size))
  clear hb
  go_wp2_with fail
  refine (V.out _ (G.out.below B1.out)).mono ?_
  rintro e w2 ⟨rfl, hb⟩
  have B2 := hide (B1.out.trans (hb.mono B1.out.size))
  clear hb
  go_wp2_with fail
  refine (F.out _ (G.out.below B2.out)).mono ?_
  rintro e w3 ⟨rfl, hb⟩
  have B3 := hide (B2.out.trans (hb.mono B2.out.size))
  clear hb
  go_wp2_with fail
  refine (B.out _ (G.out.below B3.out)).mono ?_
  rintro e w4 ⟨rfl, hb⟩
  have B4 := hide (B3.out.trans (hb.mono B3.out.size))
  clear hb
  go_wp2_with fail
  refine (P.out _ (G.out.below B4.out)).mono ?_
  rintro e w5 ⟨rfl, hb⟩
  have B5 := hide (B4.out.trans (hb.mono B4.out.size))
  clear hb
  go_wp2_with fail
  refine (V2.out _ (G.out.below B5.out)).mono ?_
  rintro e w6 ⟨rfl, hb⟩
  have B6 := hide (B5.out.trans (hb.mono B5.out.size))
  clear hb
  go_wp2
  go_ret
  exact ⟨rfl, B6.out⟩

set_option maxRecDepth 20000 in
set_option maxHeartbeats 8000000 in
theorem way_vv_pb (n wd : Int) (l t : List UInt8) (w : World) (hl : l.length ≤ 300) (ht : t.length ≤ 300) (hg : Gl w) (hv : validN n wd l = true) (hp : (parseN n wd t).2 ≠ 0) :
    Calls Tryd.prog 3 #[.int .i64 n, .int .i64 wd, .string (bsV l), .string (bsV t)] w fun e w' => e = .returned (.bool true) ∧ Below w.heap.size w w' := by
  have A := hide (fun (W : World) (h : Gl W) => awake_any W h)
  have G := hide hg
  have V := hide (fun (W : World) (h : Gl W) => Valid_any n wd l W (by omega) h)
  have F := hide (fun (W : World) (h : Gl W) => Format_any n wd l W (by omega) h)
  have P := hide (fun (W : World) (h : Gl W) => Parse_any n wd t W (by omega) h)
  have hs1 : ((300 : Int) < (l.length : Int)) = False := by simp; omega
  have hs2 : ((300 : Int) < (t.length : Int)) = False := by simp; omega
  have z1 := bs_size l
  have z2 := bs_size t
  have FL := formatN_len n wd l
  have B := hide (fun (W : World) (h : Gl W) => Parse_any n wd (formatN n wd l) W (by omega) h)
  rw [back_N n wd l hv] at B
  rw [hv] at V
  clear FL
  have hb := bad_N n wd t hp
  obtain ⟨x, hx⟩ : ∃ x, (parseN n wd t).2 = x := ⟨_, rfl⟩
  rw [hb, hx] at P
  rw [hx] at hp
  have hx0 : (x != 0) = true := by simpa using hp
  have hx1 : (x == 0) = false := by simpa using hp
  clear hp hx hb hg hv
  have B0 := hide (Below.refl w.heap.size w)
  go_enter Tryd.func3, Tryd.ntmps3
  go_wp2_with fail
  refine (A.out _ (G.out.below B0.out)).mono ?_
  rintro e w1 ⟨rfl, hb⟩
  have B1 := hide (B0.out.trans (hb.mono B0.out.size))
  clear hb
  go_wp2_with fail
  refine (V.out _ (G.out.below B1.out)).mono ?_
  rintro e w2 ⟨rfl, hb⟩
  have B2 := hide (B1.out.trans (hb.mono B1.out.size))
  clear hb
  go_wp2_with fail
  refine (F.out _ (G.out.below B2.out)).mono ?_
  rintro e w3 ⟨rfl, hb⟩
  have B3 := hide (B2.out.trans (hb.mono B2.out.size))
  clear hb
  go_wp2_with fail
  refine (B.out _ (G.out.below B3.out)).mono ?_
  rintro e w4 ⟨rfl, hb⟩
  have B4 := hide (B3.out.trans (hb.mono B3.out.size))
  clear hb
  go_wp2_with fail
  refine (P.out _ (G.out.below B4.out)).mono ?_
  rintro e w5 ⟨rfl, hb⟩
  have B5 := hide (B4.out.trans (hb.mono B4.out.size))
  clear hb
  go_wp2
  go_ret
  exact ⟨rfl, B5.out⟩

set_option maxRecDepth 20000 in
set_option maxHeartbeats 8000000 in
theorem way_vi_pg (n wd : Int) (l t : List UInt8) (w : World) (hl : l.length ≤ 300) (ht : t.length ≤ 300) (hg : Gl w) (hv : validN n wd l = false) (hp : (parseN n wd t).2 = 0) :
    Calls Tryd.prog 3 #[.int .i64 n, .int .i64 wd, .string (bsV l), .string (bsV t)] w fun e w' => e = .returned (.bool true) ∧ Below w.heap.size w w' := by
  have A := hide (fun (W : World) (h : Gl W) => awake_any W h)
  have G := hide hg
  have V := hide (fun (W : World) (h : Gl W) => Valid_any n wd l W (by omega) h)
  have F := hide (fun (W : World) (h : Gl W) => Format_any n wd l W (by omega) h)
  have P := hide (fun (W : World) (h : Gl W) => Parse_any n wd t W (by omega) h)
  have hs1 : ((300 : Int) < (l.length : Int)) = False := by simp; omega
  have hs2 : ((300 : Int) < (t.length : Int)) = False := by simp; omega
  have z1 := bs_size l
  have z2 := bs_size t
  have FL := formatN_len n wd l
  have hf : formatN n wd l = [] := by unfold formatN; rw [hv]; rfl
  rw [hf, show bsV [] = (⟨#[]⟩ : ByteArray) from rfl] at F
  rw [hv] at V
  clear FL hf
  have V2 := hide (fun (W : World) (h : Gl W) => Valid_any n wd (parseN n wd t).1.data.toList W (Nat.le_trans (len_N n wd _ (good_N n wd t hp)) (by decide)) h)
  rw [good_N n wd t hp] at V2
  obtain ⟨r, hr⟩ : ∃ r, (parseN n wd t).1 = r := ⟨_, rfl⟩
  rw [hp, hr] at P
  rw [hr, ← bs_of] at V2
  clear hp hr hg hv
  have B0 := hide (Below.refl w.heap.size w)
  go_enter Tryd.func3, Tryd.ntmps3
  go_wp2_with fail
  refine (A.out _ (G.out.below B0.out)).mono ?_
  rintro e w1 ⟨rfl, hb⟩
  have B1 := hide (B0.out.trans (hb.mono B0.out.size))
  clear hb
  go_wp2_with fail
  refine (V.out _ (G.out.below B1.out)).mono ?_
  rintro e w2 ⟨rfl, hb⟩
  have B2 := hide (B1.out.trans (hb.mono B1.out.size))
  clear hb
  go_wp2_with fail
  refine (F.out _ (G.out.below B2.out)).mono ?_
  rintro e w3 ⟨rfl, hb⟩
  have B3 := hide (B2.out.trans (hb.mono B2.out.size))
  clear hb
  go_wp2_with fail
  refine (P.out _ (G.out.below B3.out)).mono ?_
  rintro e w4 ⟨rfl, hb⟩
  have B4 := hide (B3.out.trans (hb.mono B3.out.size))
  clear hb
  go_wp2_with fail
  refine (V2.out _ (G.out.below B4.out)).mono ?_
  rintro e w5 ⟨rfl, hb⟩
  have B5 := hide (B4.out.trans (hb.mono B4.out.size))
  clear hb
  go_wp2
  go_ret
  exact ⟨rfl, B5.out⟩

set_option maxRecDepth 20000 in
set_option maxHeartbeats 8000000 in
theorem way_vi_pb (n wd : Int) (l t : List UInt8) (w : World) (hl : l.length ≤ 300) (ht : t.length ≤ 300) (hg : Gl w) (hv : validN n wd l = false) (hp : (parseN n wd t).2 ≠ 0) :
    Calls Tryd.prog 3 #[.int .i64 n, .int .i64 wd, .string (bsV l), .string (bsV t)] w fun e w' => e = .returned (.bool true) ∧ Below w.heap.size w w' := by
  have A := hide (fun (W : World) (h : Gl W) => awake_any W h)
  have G := hide hg
  have V := hide (fun (W : World) (h : Gl W) => Valid_any n wd l W (by omega) h)
  have F := hide (fun (W : World) (h : Gl W) => Format_any n wd l W (by omega) h)
  have P := hide (fun (W : World) (h : Gl W) => Parse_any n wd t W (by omega) h)
  have hs1 : ((300 : Int) < (l.length : Int)) = False := by simp; omega
  have hs2 : ((300 : Int) < (t.length : Int)) = False := by simp; omega
  have z1 := bs_size l
  have z2 := bs_size t
  have FL := formatN_len n wd l
  have hf : formatN n wd l = [] := by unfold formatN; rw [hv]; rfl
  rw [hf, show bsV [] = (⟨#[]⟩ : ByteArray) from rfl] at F
  rw [hv] at V
  clear FL hf
  have hb := bad_N n wd t hp
  obtain ⟨x, hx⟩ : ∃ x, (parseN n wd t).2 = x := ⟨_, rfl⟩
  rw [hb, hx] at P
  rw [hx] at hp
  have hx0 : (x != 0) = true := by simpa using hp
  have hx1 : (x == 0) = false := by simpa using hp
  clear hp hx hb hg hv
  have B0 := hide (Below.refl w.heap.size w)
  go_enter Tryd.func3, Tryd.ntmps3
  go_wp2_with fail
  refine (A.out _ (G.out.below B0.out)).mono ?_
  rintro e w1 ⟨rfl, hb⟩
  have B1 := hide (B0.out.trans (hb.mono B0.out.size))
  clear hb
  go_wp2_with fail
  refine (V.out _ (G.out.below B1.out)).mono ?_
  rintro e w2 ⟨rfl, hb⟩
  have B2 := hide (B1.out.trans (hb.mono B1.out.size))
  clear hb
  go_wp2_with fail
  refine (F.out _ (G.out.below B2.out)).mono ?_
  rintro e w3 ⟨rfl, hb⟩
  have B3 := hide (B2.out.trans (hb.mono B2.out.size))
  clear hb
  go_wp2_with fail
  refine (P.out _ (G.out.below B3.out)).mono ?_
  rintro e w4 ⟨rfl, hb⟩
  have B4 := hide (B3.out.trans (hb.mono B3.out.size))
  clear hb
  go_wp2
  go_ret
  exact ⟨rfl, B4.out⟩

set_option maxHeartbeats 4000000 in
theorem long (n wd : Int) (a b : ByteArray) (w : World) (hg : Gl w) (h : 300 < a.size ∨ 300 < b.size) :
    Calls Tryd.prog 3 #[.int .i64 n, .int .i64 wd, .string a, .string b] w fun e w' => e = .returned (.bool true) ∧ Below w.heap.size w w' := by
  have A := hide (awake_any w hg)
  clear hg
  by_cases h1 : 300 < a.size
  · have h1' : (300 : Int) < (a.size : Int) := by omega
    clear h
    go_enter Tryd.func3, Tryd.ntmps3
    go_wp2_with fail
    refine A.out.mono ?_
    rintro e w1 ⟨rfl, hb⟩
    have Hb := hide hb
    clear hb
    go_wp2
    go_ret
    exact ⟨rfl, Hb.out⟩
  · have h2 : 300 < b.size := by omega
    have h1' : ¬ (300 : Int) < (a.size : Int) := by omega
    have h2' : (300 : Int) < (b.size : Int) := by omega
    clear h
    go_enter Tryd.func3, Tryd.ntmps3
    go_wp2_with fail
    refine A.out.mono ?_
    rintro e w1 ⟨rfl, hb⟩
    have Hb := hide hb
    clear hb
    go_wp2
    go_ret
    exact ⟨rfl, Hb.out⟩
theorem walk (n wd : Int) (a b : ByteArray) (w : World) (_ : (Lit.int .i64 n).wf = true) (_ : (Lit.int .i64 wd).wf = true) (w2 : a.size ≤ maxLen) (w3 : b.size ≤ maxLen) (hg : Gl w) :
    Calls Tryd.prog 3 #[.int .i64 n, .int .i64 wd, .string a, .string b] w fun e w' => e = .returned (.bool true) ∧ Below w.heap.size w w' := by
  by_cases h : 300 < a.size ∨ 300 < b.size
  · exact long n wd a b w hg h
  · have hl : a.data.toList.length ≤ 300 := by rw [← Lib.size_eq]; omega
    have ht : b.data.toList.length ≤ 300 := by rw [← Lib.size_eq]; omega
    rw [bs_of a, bs_of b]
    cases hv : validN n wd a.data.toList with
    | true =>
      by_cases hp : (parseN n wd b.data.toList).2 = 0
      · exact way_vv_pg n wd _ _ w hl ht hg hv hp
      · exact way_vv_pb n wd _ _ w hl ht hg hv hp
    | false =>
      by_cases hp : (parseN n wd b.data.toList).2 = 0
      · exact way_vi_pg n wd _ _ w hl ht hg hv hp
      · exact way_vi_pb n wd _ _ w hl ht hg hv hp
end Go.Proofs.YtpjikbfeegncbaaDoor.valueReturns
