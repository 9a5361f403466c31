/- The walk of NameReturns. -/
import Derived.Test.YtiibjeiadcmenaaDoorNmK
import Derived.Test.YtiibjeiadcmenaaDoorNmR
import Derived.Deep.DeepCutAuto
set_option linter.unusedVariables false
set_option linter.unusedSimpArgs false
namespace Go.Proofs.YtiibjeiadcmenaaDoor.nameReturns
open Go.RowKit Go.Shelf Go.Sort

theorem gl_of_ret {W : World} (h : laidMetH Tryd.prog Rows.nameReturnsRow.laid W) (hS : W.ShapedOpen Tryd.prog) : Gl W := by
  rw [MakeChecks.laidMetH_plain _ _ _ (by kernel_rfl)] at h
  exact gl_mk (x := ("math/bits.deBruijn32tab", Rows.laid_math_bits_deBruijn32tab)) (y := ("math/bits.deBruijn64tab", Rows.laid_math_bits_deBruijn64tab)) (rest := Rows.nameReturnsRow.laid.drop 3) h hS
theorem sl_new (w : World) (L : List ByteArray) : Sl Value.string (w.alloc (.cells (L.map Value.string).toArray 9)) (some ⟨w.heap.size, 0, none⟩) L := by
  intro hp
  refine ⟨w.heap.size, 0, rfl, fun i hi => ?_⟩
  rw [Nat.zero_add, (Row.new w 9 (L.map Value.string).toArray).cell i]
  simp [hi]
theorem split_ret (t : ByteArray) (L : List ByteArray) (hL : Lib.splitB blank 0 (Lib.countB t blank) t = L) (hn : Lib.countB t blank + 1 = L.length) (w : World) (hs : t.size ≤ 1000) (hg : Gl w) :
    Calls Tryd.prog 32 #[.string t, .string ⟨#[32]⟩] w fun e w' => e = .returned (.slice (some ⟨w.heap.size, 0, none⟩) L.length L.length) ∧ Sl Value.string w' (some ⟨w.heap.size, 0, none⟩) L ∧ Below w.heap.size w w' := by
  obtain ⟨m, hm⟩ := hg.maxLen
  have c := Tryd.strings_Split t blank m w (by omega) hm (by decide)
  rw [hn, hL] at c
  refine c.mono ?_
  rintro e w' ⟨rfl, rfl⟩
  exact ⟨rfl, sl_new w L, (Below.refl _ _).alloc (Nat.le_refl _) _⟩
theorem repl_ret (t r : ByteArray) (hr : Lib.replaceAll t.data.toList [32] [] = r.data.toList) (w : World) (hs : t.size ≤ 1000) (hg : Gl w) :
    Calls Tryd.prog 33 #[.string t, .string ⟨#[32]⟩, .string ⟨#[]⟩] w fun e w' => e = .returned (.string r) ∧ Below w.heap.size w w' := by
  obtain ⟨m, hm⟩ := hg.maxLen
  refine (Tryd.strings_ReplaceAll t ⟨#[32]⟩ ⟨#[]⟩ m w (by omega) hm (by decide) ?_).mono ?_
  · show t.size + _ * 0 ≤ _; omega
  · rintro e w' ⟨rfl, hb⟩
    refine ⟨?_, hb⟩
    have e1 : (⟨(Lib.replaceAll t.data.toList [32] []).toArray⟩ : ByteArray) = r := by
      apply Go.WideShapes.bytes_inj
      rw [hr]
    exact ret_s e1.symm
theorem ref_ret (L : List ByteArray) (r : ByteArray × Bool × Int × Int × Int) (hr : refS L = r) (hl : L.length ≤ 100) (hz : ∀ s ∈ L, s.size ≤ 1000) (A : Option Addr) (n cap : Nat) (hn : n = L.length) (w : World) (hw : Sl Value.string w A L) :
    Calls Tryd.prog 28 #[.slice A n cap] w (Ret5 r w.heap.size w) := by
  subst hr
  exact Reference_any A n cap L w hn (by omega) hw (fun s hs => by have := hz s hs; omega)
theorem empty_of (t : ByteArray) (h : t = ⟨#[]⟩) : t.toList = [] := by rw [h, Lib.toList_data]

set_option maxRecDepth 20000 in
set_option maxHeartbeats 16000000 in
theorem walk (s : ByteArray) (rg : Bool) (m n : Int) (w : World) (hz : s.size ≤ maxLen) (_ : (Lit.int .i64 m).wf = true) (_ : (Lit.int .i64 n).wf = true) (hg : Gl w) :
    Calls Tryd.prog 9 #[.string s, .bool rg, .int .i64 m, .int .i64 n] w fun e w' => e = .returned (.bool true) ∧ Below w.heap.size w w' := by
  have AW := hide (awake_any w hg)
  have G := hide hg
  clear hg
  unfold maxLen at hz
  have B0 := hide (Below.refl w.heap.size w)
  by_cases hbig : 60 < s.size
  · have h60 : (60 : Int) < (s.size : Int) := by omega
    go_enter Tryd.func9, Tryd.ntmps9
    go_wp2_with fail
    refine (AW.out).mono ?_
    rintro e w1 ⟨rfl, hb⟩
    have B1 := hide (B0.out.trans (hb.mono B0.out.size))
    clear hb
    go_wp2
    go_ret
    exact ⟨rfl, B1.out⟩
  · have h60 : (s.size : Int) ≤ 60 := by omega
    have F := hide (fun (W : World) (h : Gl W) => FormatReference_any s rg m n W (by omega) h)
    have FR := hide (fun (W : World) (h : Gl W) => FormatRange_any m n W h)
    have HC := hide (fmtRef_cases s rg m n)
    have zf := fmtR_size m n
    have HRB := hide (range_back m n)
    have HB := hide (fmtR_noblank m n)
    have H2 := hide (fun h hr => ref_two (s := s) m n h hr)
    have HJ := hide (fun h he hr => ref_join (s := s) m n h he hr)
    have V := hide (fun W : World => Valid_any s W (by omega))
    have E := hide (fun W : World => Escaped_any s W (by omega))
    have Wd := hide (fun W : World => Width_any m n W)
    have H1 := hide (fun h => ref_one (s := s) h)
    have HNB := hide (fun h => name_noblank (l := s.data.toList) h)
    obtain ⟨fr, hfr⟩ : ∃ fr, fmtR m n = fr := ⟨_, rfl⟩
    rw [hfr] at FR HC HRB HB H2 HJ zf
    obtain ⟨t, ht⟩ : ∃ t, fmtRef s rg m n = t := ⟨_, rfl⟩
    rw [ht] at F HC
    have RB := hide (fun W : World => Range_any fr W (by omega))
    clear hfr ht
    go_enter Tryd.func9, Tryd.ntmps9
    go_wp2_with fail
    refine (AW.out).mono ?_
    rintro e w1 ⟨rfl, hb⟩
    have B1 := hide (B0.out.trans (hb.mono B0.out.size))
    clear hb
    go_wp2_with fail
    refine (FR.out _ (G.out.below B1.out)).mono ?_
    rintro e w2 ⟨rfl, hb⟩
    have B2 := hide (B1.out.trans (hb.mono B1.out.size))
    clear hb
    go_upto_if 29 with fail
    go_cut [10] (fun v wx => Below w.heap.size w wx)
    case first =>
      by_cases hfe : fr = ⟨#[]⟩
      · have hl := empty_of fr hfe
        have hle : fr.toList.isEmpty = true := by rw [hl]; rfl
        have hln : (!fr.toList.isEmpty) = false := by rw [hl]; rfl
        clear hfe
        go_wp2_with fail
        · exact absurd ‹(!fr.toList.isEmpty) = true› (by rw [hln]; decide)
        go_meet
        exact B2.out
      · have hl := isEmpty_dec fr
        rw [decide_eq_false hfe] at hl
        have hln : (!fr.toList.isEmpty) = true := by rw [hl]; rfl
        have hlp : ¬ fr.toList = [] := fun e => by rw [e] at hl; cases hl
        have RB2 := RB.out
        rw [HRB.out hfe] at RB2
        have RB3 := hide RB2
        clear hfe RB2
        go_wp2_with fail
        rotate_left
        · exact absurd ‹(!fr.toList.isEmpty) = false› (by rw [hln]; decide)
        refine (RB3.out _).mono ?_
        rintro e w5 ⟨rfl, hb⟩
        have C5 := hide (B2.out.trans (hb.mono B2.out.size))
        clear hb
        go_wp2_with fail
        go_meet
        exact C5.out
    case rest =>
    have C5 := hide hcut
    clear hcut RB HRB FR
    go_wp2_with fail
    refine (F.out _ (G.out.below C5.out)).mono ?_
    rintro e w6 ⟨rfl, hb⟩
    have C6 := hide (C5.out.trans (hb.mono C5.out.size))
    clear hb
    rcases HC.out with ⟨htE, hA⟩ | ⟨hv, hrg, htE⟩ | ⟨hv, hrg, hrE, htE⟩
    · have hl := empty_of t htE
      have hle : t.toList.isEmpty = true := by rw [hl]; rfl
      clear htE HJ H2 HB H1 HNB HC
      cases hvv : vN s.data.toList with
      | false =>
        rw [hvv] at V
        clear hvv hA
        go_wp2_with fail
        refine (V.out _).mono ?_
        rintro e w7 ⟨rfl, hb⟩
        have C7 := hide (C6.out.trans (hb.mono C6.out.size))
        clear hb
        go_wp2
        go_ret
        exact ⟨rfl, C7.out⟩
      | true =>
        obtain ⟨rfl, hw0⟩ : rg = true ∧ widthS m n = 0 := by
          rcases hA with h | h
          · rw [h] at hvv; cases hvv
          · exact h
        rw [hw0] at Wd
        rw [hvv] at V
        clear hvv hA hw0
        go_wp2_with fail
        refine (V.out _).mono ?_
        rintro e w7 ⟨rfl, hb⟩
        have C7 := hide (C6.out.trans (hb.mono C6.out.size))
        clear hb
        go_wp2_with fail
        refine (Wd.out _).mono ?_
        rintro e w8 ⟨rfl, rfl⟩
        go_wp2
        go_ret
        exact ⟨rfl, C7.out⟩
    · have hsp := split_none s (HNB.out hv)
      have h1' := H1.out hv
      have hl1 := (vN_len hv).1
      rw [size_list] at hl1
      obtain ⟨hlp, hle⟩ := toList_pos (s := s) (by omega)
      have hln : (!s.toList.isEmpty) = true := by rw [hle]; rfl
      have S := hide (fun (W : World) (h : Gl W) => split_ret s [s] hsp.2.1 (by rw [hsp.1]; rfl) W (by omega) h)
      have RP := hide (fun (W : World) (h : Gl W) => repl_ret s s hsp.2.2 W (by omega) h)
      have RF := hide (fun (A : Option Addr) (n cap : Nat) (hn : n = 1) (W : World) (h : Sl Value.string W A [s]) => ref_ret [s] _ h1' (by simp) (by simp; omega) A n cap hn W h)
      generalize escN s.data.toList = es at E
      subst hrg htE
      clear hsp h1' HJ H2 HB H1 HNB HC hv hl1
      go_wp2_with fail
      refine (S.out _ (G.out.below C6.out)).mono ?_
      rintro e w7 ⟨rfl, hsl, hb⟩
      have C7 := hide (C6.out.trans (hb.mono C6.out.size))
      have Hs7 := hide hsl
      clear hb hsl
      go_wp2_with fail
      refine (RF.out _ _ _ rfl _ Hs7.out).mono ?_
      rintro e w8 ⟨rfl, hb⟩
      have C8 := hide (C7.out.trans (hb.mono C7.out.size))
      clear hb
      go_wp2_with fail
      refine (RP.out _ (G.out.below C8.out)).mono ?_
      rintro e w9 ⟨rfl, hb⟩
      have C9 := hide (C8.out.trans (hb.mono C8.out.size))
      have CA := hide (C9.out.alloc C9.out.size (.cells #[.string t] 9))
      clear hb
      go_wp2_with fail
      refine (RF.out _ _ _ rfl _ (sl_new _ [t])).mono ?_
      rintro e w10 ⟨rfl, hb⟩
      have C10 := hide (CA.out.trans (hb.mono CA.out.size))
      clear hb
      go_wp2_with fail
      refine (E.out _).mono ?_
      rintro e w11 ⟨rfl, hb⟩
      have C11 := hide (C10.out.trans (hb.mono C10.out.size))
      clear hb
      cases es
      all_goals
        go_wp2
        go_ret
        exact ⟨rfl, C11.out⟩
    · have hsp := split_two s fr (HNB.out hv) HB.out
      rw [← htE] at hsp
      have h2' := H2.out hv hrE
      have hj' := fun he => HJ.out hv he hrE
      have hsz := size_list s
      have hfz := size_list fr
      obtain ⟨J, hJ⟩ : ∃ J, (⟨(s.data.toList ++ fr.data.toList).toArray⟩ : ByteArray) = J := ⟨_, rfl⟩
      have hJl : J.data.toList = s.data.toList ++ fr.data.toList := by rw [← hJ]
      have hJz : J.size ≤ 1000 := by
        rw [← size_list, hJl, List.length_append]; omega
      have htz : t.size = s.size + 1 + fr.size := by rw [htE, ByteArray.size_append, ByteArray.size_append]; rfl
      obtain ⟨hlp, hle⟩ := toList_pos (s := t) (by omega)
      have hln : (!t.toList.isEmpty) = true := by rw [hle]; rfl
      have S := hide (fun (W : World) (h : Gl W) => split_ret t [s, fr] hsp.2.1 (by rw [hsp.1]; rfl) W (by omega) h)
      have RP := hide (fun (W : World) (h : Gl W) => repl_ret t J (hsp.2.2.trans hJl.symm) W (by omega) h)
      have RF := hide (fun (A : Option Addr) (n cap : Nat) (hn : n = 2) (W : World) (h : Sl Value.string W A [s, fr]) => ref_ret [s, fr] _ h2' (by simp) (by simp; omega) A n cap hn W h)
      rw [hJ] at hj'
      obtain ⟨r5, hr5⟩ : ∃ r5, refS [J] = r5 := ⟨_, rfl⟩
      rw [hr5] at hj'
      have RJ := hide (fun (A : Option Addr) (n cap : Nat) (hn : n = 1) (W : World) (h : Sl Value.string W A [J]) => ref_ret [J] _ hr5 (by simp) (by simp; omega) A n cap hn W h)
      generalize escN s.data.toList = es at E hj'
      obtain ⟨q1, q2, q3, q4, q5⟩ := r5
      have HJ5 := hide hj'
      subst hrg
      clear hsp h2' HJ H2 HB H1 HNB HC hv hJl hJ hJz hr5 hj' htE htz hsz hfz hrE
      go_wp2_with fail
      refine (S.out _ (G.out.below C6.out)).mono ?_
      rintro e w7 ⟨rfl, hsl, hb⟩
      have C7 := hide (C6.out.trans (hb.mono C6.out.size))
      have Hs7 := hide hsl
      clear hb hsl
      go_wp2_with fail
      refine (RF.out _ _ _ rfl _ Hs7.out).mono ?_
      rintro e w8 ⟨rfl, hb⟩
      have C8 := hide (C7.out.trans (hb.mono C7.out.size))
      clear hb
      go_wp2_with fail
      refine (RP.out _ (G.out.below C8.out)).mono ?_
      rintro e w9 ⟨rfl, hb⟩
      have C9 := hide (C8.out.trans (hb.mono C8.out.size))
      have CA := hide (C9.out.alloc C9.out.size (.cells #[.string J] 9))
      clear hb
      go_wp2_with fail
      refine (RJ.out _ _ _ rfl _ (sl_new _ [J])).mono ?_
      rintro e w10 ⟨rfl, hb⟩
      have C10 := hide (CA.out.trans (hb.mono CA.out.size))
      clear hb
      go_wp2_with fail
      refine (E.out _).mono ?_
      rintro e w11 ⟨rfl, hb⟩
      have C11 := hide (C10.out.trans (hb.mono C10.out.size))
      clear hb RJ RF RP S
      cases es with
      | true =>
        clear HJ5
        go_wp2
        go_ret
        exact ⟨rfl, C11.out⟩
      | false =>
        have hq := HJ5.out rfl
        injection hq with e1 hq
        injection hq with e2 hq
        injection hq with e3 hq
        injection hq with e4 e5
        subst e1 e2 e3 e4 e5
        clear HJ5
        go_wp2
        go_ret
        exact ⟨rfl, C11.out⟩
end Go.Proofs.YtiibjeiadcmenaaDoor.nameReturns
