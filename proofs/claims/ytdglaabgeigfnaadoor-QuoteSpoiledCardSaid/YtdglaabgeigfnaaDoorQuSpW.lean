/- The walk of the law QuoteSpoiled. -/
import Derived.Test.YtdglaabgeigfnaaDoorQuJoW
import Derived.IntWalk
import Derived.Lib.IndexLaws
set_option linter.unusedVariables false
namespace Go.Proofs.YtdglaabgeigfnaaDoor.quoteSpoiled
open Go.RowKit Go.Shelf Go.Sort

open quoteJoins (splitL_app)
theorem allW_split (c : UInt8) (t : ByteArray) : allW (splitB c t) = (splitL c t.data.toList).all wordB := by
  unfold allW splitB
  rw [List.all_map]; rfl
theorem vw_bad (t : ByteArray) (h0 : 0 < t.size) (h : (splitL 32 t.data.toList).all wordB = false) : vwB t = false := by
  have hn : ¬ t.size = 0 := by omega
  have hj : ¬ (joinRes (splitB 32 t)).2 = 0 := by rw [joinRes_no (by rw [allW_split]; exact h)]; decide
  rw [vwB_pos hn, wordsRes_no hn hj]; rfl
theorem app_list (a b : ByteArray) : (a ++ b).data.toList = a.data.toList ++ b.data.toList := by rw [ByteArray.data_append, Array.toList_append]
theorem run_plus {P : Program} (a b : ByteArray) (h : a.size + b.size ≤ 70368744177664) (w : World) : (Op.stringOp .add a b).run P w = .ok (.string (a ++ b)) w := by
  rw [run_string_add_sum w _ _ (by omega)]
theorem all_of_mem {l : List (List UInt8)} {x : List UInt8} (hx : x ∈ l) (h : wordB x = false) : l.all wordB = false := by
  rw [List.all_eq_false]; exact ⟨x, hx, by rw [h]; decide⟩
theorem bad1 (s : ByteArray) : vwB (⟨#[32]⟩ ++ s) = false :=
  vw_bad _ (by rw [ByteArray.size_append]; show 0 < 1 + _; omega) (by
    rw [app_list]
    show (splitL 32 (32 :: s.data.toList)).all wordB = false
    rw [splitL, if_pos rfl]; rfl)
theorem bad2 (s : ByteArray) : vwB (s ++ ⟨#[32]⟩) = false :=
  vw_bad _ (by rw [ByteArray.size_append]; show 0 < _ + 1; omega) (by
    rw [app_list]
    show (splitL 32 (s.data.toList ++ 32 :: [])).all wordB = false
    rw [splitL_app]
    exact all_of_mem (x := []) (by simp [splitL]) rfl)
theorem dollar (l : List UInt8) : ∃ x ∈ splitL 32 (36 :: l), wordB x = false := by
  rw [splitL, if_neg (by decide)]
  cases h : splitL 32 l with
  | nil => exact absurd h (splitL_ne 32 l)
  | cons p ps => exact ⟨36 :: p, by simp, rfl⟩
theorem bad3 (s : ByteArray) : vwB (⟨#[36]⟩ ++ s) = false :=
  vw_bad _ (by rw [ByteArray.size_append]; show 0 < 1 + _; omega) (by
    rw [app_list]
    obtain ⟨x, hx, h⟩ := dollar s.data.toList
    exact all_of_mem hx h)
theorem parts (s : ByteArray) (i : Nat) (h : i < s.size) (hc : s[i]'h = 32) : (s.extract 0 i).data.toList = s.data.toList.take i ∧ (s.extract i s.size).data.toList = 32 :: s.data.toList.drop (i + 1) ∧
    (s.extract 0 (i + 1)).data.toList = s.data.toList.take i ++ [32] ∧ (s.extract (i + 1) s.size).data.toList = s.data.toList.drop (i + 1) := by
  refine ⟨(cut_lists s i).1, ?_, ?_, rest_list s (i + 1)⟩
  · rw [rest_list, drop_at s i h, hc]
  · rw [(cut_lists s (i + 1)).1, take_snoc s i h, hc]
theorem bad4 (s : ByteArray) (i : Nat) (h : i < s.size) (hc : s[i]'h = 32) : vwB (s.extract 0 i ++ ⟨#[32]⟩ ++ s.extract i s.size) = false := by
  obtain ⟨h1, h2, _, _⟩ := parts s i h hc
  refine vw_bad _ (by rw [ByteArray.size_append, ByteArray.size_append]; show 0 < _ + 1 + _; omega) ?_
  rw [app_list, app_list, h1, h2]
  show (splitL 32 (s.data.toList.take i ++ [32] ++ 32 :: s.data.toList.drop (i + 1))).all wordB = false
  rw [splitL_app]
  rw [show splitL 32 (s.data.toList.take i ++ [32]) = splitL 32 (s.data.toList.take i) ++ splitL 32 [] from splitL_app 32 _ []]
  exact all_of_mem (x := []) (by simp [splitL]) rfl
theorem bad5 (s : ByteArray) (i : Nat) (h : i < s.size) (hc : s[i]'h = 32) : vwB (s.extract 0 (i + 1) ++ ⟨#[36]⟩ ++ s.extract (i + 1) s.size) = false := by
  obtain ⟨_, _, h3, h4⟩ := parts s i h hc
  refine vw_bad _ (by rw [ByteArray.size_append, ByteArray.size_append]; show 0 < _ + 1 + _; omega) ?_
  rw [app_list, app_list, h3, h4]
  show (splitL 32 (s.data.toList.take i ++ [32] ++ [36] ++ s.data.toList.drop (i + 1))).all wordB = false
  rw [show s.data.toList.take i ++ [32] ++ [36] ++ s.data.toList.drop (i + 1) = s.data.toList.take i ++ 32 :: (36 :: s.data.toList.drop (i + 1)) by simp]
  rw [splitL_app]
  obtain ⟨x, hx, h⟩ := dollar (s.data.toList.drop (i + 1))
  exact all_of_mem (List.mem_append_right _ hx) h
theorem index_hit (s : ByteArray) (o m : Nat) (h : Lib.indexByte (s.extract o s.size).data.toList 32 = (m : Int)) : ∃ hi : m + o < s.size, s[m + o]'hi = 32 := by
  have h1 := (Lib.indexByte_some h).1
  rw [rest_list, List.getElem?_drop] at h1
  obtain ⟨hlt, e⟩ := List.getElem?_eq_some_iff.1 h1
  have hi : m + o < s.size := by rw [Lib.size_eq]; omega
  refine ⟨hi, ?_⟩
  have h2 := Lib.data_getElem? s (m + o) hi
  rw [Nat.add_comm o m] at h1
  rw [h1] at h2
  exact (Option.some.inj h2).symm

set_option maxHeartbeats 4000000 in
set_option maxRecDepth 100000 in
theorem walk (s : ByteArray) (a1 : Int) (w : World) (w0 : s.size ≤ maxLen) (w1 : (Lit.int .u8 a1).wf = true) :
    Calls Tryd.prog 9 #[.string s, .int .u8 a1] w fun e w' => e = .returned (.bool true) ∧ Below w.heap.size w w' := by
  obtain ⟨u0, u1⟩ := u8_bounds w1
  obtain ⟨k, rfl⟩ : ∃ k : Nat, a1 = (k : Int) := ⟨a1.toNat, by omega⟩
  clear w1
  unfold maxLen at w0
  by_cases hz : s.size = 0
  · obtain rfl := empty_of (s := s) (by omega)
    clear hz w0
    go_enter Tryd.func9, Tryd.ntmps9
    go_wp2_with fail
    refine (awake_any _).mono ?_
    rintro e w1 ⟨rfl, hB1⟩
    have B1 := hide hB1
    clear hB1
    go_wp2
    go_ret
    exact ⟨rfl, B1.out⟩
  obtain ⟨hne, hemp⟩ := toList_ne (s := s) (by omega)
  by_cases hbig : (199 : Int) < (s.size : Int)
  · clear hz
    go_enter Tryd.func9, Tryd.ntmps9
    go_wp2_with fail
    refine (awake_any _).mono ?_
    rintro e w1 ⟨rfl, hB1⟩
    have B1 := hide hB1
    clear hB1
    go_wp2
    go_ret
    exact ⟨rfl, B1.out⟩
  have V := hide (fun W : World => ValidWords_any s W (by omega))
  cases hv : vwB s with
  | false =>
    rw [hv] at V
    clear hv hz
    go_enter Tryd.func9, Tryd.ntmps9
    go_wp2_with fail
    refine (awake_any _).mono ?_
    rintro e w1 ⟨rfl, hB1⟩
    have B1 := hide hB1
    clear hB1
    go_wp2_with fail
    refine (V.out _).mono ?_
    rintro e w2 ⟨rfl, hB2⟩
    have B2 := hide hB2
    clear hB2
    go_wp2
    go_ret
    exact ⟨rfl, (B1.out.trans (B2.out.mono B1.out.size))⟩
  | true =>
    rw [hv] at V
    have V1 := hide (fun W : World => ValidWords_any (⟨#[32]⟩ ++ s) W (by rw [ByteArray.size_append]; show 1 + _ ≤ _; omega))
    have V2 := hide (fun W : World => ValidWords_any (s ++ ⟨#[32]⟩) W (by rw [ByteArray.size_append]; show _ + 1 ≤ _; omega))
    have V3 := hide (fun W : World => ValidWords_any (⟨#[36]⟩ ++ s) W (by rw [ByteArray.size_append]; show 1 + _ ≤ _; omega))
    rw [bad1] at V1
    rw [bad2] at V2
    rw [bad3] at V3
    have c1 := fun W => run_plus (P := Tryd.prog) ⟨#[32]⟩ s (by show 1 + _ ≤ _; omega) W
    have c2 := fun W => run_plus (P := Tryd.prog) s ⟨#[32]⟩ (by show _ + 1 ≤ _; omega) W
    have c3 := fun W => run_plus (P := Tryd.prog) ⟨#[36]⟩ s (by show 1 + _ ≤ _; omega) W
    obtain ⟨o, ho⟩ : ∃ o : Nat, (k : Int) % (s.size : Int) = (o : Int) := ⟨k % s.size, by omega⟩
    have ho1 : o < s.size := by have := Int.emod_lt_of_pos (k : Int) (show (0 : Int) < (s.size : Int) by omega); omega
    have g1 : (0 : Int) ≤ (o : Int) := by omega
    have g2 : (o : Int) ≤ (s.size : Int) := by omega
    have g3 : ¬ (s.size : Int) = 0 := by omega
    have I := hide (fun W : World => Tryd.strings_IndexByte (s.extract o s.size) 32 W)
    rw [show ((32 : Int).toNat).toUInt8 = 32 from rfl] at I
    have hig := Lib.indexByte_ge (s.extract o s.size).data.toList 32
    by_cases hm : Lib.indexByte (s.extract o s.size).data.toList 32 = -1
    · rw [hm] at I
      clear hv hz hig hm
      go_enter Tryd.func9, Tryd.ntmps9
      go_wp2_with fail
      refine (awake_any _).mono ?_
      rintro e w1 ⟨rfl, hB1⟩
      have B1 := hide hB1
      clear hB1
      go_wp2_with fail
      refine (V.out _).mono ?_
      rintro e w2 ⟨rfl, hB2⟩
      have B2 := hide hB2
      clear hB2
      go_wp2_with fail
      refine (V1.out _).mono ?_
      rintro e w3 ⟨rfl, hB3⟩
      have B3 := hide hB3
      clear hB3
      go_wp2_with fail
      refine (V2.out _).mono ?_
      rintro e w4 ⟨rfl, hB4⟩
      have B4 := hide hB4
      clear hB4
      go_wp2_with fail
      refine (V3.out _).mono ?_
      rintro e w5 ⟨rfl, hB5⟩
      have B5 := hide hB5
      clear hB5
      go_wp2_with fail
      refine (I.out _).mono ?_
      rintro e w6 ⟨rfl, rfl⟩
      go_wp2
      go_ret
      exact ⟨rfl, ((((B1.out.trans (B2.out.mono B1.out.size)).trans (B3.out.mono (by have := B1.out.size; have := B2.out.size; omega))).trans (B4.out.mono (by have := B1.out.size; have := B2.out.size; have := B3.out.size; omega))).trans (B5.out.mono (by have := B1.out.size; have := B2.out.size; have := B3.out.size; have := B4.out.size; omega)))⟩
    · obtain ⟨m, hm2⟩ : ∃ m : Nat, Lib.indexByte (s.extract o s.size).data.toList 32 = (m : Int) := ⟨(Lib.indexByte (s.extract o s.size).data.toList 32).toNat, by omega⟩
      obtain ⟨hi, hc⟩ := index_hit s o m hm2
      rw [hm2] at I
      have z1 : (s.extract 0 (m + o)).size ≤ 199 := by rw [ByteArray.size_extract]; omega
      have z2 : (s.extract (m + o) s.size).size ≤ 199 := by rw [ByteArray.size_extract]; omega
      have z3 : (s.extract 0 (m + o + 1)).size ≤ 199 := by rw [ByteArray.size_extract]; omega
      have z4 : (s.extract (m + o + 1) s.size).size ≤ 199 := by rw [ByteArray.size_extract]; omega
      obtain ⟨t4, ht4⟩ : ∃ t, s.extract 0 (m + o) ++ ⟨#[32]⟩ ++ s.extract (m + o) s.size = t := ⟨_, rfl⟩
      obtain ⟨t5, ht5⟩ : ∃ t, s.extract 0 (m + o + 1) ++ ⟨#[36]⟩ ++ s.extract (m + o + 1) s.size = t := ⟨_, rfl⟩
      have V4 := hide (fun W : World => ValidWords_any t4 W (by rw [← ht4, ByteArray.size_append, ByteArray.size_append]; show _ + 1 + _ ≤ _; omega))
      have V5 := hide (fun W : World => ValidWords_any t5 W (by rw [← ht5, ByteArray.size_append, ByteArray.size_append]; show _ + 1 + _ ≤ _; omega))
      have b4 := bad4 s (m + o) hi hc
      have b5 := bad5 s (m + o) hi hc
      rw [ht4] at b4
      rw [ht5] at b5
      rw [b4] at V4
      rw [b5] at V5
      have c4 := fun W => run_plus (P := Tryd.prog) (s.extract 0 (m + o)) ⟨#[32]⟩ (by show _ + 1 ≤ _; omega) W
      have c5 : ∀ W, (Op.stringOp .add (s.extract 0 (m + o) ++ ⟨#[32]⟩) (s.extract (m + o) s.size)).run Tryd.prog W = .ok (.string t4) W := fun W => by rw [run_plus _ _ (by rw [ByteArray.size_append]; show _ + 1 + _ ≤ _; omega), ht4]
      have c6 := fun W => run_plus (P := Tryd.prog) (s.extract 0 (m + o + 1)) ⟨#[36]⟩ (by show _ + 1 ≤ _; omega) W
      have c7 : ∀ W, (Op.stringOp .add (s.extract 0 (m + o + 1) ++ ⟨#[36]⟩) (s.extract (m + o + 1) s.size)).run Tryd.prog W = .ok (.string t5) W := fun W => by rw [run_plus _ _ (by rw [ByteArray.size_append]; show _ + 1 + _ ≤ _; omega), ht5]
      clear ht4 ht5 b4 b5
      have m1 : (0 : Int) ≤ (m : Int) := by omega
      have m2 : (0 : Int) ≤ (m : Int) + (o : Int) := by omega
      have m3 : (m : Int) + (o : Int) ≤ (s.size : Int) := by omega
      have m4 : (m : Int) + (o : Int) + 1 ≤ (s.size : Int) := by omega
      have m5 : (0 : Int) ≤ (m : Int) + (o : Int) + 1 := by omega
      have m6 : ((m : Int) + (o : Int)).toNat = m + o := by omega
      have m7 : ((m : Int) + (o : Int) + 1).toNat = m + o + 1 := by omega
      have m9 : (m : Int) ≤ 199 := by omega
      have m10 : (o : Int) ≤ 199 := by omega
      clear hv hz hig hm hm2 hc hi z1 z2 z3 z4
      go_enter Tryd.func9, Tryd.ntmps9
      go_wp2_with fail
      refine (awake_any _).mono ?_
      rintro e w1 ⟨rfl, hB1⟩
      have B1 := hide hB1
      clear hB1
      go_wp2_with fail
      refine (V.out _).mono ?_
      rintro e w2 ⟨rfl, hB2⟩
      have B2 := hide hB2
      clear hB2
      go_wp2_with fail
      refine (V1.out _).mono ?_
      rintro e w3 ⟨rfl, hB3⟩
      have B3 := hide hB3
      clear hB3
      go_wp2_with fail
      refine (V2.out _).mono ?_
      rintro e w4 ⟨rfl, hB4⟩
      have B4 := hide hB4
      clear hB4
      go_wp2_with fail
      refine (V3.out _).mono ?_
      rintro e w5 ⟨rfl, hB5⟩
      have B5 := hide hB5
      clear hB5
      go_wp2_with fail
      refine (I.out _).mono ?_
      rintro e w6 ⟨rfl, rfl⟩
      go_wp2_with fail
      have C4 : ∀ t, (t = t4 ∨ t = t5) → ∀ d os, Calls Tryd.prog 18 #[.string t] (grow (redrawn w6 d) os) fun e w'' => e = .returned (.bool false) ∧ ∃ p : Regrown, w'' = grow (redrawn w6 p.d) p.os := by
        rintro t (rfl | rfl) d os
        · exact Calls.regrown_of (V4.out _)
        · exact Calls.regrown_of (V5.out _)
      have HC4 := hide C4
      clear C4
      have m8 : IntKind.i64.wrap ((m : Int) + (o : Int) + 1) = (m : Int) + (o : Int) + 1 := IntWalk.i64_in _ (by omega)
      refine wp_region_quiet_below (by kernel_rfl) (by kernel_rfl) ?_
      repeat (go_big_quiet_step (exact HC4.out _ (by first | exact .inl rfl | exact .inr rfl) _ _))
      refine wpQuiet_nil ?_
      intro _ hw'
      obtain ⟨⟨dq, osq⟩, hw''⟩ := hw'
      subst hw''
      clear m8
      have BQ := hide (((((B1.out.trans (B2.out.mono B1.out.size)).trans (B3.out.mono (by have := B1.out.size; have := B2.out.size; omega))).trans (B4.out.mono (by have := B1.out.size; have := B2.out.size; have := B3.out.size; omega))).trans (B5.out.mono (by have := B1.out.size; have := B2.out.size; have := B3.out.size; have := B4.out.size; omega))))
      go_wp2
      go_ret
      exact ⟨rfl, BQ.out.trans ((below_regrown w6 dq osq).mono BQ.out.size)⟩
end Go.Proofs.YtdglaabgeigfnaaDoor.quoteSpoiled
