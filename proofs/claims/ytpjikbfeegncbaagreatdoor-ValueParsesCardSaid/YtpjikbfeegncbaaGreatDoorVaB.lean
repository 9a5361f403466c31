/- Contracts of bitvector's All, Extend and Shorten. -/
import Derived.Test.YtpjikbfeegncbaaGreatDoorVaA
import Derived.Deep.DeepCutAuto
set_option linter.unusedVariables false
set_option linter.unusedSimpArgs false
namespace Go.Proofs.YtpjikbfeegncbaaGreatDoor
open Go.RowKit Go.Shelf Go.Sort

/-- a byte, so many times -/
theorem rep_any (c : UInt8) (k : Nat) (w : World) (hk : k ≤ 1000000) :
    Calls Tryz.prog 108 #[.string ⟨#[c]⟩, .int .i64 (k : Nat)] w fun e w' => e = .returned (.string (bsV (List.replicate k c))) ∧ Below w.heap.size w w' := by
  have h := Tryz.strings_Repeat ⟨#[c]⟩ k w (by omega) (by show 1 * k ≤ _; omega)
  have e : Lib.repeatL (⟨#[c]⟩ : ByteArray).data.toList k = List.replicate k c := by
    have := Lib.repeatL_replicate c 1 k
    rw [Nat.mul_one] at this
    exact this
  rw [e] at h
  exact h
theorem conv1b (w : World) (c : UInt8) : (convert 60 9 (.slice (some ⟨w.heap.size, 0, none⟩) 1 1)).run Tryz.prog (w.alloc (.cells #[.int .u8 (c.toNat : Int)] 5)) = .ok (.string ⟨#[c]⟩) (w.alloc (.cells #[.int .u8 (c.toNat : Int)] 5)) := by
  refine run_convert_bytes_back _ _ _ 5 ⟨w.heap.size, 0, none⟩ 1 [c] (by kernel_rfl) (by kernel_rfl) (by kernel_rfl) ?_
  intro j hj
  obtain rfl : j = 0 := by simpa using hj
  exact (Row.new w 5 #[.int .u8 (c.toNat : Int)]).cell 0
/-- what All returns -/
def allV (n : Int) (c : UInt8) : List UInt8 := if n < 1 ∨ 128 < n ∨ chB c = false then [] else List.replicate n.toNat c
set_option maxRecDepth 20000 in
set_option maxHeartbeats 4000000 in
theorem bvAll_any (n : Int) (c : UInt8) (w : World) :
    Calls Tryz.prog 80 #[.int .i64 n, .int .u8 (c.toNat : Int)] w fun e w' => e = .returned (.string (bsV (allV n c))) ∧ Below w.heap.size w w' := by
  have V := hide (fun W : World => logicValid_any c W)
  by_cases h1 : n < 1
  · have hR : allV n c = [] := if_pos (.inl h1)
    rw [hR]
    clear hR
    go_enter Tryz.func80, Tryz.ntmps80
    go_wp2
    go_ret
    exact ⟨rfl, Below.refl _ _⟩
  · by_cases h2 : 128 < n
    · have hR : allV n c = [] := if_pos (.inr (.inl h2))
      rw [hR]
      clear hR
      go_enter Tryz.func80, Tryz.ntmps80
      go_wp2
      go_ret
      exact ⟨rfl, Below.refl _ _⟩
    · cases hc : chB c with
      | false =>
        have hR : allV n c = [] := if_pos (.inr (.inr hc))
        rw [hR]
        rw [hc] at V
        clear hR hc
        go_enter Tryz.func80, Tryz.ntmps80
        go_wp2_with fail
        refine (V.out _).mono ?_
        rintro e wx ⟨rfl, rfl⟩
        go_wp2
        go_ret
        exact ⟨rfl, Below.refl _ _⟩
      | true =>
        have hR : allV n c = List.replicate n.toNat c := if_neg (by rintro (h | h | h); exact h1 h; exact h2 h; rw [hc] at h; cases h)
        rw [hR]
        rw [hc] at V
        obtain ⟨k, rfl⟩ : ∃ k : Nat, n = k := ⟨n.toNat, by omega⟩
        have R := hide (fun W : World => rep_any c k W (by omega))
        have hcv := fun W : World => conv1b W c
        rw [show ((k : Int)).toNat = k from rfl]
        clear hR hc
        go_enter Tryz.func80, Tryz.ntmps80
        go_wp2_with fail
        refine (V.out _).mono ?_
        rintro e wx ⟨rfl, rfl⟩
        go_wp2_with fail
        refine (R.out _).mono ?_
        rintro e wy ⟨rfl, hb⟩
        have Hb := hide (((Below.refl wx.heap.size wx).alloc (Nat.le_refl _) (.cells #[.int .u8 (c.toNat : Int)] 5)).trans (hb.mono (by rw [World.size_alloc]; omega)))
        clear hb
        go_wp2
        go_ret
        exact ⟨rfl, Hb.out⟩
/-- what Extend returns, as a walk reads it -/
theorem extendV_parts (n : Int) (s : ByteArray) : extendV n s.data.toList =
    if n < 1 ∨ 128 < n then ([], 1) else if s.size = 0 ∨ sum4 s.data.toList ≠ s.size then ([], 3) else if n < s.size then ([], 8) else (extL n.toNat s.data.toList, 0) := by
  have hl : s.data.toList.length = s.size := (Lib.size_eq s).symm
  unfold extendV
  have e1 : (s.data.toList = [] ∨ s.data.toList.all chB = false) ↔ (s.size = 0 ∨ sum4 s.data.toList ≠ s.size) := by
    rw [← List.length_eq_zero_iff, hl]
    have := (sum4_le s.data.toList).2
    rw [hl] at this
    constructor
    · rintro (h | h)
      · exact .inl h
      · right; intro e; rw [this.1 e] at h; cases h
    · rintro (h | h)
      · exact .inl h
      · right
        cases ha : s.data.toList.all chB with
        | false => rfl
        | true => exact absurd (this.2 ha) h
  simp only [e1, hl]
set_option maxRecDepth 20000 in
set_option maxHeartbeats 8000000 in
theorem bvExtend_any (n : Int) (s : ByteArray) (w : World) (hz : s.size ≤ 1000000) :
    Calls Tryz.prog 110 #[.int .i64 n, .string s] w fun e w' => e = .returned (.tuple #[.string (bsV (extendV n s.data.toList).1), .int .i64 (extendV n s.data.toList).2]) ∧ Below w.heap.size w w' := by
  have C := hide (fun W : World => Count_any s W hz)
  have hl : s.data.toList.length = s.size := (Lib.size_eq s).symm
  have hp := extendV_parts n s
  have hsl := (sum4_le s.data.toList).1
  rw [hl] at hsl
  unfold sum4 at hp hsl
  unfold cnt4 at C
  generalize s.data.toList.count 48 = n0 at *
  generalize s.data.toList.count 49 = n1 at *
  generalize s.data.toList.count 120 = n2 at *
  generalize s.data.toList.count 122 = n3 at *
  obtain ⟨R, hR⟩ : ∃ R, extendV n s.data.toList = R := ⟨_, rfl⟩
  rw [hR] at hp ⊢
  have hsz : (s.size : Int) ≤ 1000000 := by omega
  have b0 : (n0 : Int) ≤ 1000000 := by omega
  have b1 : (n0 : Int) + n1 ≤ 1000000 := by omega
  have b2 : (n0 : Int) + n1 + n2 ≤ 1000000 := by omega
  have b3 : (n0 : Int) + n1 + n2 + n3 ≤ 1000000 := by omega
  clear hR
  by_cases h1 : n < 1
  · rw [if_pos (.inl h1)] at hp
    subst hp
    clear hl hsl
    go_enter Tryz.func110, Tryz.ntmps110
    go_wp2
    go_ret2
    exact ⟨rfl, Below.refl _ _⟩
  · by_cases h2 : 128 < n
    · rw [if_pos (.inr h2)] at hp
      subst hp
      clear hl hsl
      go_enter Tryz.func110, Tryz.ntmps110
      go_wp2
      go_ret2
      exact ⟨rfl, Below.refl _ _⟩
    · rw [if_neg (by omega)] at hp
      by_cases h0 : 0 < s.size
      · have he : s.toList.isEmpty = false := by
          cases hh : s.toList with
          | nil => rw [Lib.toList_data] at hh; rw [hh] at hl; simp at hl; omega
          | cons a t => rfl
        have hn : ¬ s.toList = [] := fun e => by rw [e] at he; cases he
        by_cases hs : n0 + n1 + n2 + n3 = s.size
        · have hs' : ((n0 : Int) + n1 + n2 + n3 != (s.size : Int)) = false := by
            have : (n0 : Int) + n1 + n2 + n3 = s.size := by omega
            rw [this]; simp
          rw [if_neg (by rintro (h | h); omega; exact h hs)] at hp
          by_cases h3 : n < s.size
          · rw [if_pos h3] at hp
            subst hp
            clear hl hsl hs
            go_enter Tryz.func110, Tryz.ntmps110
            go_wp2_with fail
            refine (C.out _).mono ?_
            rintro e wx ⟨rfl, hb⟩
            have Hb := hide hb
            clear hb
            go_wp2
            go_ret2
            exact ⟨rfl, Hb.out.alloc Hb.out.size _⟩
          · rw [if_neg h3] at hp
            subst hp
            obtain ⟨k, hk⟩ : ∃ k : Nat, n - s.size = k := ⟨(n - s.size).toNat, by omega⟩
            have hk' : n.toNat - s.data.toList.length = k := by rw [hl]; omega
            obtain ⟨c, hc⟩ : ∃ c, s[0]'h0 = c := ⟨_, rfl⟩
            have hfr : frontC s.data.toList = frC c := by
              unfold frontC
              rw [List.headD_eq_head?_getD, List.head?_eq_getElem?, Lib.data_getElem? s 0 h0, hc]; rfl
            have hres : bsV (extL n.toNat s.data.toList) = bsV (List.replicate k (frC c)) ++ s := by
              apply Go.WideShapes.bytes_inj
              rw [bsV_list, bsV_app, bsV_list]
              unfold extL
              rw [hk', hfr]
            rw [hres]
            have cat := fun W => cat_run (P := Tryz.prog) (bsV (List.replicate k (frC c))) s (by rw [Lib.size_eq, bsV_list, List.length_replicate]; omega) W
            have Hc := hide hc
            have h3' : (s.size : Int) ≤ n := by omega
            clear hl hsl hs hk' hfr hres hc
            obtain ⟨f, hf⟩ : ∃ f, frC c = f := ⟨_, rfl⟩
            have Hf := hide hf
            rw [hf] at cat ⊢
            have Rp := hide (fun W : World => rep_any f k W (by omega))
            have hcv := fun W : World => conv1b W f
            clear hf
            go_enter Tryz.func110, Tryz.ntmps110
            go_wp2_with fail
            refine (C.out _).mono ?_
            rintro e wx ⟨rfl, hb⟩
            have Hb := hide (hb.alloc hb.size (.cells #[.int .i64 (n0 : Nat), .int .i64 (n1 : Nat), .int .i64 (n2 : Nat), .int .i64 (n3 : Nat)] 122))
            clear hb
            go_upto_region 9 with fail
            rw [Hc.out]
            go_upto_if 41 with fail
            go_cut [7] (fun v wy => v = .int .u8 (f.toNat : Int) ∧ Below w.heap.size w wy)
            case first =>
              by_cases h49 : c = 49
              · have e49 : ((c.toNat : Int) == 49) = true := by rw [h49]; rfl
                have hf : f = 48 := by rw [← Hf.out, h49]; rfl
                subst hf
                go_wp2_with fail
                go_meet
                exact ⟨rfl, Hb.out⟩
              · have e49 : ((c.toNat : Int) == 49) = false := beq_eq_false_iff_ne.2 (fun e => h49 ((u8i c 49).1 e))
                have hf : f = c := by rw [← Hf.out]; unfold frC; rw [if_neg h49]
                subst hf
                go_wp2_with fail
                go_meet
                exact ⟨rfl, Hb.out⟩
            case rest =>
            obtain ⟨rfl, hb⟩ := hcut
            have Hb2 := hide hb
            have Hb3 := hide (hb.alloc hb.size (.cells #[.int .u8 (f.toNat : Int)] 5))
            clear hb Hb
            go_wp2_with fail
            refine (Rp.out _).mono ?_
            rintro e wy ⟨rfl, hb⟩
            have Hb4 := hide (Hb3.out.trans (hb.mono Hb3.out.size))
            clear hb
            go_wp2
            go_ret2
            exact ⟨rfl, Hb4.out⟩
        · have hs' : ((n0 : Int) + n1 + n2 + n3 != (s.size : Int)) = true := by
            have : (n0 : Int) + n1 + n2 + n3 ≠ s.size := by omega
            simpa using this
          rw [if_pos (.inr hs)] at hp
          subst hp
          clear hl hsl hs
          go_enter Tryz.func110, Tryz.ntmps110
          go_wp2_with fail
          refine (C.out _).mono ?_
          rintro e wx ⟨rfl, hb⟩
          have Hb := hide hb
          clear hb
          go_wp2
          go_ret2
          exact ⟨rfl, Hb.out.alloc Hb.out.size _⟩
      · have h0' : s.size = 0 := by omega
        rw [if_pos (.inl h0')] at hp
        subst hp
        have hs0 : s = ⟨#[]⟩ := ByteArray.ext (Array.eq_empty_of_size_eq_zero (by show s.size = 0; omega))
        have he : s.toList.isEmpty = true := by rw [hs0, Lib.toList_data]; rfl
        have hn : s.toList = [] := by rw [hs0, Lib.toList_data]
        clear hl hsl hs0 h0'
        go_enter Tryz.func110, Tryz.ntmps110
        go_wp2_with fail
        refine (C.out _).mono ?_
        rintro e wx ⟨rfl, hb⟩
        have Hb := hide hb
        clear hb
        go_wp2
        go_ret2
        exact ⟨rfl, Hb.out.alloc Hb.out.size _⟩
end Go.Proofs.YtpjikbfeegncbaaGreatDoor
