/- MgI: the texts QrH QrI QrJ in one. -/
import Derived.Test.YtjlpekjfmgcbdaaGreatDoorMgH
/- Contract of the reference's raw. -/
set_option linter.unusedVariables false
set_option linter.unusedSimpArgs false
namespace Go.Proofs.YtjlpekjfmgcbdaaGreatDoor
open Go.RowKit Go.Shelf
def rawE : Array MapEntry := #[{ key := .int .u8 98, val := .int .i64 1, born := 0 }, { key := .int .u8 111, val := .int .i64 3, born := 1 }, { key := .int .u8 104, val := .int .i64 4, born := 2 }]
theorem look_raw (w : World) (r : Nat) (h : w.heap[r]? = some (.map rawE 3)) (b : UInt8) :
    (Instr.lookup 54 (.map (some r)) (.int .u8 b.toNat) false).run Tryz.prog w = .ok (.int .i64 (((baseQ b).getD 0 : Nat) : Int)) w := by
  by_cases h1 : b = 98
  · subst h1; exact lookQ w _ _ _ _ r _ _ _ 0 _ false Tryz.underlying54 Tryz.underlying5 rfl h rfl
  by_cases h2 : b = 111
  · subst h2; exact lookQ w _ _ _ _ r _ _ _ 1 _ false Tryz.underlying54 Tryz.underlying5 rfl h rfl
  by_cases h3 : b = 104
  · subst h3; exact lookQ w _ _ _ _ r _ _ _ 2 _ false Tryz.underlying54 Tryz.underlying5 rfl h rfl
  have hn : (baseQ b).getD 0 = 0 := by unfold baseQ; rw [if_neg h1, if_neg h2, if_neg h3]; by_cases h4 : b = 100; rw [if_pos h4]; rfl; rw [if_neg h4]; rfl
  rw [hn]
  refine lookQ_none w _ _ _ _ r _ _ _ _ false Tryz.underlying54 Tryz.underlying5 rfl h ?_ (zeroQ w)
  have g (c : UInt8) (k : Nat) (hk : c.toNat = k) (h : ¬ b = c) : ((b.toNat : Int) == (k : Int)) = false := beq_eq_false_iff_ne.2 fun e => h (UInt8.toNat_inj.1 (by omega))
  have e1 := g _ 98 rfl h1
  have e2 := g _ 111 rfl h2
  have e3 := g _ 104 rfl h3
  simp only [Int.cast_ofNat_Int] at e1 e2 e3
  simp [rawE, Instr.findNow, Instr.sameNow, e1, e2, e3]
theorem hexQ_lowR (c : UInt8) : hexQ (lowR c) = hexQ c := all_bytes (p := fun c => hexQ (lowR c) = hexQ c) (by decide +kernel) c
theorem unk_low (c : UInt8) : (lowR c = 120 ∨ lowR c = 122 → unkQ c = lowR c ∧ unkQ c ≠ 0) ∧ (¬ (lowR c = 120 ∨ lowR c = 122) → unkQ c = 0) :=
  all_bytes (p := fun c => (lowR c = 120 ∨ lowR c = 122 → unkQ c = lowR c ∧ unkQ c ≠ 0) ∧ (¬ (lowR c = 120 ∨ lowR c = 122) → unkQ c = 0)) (by decide +kernel) c
set_option maxRecDepth 20000 in
set_option maxHeartbeats 8000000 in
theorem refRaw_other (l : List UInt8) (b : UInt8) (w : World) (hl : l.length ≤ 1000) (hb : b ≠ 100) (hd : ∀ c ∈ l, unkQ c ≠ 0 ∨ (0 ≤ hexQ c ∧ hexQ c < ((2 ^ (baseQ b).getD 0 : Nat) : Int))) :
    Calls Tryz.prog 43 #[.int .u8 (b.toNat : Int), .string (bsQ l)] w fun e w' => e = .returned (.string (bsQ (spellQ ((baseQ b).getD 0) l))) ∧ Below w.heap.size w w' := by
  have hmm := @run_makeMap Tryz.prog
  have hb0 : (w.alloc (.map #[] 0)).heap[w.heap.size]? = some (.map #[] 0) := (MapKept.heap_alloc w _).1
  obtain ⟨W1, r1, hb1, b1⟩ := putQ _ _ _ _ _ _ _ _ (.int .u8 98) (.int .i64 1) Tryz.underlying54 Tryz.underlying5 rfl hb0 rfl
  obtain ⟨W2, r2, hb2, b2⟩ := putQ _ _ _ _ _ _ _ _ (.int .u8 111) (.int .i64 3) Tryz.underlying54 Tryz.underlying5 rfl hb1 rfl
  obtain ⟨W3, r3, hb3, b3⟩ := putQ _ _ _ _ _ _ _ _ (.int .u8 104) (.int .i64 4) Tryz.underlying54 Tryz.underlying5 rfl hb2 rfl
  have B := hide ((((Below.refl w.heap.size w).alloc (Nat.le_refl _) _).trans (b1 _ (Nat.le_refl _))).trans (b2 _ (Nat.le_refl _)) |>.trans (b3 _ (Nat.le_refl _)))
  have hlk := look_raw W3 w.heap.size hb3 b
  have eb : ((b.toNat : Int) == 100) = false := toNat_neQ (d := 100) hb
  have hk4 : (baseQ b).getD 0 ≤ 4 := by rcases baseQ_cases b with k | k | k | k <;> rw [k] <;> omega
  obtain ⟨k, hk⟩ : ∃ k, (baseQ b).getD 0 = k := ⟨_, rfl⟩
  rw [hk] at hlk hk4 hd ⊢
  have HD := hide hd
  obtain ⟨RL, hRL⟩ : ∃ R, spellQ k l = R := ⟨_, rfl⟩
  have hRlen : RL.length ≤ 4000 := by rw [← hRL, spellQ_len]; have := Nat.mul_le_mul hk4 hl; omega
  have HR := hide hRL
  rw [hRL]
  have hz := bsQ_size l
  have hg : ∀ (i : Nat) (h : i < (bsQ l).size) (h2 : i < l.length), (bsQ l)[i]'h = l[i] := fun i h h2 => bsQ_get l i h
  have LO := hide refLowerQ_any
  have VA := hide (fun (c : UInt8) (W : World) => refValueQ_any c k W hk4)
  have RP := hide (fun (c : UInt8) (W : World) => refRepeatQ_any c (k : Int) W (by omega))
  generalize bsQ l = s at *
  have Hz := hide hz
  have Hg := hide hg
  clear hd hRL hk hb hz hg hb0 hb1 hb2 hb3 b1 b2 b3
  go_enter Tryz.func43, Tryz.ntmps43
  go_wp2_with fail
  go_loopw [7, 8] (fun v7 v8 wr => ∃ (i : Nat) (P : List UInt8), v8 = .int .i64 (i : Int) ∧ v7 = .string (bsQ P) ∧ i ≤ l.length ∧ P ++ spellQ k (l.drop i) = RL ∧ Below w.heap.size w wr) (fun _ v _ => l.length - (intOf v).toNat)
  case atStart => exact ⟨0, [], rfl, rfl, Nat.zero_le _, HR.out, B.out⟩
  case round =>
    obtain ⟨i, P, rfl, rfl, hi, hP, hb⟩ := hrel
    have HP := hide hP
    have Hb := hide hb
    have hPl : P.length ≤ 4000 := by have := congrArg List.length hP; rw [List.length_append] at this; omega
    clear hP hb
    by_cases hlt : i < l.length
    · have hi' : (i : Int) < (s.size : Int) := by have := Hz.out; omega
      have hi0 : (0 : Int) ≤ (i : Int) := by omega
      have his : i < s.size := by omega
      have hwi : IntKind.i64.wrap ((i : Int) + 1) = (i : Int) + 1 := IntWalk.i64_in _ (by omega)
      have hdr : l.drop i = l[i] :: l.drop (i + 1) := List.drop_eq_getElem_cons hlt
      have hdg := HD.out _ (List.getElem_mem hlt)
      obtain ⟨c, hc⟩ : ∃ c, l[i] = c := ⟨_, rfl⟩
      have hsc : s[i]'his = c := by rw [Hg.out i his hlt, hc]
      rw [hc] at hdr hdg
      have HDr := hide hdr
      have L := hide (LO.out c)
      have hul := unk_low c
      have hhl := hexQ_lowR c
      obtain ⟨y, hy⟩ : ∃ y, lowR c = y := ⟨_, rfl⟩
      rw [hy] at hul hhl L
      clear hdr hc hy
      by_cases hxz : y = 120 ∨ y = 122
      · obtain ⟨u1, u2⟩ := hul.1 hxz
        have HN := hide (show (P ++ List.replicate k y) ++ spellQ k (l.drop (i + 1)) = RL by rw [← HP.out, HDr.out, spellQ_yes k _ u2, u1, List.append_assoc])
        have Ry := hide (fun W : World => show Calls Tryz.prog 45 #[.int .u8 (y.toNat : Int), .int .i64 (k : Int)] W fun e w' => e = .returned (.string (bsQ (List.replicate k y))) ∧ Below W.heap.size W w' from RP.out y W)
        have y1 : ∀ W : World, (Op.stringOp .add (bsQ P) (bsQ (List.replicate k y))).run Tryz.prog W = .ok (.string (bsQ (P ++ List.replicate k y))) W := fun W => catQ P _ (by rw [List.length_replicate]; omega) W
        generalize P ++ List.replicate k y = P2 at *
        generalize bsQ (List.replicate k y) = sr at *
        clear hul hhl hdg u1 u2
        rcases hxz with rfl | rfl
        all_goals
          go_wp2_with fail
          refine (L.out _).mono ?_
          rintro e wz ⟨rfl, rfl⟩
          go_wp2_with fail
          refine (Ry.out _).mono ?_
          rintro e w2 ⟨rfl, hb2⟩
          have Hb2 := hide (Hb.out.trans (hb2.mono Hb.out.size))
          clear hb2
          go_wp2
          go_roundw
          case rel => exact ⟨i + 1, P2, by go_num, rfl, by omega, HN.out, Hb2.out⟩
          case measure => simp [intOf]; omega
      · have hu := hul.2 hxz
        have hx2 : 0 ≤ hexQ c ∧ hexQ c < ((2 ^ k : Nat) : Int) := hdg.resolve_left (fun h => h hu)
        have hr15 := (hexQ_range c).2
        obtain ⟨x, hx⟩ : ∃ x : Nat, hexQ c = x := ⟨(hexQ c).toNat, by omega⟩
        have V := hide (VA.out y)
        have hval : valR y k = (x : Int) := by unfold valR; rw [hhl, hx, if_neg (by rw [hx] at hx2; omega)]
        rw [hval] at V
        have HS := hide (show spellQ k (l.drop i) = binQ k x ++ spellQ k (l.drop (i + 1)) by rw [HDr.out, spellQ_no k _ hu, hx]; rfl)
        have hx15 : x ≤ 15 := by omega
        have n1 : ((y.toNat : Int) == 120) = false := toNat_neQ (d := 120) (fun h => hxz (.inl h))
        have n2 : ((y.toNat : Int) == 122) = false := toNat_neQ (d := 122) (fun h => hxz (.inr h))
        clear hul hhl hdg hu hx2 hr15 hx hval hxz
        go_wp2_with fail
        refine (L.out _).mono ?_
        rintro e wz ⟨rfl, rfl⟩
        go_wp2_with fail
        refine (V.out _).mono ?_
        rintro e wz ⟨rfl, rfl⟩
        go_wp2_with fail
        go_loopw [10, 11, 12] (fun v10 v11 v12 wq => ∃ (j z : Nat), v12 = .int .i64 (j : Int) ∧ v10 = .int .i64 (z : Int) ∧ v11 = .string (bsQ (binQ j x)) ∧ j ≤ k ∧ z ≤ 15 ∧ Hid (z = x / 2 ^ j) ∧ Below w.heap.size w wq) (fun _ _ v _ => k - (intOf v).toNat)
        case atStart => exact ⟨0, x, rfl, rfl, rfl, Nat.zero_le _, hx15, hide (by simp), Hb.out⟩
        case round =>
          obtain ⟨j, z, rfl, rfl, rfl, hj, hz15, Hzz, hb⟩ := hrel
          have Hb2 := hide (fun o => hb.alloc hb.size o)
          have Hb3 := hide hb
          clear hb
          by_cases hjk : j < k
          · have hj' : (j : Int) < (k : Int) := by omega
            have hwj : IntKind.i64.wrap ((j : Int) + 1) = (j : Int) + 1 := IntWalk.i64_in _ (by omega)
            have hbI := bitQ_int z
            obtain ⟨r, hr⟩ : ∃ r, z % 2 = r := ⟨_, rfl⟩
            have hrI : (z : Int) % 2 = (r : Int) := by omega
            have hr1 : r ≤ 1 := by omega
            rw [hrI] at hbI
            obtain ⟨z2, hz2⟩ : ∃ z2, z / 2 = z2 := ⟨_, rfl⟩
            have hzI : (z : Int) / 2 = (z2 : Int) := by omega
            have hz215 : z2 ≤ 15 := by omega
            have Hz2 := hide (show z2 = x / 2 ^ (j + 1) by rw [← hz2, Hzz.out, Nat.div_div_eq_div_mul, Nat.pow_succ])
            have hfr : binQ (j + 1) x = bitQ z :: binQ j x := by rw [Hzz.out]; exact binQ_front j x
            have w3 : IntKind.u8.wrap (48 + (r : Int)) = 48 + (r : Int) := by rw [IntKind.wrap_u8]; omega
            have hcv : ∀ W : World, (convert 51 9 (.slice (some ⟨W.heap.size, 0, none⟩) 1 1)).run Tryz.prog (W.alloc (.cells #[.int .u8 (48 + (r : Int))] 5)) = .ok (.string ⟨#[bitQ z]⟩) (W.alloc (.cells #[.int .u8 (48 + (r : Int))] 5)) := fun W => by rw [hbI]; exact conv1b W _
            have y1 : ∀ W : World, (Op.stringOp .add ⟨#[bitQ z]⟩ (bsQ (binQ j x))).run Tryz.prog W = .ok (.string (bsQ (binQ (j + 1) x))) W := fun W => by rw [hfr]; exact catQ [bitQ z] (binQ j x) (by rw [binQ_len]; show 1 + j ≤ _; omega) W
            have HzI := hide hzI
            generalize bitQ z = bb at *
            obtain ⟨s2, hs2⟩ : ∃ s2, bsQ (binQ (j + 1) x) = s2 := ⟨_, rfl⟩
            rw [hs2] at y1
            have Hs2 := hide hs2
            generalize bsQ (binQ j x) = sj at *
            clear hr hz2 hfr hbI hs2
            go_wp2
            go_roundw
            case rel => exact ⟨j + 1, z2, by go_num, (by first | rfl | exact congrArg (Value.int .i64) HzI.out), by rw [Hs2.out], by omega, hz215, Hz2, Hb2.out _⟩
            case measure => simp [intOf]; omega
          · have hj' : ¬ (j : Int) < (k : Int) := by omega
            have hjk2 : j = k := by omega
            subst hjk2
            have HN := hide (show (P ++ binQ j x) ++ spellQ j (l.drop (i + 1)) = RL by rw [← HP.out, HS.out, List.append_assoc])
            have y1 : ∀ W : World, (Op.stringOp .add (bsQ P) (bsQ (binQ j x))).run Tryz.prog W = .ok (.string (bsQ (P ++ binQ j x))) W := fun W => catQ P _ (by rw [binQ_len]; omega) W
            generalize P ++ binQ j x = P2 at *
            generalize bsQ (binQ j x) = sj at *
            go_wp2
            go_roundw
            case rel => exact ⟨i + 1, P2, by go_num, rfl, by omega, HN.out, Hb3.out⟩
            case measure => simp [intOf]; omega
    · have hi' : ¬ (i : Int) < (s.size : Int) := by have := Hz.out; omega
      have HF := hide (show bsQ P = bsQ RL by rw [← HP.out, List.drop_eq_nil_of_le (by omega)]; show bsQ P = bsQ (P ++ []); rw [List.append_nil])
      generalize bsQ P = sp at *
      go_wp2
      go_ret
      exact ⟨retQ_s HF.out.symm, Hb.out⟩
end Go.Proofs.YtjlpekjfmgcbdaaGreatDoor

/- Contract of the reference's raw at base d. -/
set_option linter.unusedVariables false
set_option linter.unusedSimpArgs false
namespace Go.Proofs.YtjlpekjfmgcbdaaGreatDoor
open Go.RowKit Go.Shelf
/-- the bits of a decimal constant, without zeros in front; x or z alone -/
def rawD (l : List UInt8) : List UInt8 := if lowR (l.headD 0) = 120 ∨ lowR (l.headD 0) = 122 then [lowR (l.headD 0)] else binM (valD l)
set_option maxRecDepth 20000 in
set_option maxHeartbeats 8000000 in
theorem refRaw_d (l : List UInt8) (w : World) (hl : l.length ≤ 1000) (h0 : 0 < l.length) (hd : ¬ (lowR (l.headD 0) = 120 ∨ lowR (l.headD 0) = 122) → ∀ c ∈ l, dgQ c = true) :
    Calls Tryz.prog 43 #[.int .u8 100, .string (bsQ l)] w fun e w' => e = .returned (.string (bsQ (rawD l))) ∧ Below w.heap.size w w' := by
  have hmm := @run_makeMap Tryz.prog
  have hb0 : (w.alloc (.map #[] 0)).heap[w.heap.size]? = some (.map #[] 0) := (MapKept.heap_alloc w _).1
  obtain ⟨W1, r1, hb1, b1⟩ := putQ _ _ _ _ _ _ _ _ (.int .u8 98) (.int .i64 1) Tryz.underlying54 Tryz.underlying5 rfl hb0 rfl
  obtain ⟨W2, r2, hb2, b2⟩ := putQ _ _ _ _ _ _ _ _ (.int .u8 111) (.int .i64 3) Tryz.underlying54 Tryz.underlying5 rfl hb1 rfl
  obtain ⟨W3, r3, hb3, b3⟩ := putQ _ _ _ _ _ _ _ _ (.int .u8 104) (.int .i64 4) Tryz.underlying54 Tryz.underlying5 rfl hb2 rfl
  have B := hide ((((Below.refl w.heap.size w).alloc (Nat.le_refl _) _).trans (b1 _ (Nat.le_refl _))).trans (b2 _ (Nat.le_refl _)) |>.trans (b3 _ (Nat.le_refl _)))
  have hlk : (Instr.lookup 54 (.map (some w.heap.size)) (.int .u8 100) false).run Tryz.prog W3 = .ok (.int .i64 0) W3 := look_raw W3 w.heap.size hb3 100
  have hz := bsQ_size l
  have hs0 : 0 < (bsQ l).size := by omega
  obtain ⟨c, r, hcr⟩ : ∃ c r, l = c :: r := by
    cases l with
    | nil => cases h0
    | cons a t => exact ⟨a, t, rfl⟩
  have hsc : (bsQ l)[0]'hs0 = c := by rw [bsQ_get]; simp [hcr]
  have hh : l.headD 0 = c := by rw [hcr]; rfl
  have hne : l ≠ [] := by rw [hcr]; simp
  have HV0 := hide (show rawD l = if lowR c = 120 ∨ lowR c = 122 then [lowR c] else binM (valD l) by unfold rawD; rw [hh])
  rw [hh] at hd
  have L := hide (refLowerQ_any c)
  obtain ⟨y, hy⟩ : ∃ y, lowR c = y := ⟨_, rfl⟩
  rw [hy] at hd HV0 L
  by_cases hxz : y = 120 ∨ y = 122
  · have HV := hide (show rawD l = [y] by rw [HV0.out, if_pos hxz])
    generalize bsQ l = s at *
    clear hb0 hb1 hb2 hb3 b1 b2 b3 hz hcr hh hne hd hy
    rcases hxz with rfl | rfl
    · have hcv : ∀ W : World, (convert 51 9 (.slice (some ⟨W.heap.size, 0, none⟩) 1 1)).run Tryz.prog (W.alloc (.cells #[.int .u8 120] 5)) = .ok (.string ⟨#[120]⟩) (W.alloc (.cells #[.int .u8 120] 5)) := fun W => conv1b W 120
      have L := hide (fun W : World => show Calls Tryz.prog 44 #[.int .u8 (c.toNat : Int)] W fun e w' => e = .returned (.int .u8 120) ∧ w' = W from L.out W)
      go_enter Tryz.func43, Tryz.ntmps43
      go_wp2_with fail
      refine (L.out _).mono ?_
      rintro e wz ⟨rfl, rfl⟩
      go_wp2
      go_ret
      exact ⟨retQ_s (by rw [HV.out]; rfl), B.out.alloc B.out.size _⟩
    · have hcv : ∀ W : World, (convert 51 9 (.slice (some ⟨W.heap.size, 0, none⟩) 1 1)).run Tryz.prog (W.alloc (.cells #[.int .u8 122] 5)) = .ok (.string ⟨#[122]⟩) (W.alloc (.cells #[.int .u8 122] 5)) := fun W => conv1b W 122
      have L := hide (fun W : World => show Calls Tryz.prog 44 #[.int .u8 (c.toNat : Int)] W fun e w' => e = .returned (.int .u8 122) ∧ w' = W from L.out W)
      go_enter Tryz.func43, Tryz.ntmps43
      go_wp2_with fail
      refine (L.out _).mono ?_
      rintro e wz ⟨rfl, rfl⟩
      go_wp2
      go_ret
      exact ⟨retQ_s (by rw [HV.out]; rfl), B.out.alloc B.out.size _⟩
  · have n1 : ((y.toNat : Int) == 120) = false := toNat_neQ (d := 120) (fun h => hxz (.inl h))
    have n2 : ((y.toNat : Int) == 122) = false := toNat_neQ (d := 122) (fun h => hxz (.inr h))
    have hdg := hd hxz
    have HV := hide (show rawD l = binM (valD l) by rw [HV0.out, if_neg hxz])
    have S := hide (fun W : World => refStripQ_any l W (by omega))
    have BI := hide (fun W : World => refBinary_any (stripR l) W (Nat.le_trans (stripR_len l) hl) (fun c h => hdg c (stripR_mem l c h)) (canon_strip l))
    rw [valD_strip] at BI
    generalize bsQ (stripR l) = t at *
    generalize bsQ l = s at *
    obtain ⟨u, hu⟩ : ∃ u, bsQ (binM (valD l)) = u := ⟨_, rfl⟩
    rw [hu] at BI
    have Hu := hide (show bsQ (rawD l) = u by rw [HV.out]; exact hu)
    clear hb0 hb1 hb2 hb3 b1 b2 b3 hz hcr hh hne hd hy hxz hdg hu
    go_enter Tryz.func43, Tryz.ntmps43
    go_wp2_with fail
    refine (L.out _).mono ?_
    rintro e wz ⟨rfl, rfl⟩
    go_wp2_with fail
    refine (S.out _).mono ?_
    rintro e wz ⟨rfl, rfl⟩
    go_wp2_with fail
    refine (BI.out _).mono ?_
    rintro e w2 ⟨rfl, hb⟩
    have Hb := hide (B.out.trans (hb.mono B.out.size))
    clear hb
    go_wp2
    go_ret
    exact ⟨retQ_s Hu.out, Hb.out⟩
end Go.Proofs.YtjlpekjfmgcbdaaGreatDoor

/- Contract of the reference's constant at the bases b, o, h. -/
set_option linter.unusedVariables false
set_option linter.unusedSimpArgs false
namespace Go.Proofs.YtjlpekjfmgcbdaaGreatDoor
open Go.RowKit Go.Shelf
/-- a digit of a base of so many bits, or x or z -/
def pR (k : Nat) (d : UInt8) : Bool := decide (0 ≤ valR d k ∨ lowR d = 120 ∨ lowR d = 122)
/-- the constant behind the quotation mark at a: its end, base and digits -/
def conK (l : List UInt8) (a : Nat) (b : UInt8) (k : Nat) : Nat × UInt8 × List UInt8 :=
  if spn (pR k) (l.drop (a + 2)) = 0 then (0, 0, []) else (a + 2 + spn (pR k) (l.drop (a + 2)), b, (l.drop (a + 2)).take (spn (pR k) (l.drop (a + 2))))
theorem retQ_con {p : Nat × UInt8 × List UInt8} {n : Nat} {b : UInt8} {t : List UInt8} (h : p = (n, b, t)) :
    Ending.returned (.tuple #[.int .i64 (n : Int), .int .u8 (b.toNat : Int), .string (bsQ t)]) = .returned (.tuple #[.int .i64 (p.1 : Int), .int .u8 (p.2.1.toNat : Int), .string (bsQ p.2.2)]) := by rw [h]
set_option maxRecDepth 20000 in
set_option maxHeartbeats 8000000 in
theorem refConst_98 (l : List UInt8) (a : Nat) (c : UInt8) (w : World) (hl : l.length ≤ 50000) (ha : a + 1 < l.length) (hc : l[a + 1] = c) (hv : lowR c = 98) :
    Calls Tryz.prog 41 #[.string (bsQ l), .int .i64 (a : Int)] w fun e w' => e = .returned (.tuple #[.int .i64 ((conK l a 98 1).1 : Int), .int .u8 ((conK l a 98 1).2.1.toNat : Int), .string (bsQ (conK l a 98 1).2.2)]) ∧ Below w.heap.size w w' := by
  have hz := bsQ_size l
  have hg : ∀ (i : Nat) (h : i < (bsQ l).size) (h2 : i < l.length), (bsQ l)[i]'h = l[i] := fun i h h2 => bsQ_get l i h
  have L0 := hide (refLowerQ_any c)
  rw [hv] at L0
  have L := hide (fun W : World => show Calls Tryz.prog 44 #[.int .u8 (c.toNat : Int)] W fun e w' => e = .returned (.int .u8 98) ∧ w' = W from L0.out W)
  have LO := hide refLowerQ_any
  have VA := hide (fun (d : UInt8) (W : World) => show Calls Tryz.prog 72 #[.int .u8 (d.toNat : Int), .int .i64 1] W fun e w' => e = .returned (.int .i64 (valR d 1)) ∧ w' = W from refValueQ_any d 1 W (by omega))
  have hs1 : a + 1 < (bsQ l).size := by omega
  have hsc : (bsQ l)[a + 1]'hs1 = c := by rw [hg (a + 1) hs1 ha, hc]
  have hx := bsQ_mid l
  obtain ⟨R, hR⟩ : ∃ R, a + 2 + spn (pR 1) (l.drop (a + 2)) = R := ⟨_, rfl⟩
  have hRl : R ≤ l.length + 2 := by rw [← hR]; have := spn_le (pR 1) (l.drop (a + 2)); rw [List.length_drop] at this; omega
  have HR := hide hR
  have HX := hide (hx (a + 2) R)
  generalize bsQ l = s at *
  have q1 : ¬ (s.size : Int) ≤ (a : Int) + 1 := by omega
  have q2 : (a : Int) + 1 < (s.size : Int) := by omega
  have q0 : (0 : Int) ≤ (a : Int) + 1 := by omega
  have q3 : ((a : Int) + 1).toNat = a + 1 := by omega
  have w1 : IntKind.i64.wrap ((a : Int) + 1) = (a : Int) + 1 := IntWalk.i64_in _ (by omega)
  have w2 : IntKind.i64.wrap ((a : Int) + 2) = (a : Int) + 2 := IntWalk.i64_in _ (by omega)
  have q4 : (0 : Int) ≤ (a : Int) + 2 := by omega
  have q5 : ((a : Int) + 2).toNat = a + 2 := by omega
  have Hz := hide hz
  have Hg := hide hg
  clear hz hg hx hR hv L0 hc
  go_enter Tryz.func41, Tryz.ntmps41
  go_wp2_with fail
  refine (L.out _).mono ?_
  rintro e wz ⟨rfl, rfl⟩
  go_wp2_with fail
  go_loop [10] (fun v => ∃ i : Nat, v = .int .i64 (i : Int) ∧ a + 2 ≤ i ∧ i ≤ l.length + 2 ∧ i + spn (pR 1) (l.drop i) = R) (fun v => l.length + 2 - (intOf v).toNat)
  case atStart => exact ⟨a + 2, by go_num, Nat.le_refl _, by omega, HR.out⟩
  case round =>
    obtain ⟨i, rfl, hai, hi, hRi⟩ := hrel
    have fin : ∀ (_ : i = R), conK l a 98 1 = if i = a + 2 then (0, 0, []) else (i, 98, (l.drop (a + 2)).take (i - (a + 2))) := fun e => by
      unfold conK
      have h1 := HR.out
      by_cases h : i = a + 2
      · rw [if_pos h, if_pos (by omega)]
      · rw [if_neg h, if_neg (by omega), show a + 2 + spn (pR 1) (l.drop (a + 2)) = i by omega, show spn (pR 1) (l.drop (a + 2)) = i - (a + 2) by omega]
    have Fin := hide fin
    clear fin
    by_cases hlt : i < l.length
    · have hi' : (i : Int) < (s.size : Int) := by have := Hz.out; omega
      have hi0 : (0 : Int) ≤ (i : Int) := by omega
      have his : i < s.size := by omega
      have hwi : IntKind.i64.wrap ((i : Int) + 1) = (i : Int) + 1 := IntWalk.i64_in _ (by omega)
      obtain ⟨d, hd⟩ : ∃ d, l[i]'hlt = d := ⟨_, rfl⟩
      have hsd : s[i]'his = d := by rw [Hg.out i his hlt, hd]
      have V := hide (VA.out d)
      have LD := hide (LO.out d)
      have HP := hide (show pR 1 d = decide (0 ≤ valR d 1 ∨ lowR d = 120 ∨ lowR d = 122) from rfl)
      have HS := hide (fun h : pR 1 d = true => show (i + 1) + spn (pR 1) (l.drop (i + 1)) = R by rw [← hRi, spn_step hlt (by rw [hd]; exact h)])
      have HT := hide (fun h : pR 1 d = false => show i = R by rw [← hRi, spn_stop hlt (by rw [hd]; exact h)])
      obtain ⟨x, hx⟩ : ∃ x, valR d 1 = x := ⟨_, rfl⟩
      obtain ⟨y, hy⟩ : ∃ y, lowR d = y := ⟨_, rfl⟩
      rw [hx, hy] at HP
      rw [hx] at V
      rw [hy] at LD
      clear hRi hd hx hy
      by_cases hx0 : 0 ≤ x
      · have HN := hide (HS.out (by rw [HP.out]; exact decide_eq_true (.inl hx0)))
        go_wp2_with fail
        refine (V.out _).mono ?_
        rintro e wz ⟨rfl, rfl⟩
        go_wp2
        go_round
        case rel => exact ⟨i + 1, by go_num, by omega, by omega, HN.out⟩
        case measure => simp [intOf]; omega
      by_cases hy1 : y = 120
      · have HN := hide (HS.out (by rw [HP.out]; exact decide_eq_true (.inr (.inl hy1))))
        subst hy1
        go_wp2_with fail
        refine (V.out _).mono ?_
        rintro e wz ⟨rfl, rfl⟩
        go_wp2_with fail
        refine (LD.out _).mono ?_
        rintro e wz ⟨rfl, rfl⟩
        go_wp2
        go_round
        case rel => exact ⟨i + 1, by go_num, by omega, by omega, HN.out⟩
        case measure => simp [intOf]; omega
      have n1 : ((y.toNat : Int) == 120) = false := toNat_neQ (d := 120) hy1
      by_cases hy2 : y = 122
      · have HN := hide (HS.out (by rw [HP.out]; exact decide_eq_true (.inr (.inr hy2))))
        subst hy2
        go_wp2_with fail
        refine (V.out _).mono ?_
        rintro e wz ⟨rfl, rfl⟩
        go_wp2_with fail
        refine (LD.out _).mono ?_
        rintro e wz ⟨rfl, rfl⟩
        go_wp2_with fail
        refine (LD.out _).mono ?_
        rintro e wz ⟨rfl, rfl⟩
        go_wp2
        go_round
        case rel => exact ⟨i + 1, by go_num, by omega, by omega, HN.out⟩
        case measure => simp [intOf]; omega
      have n2 : ((y.toNat : Int) == 122) = false := toNat_neQ (d := 122) hy2
      have hiR := HT.out (by rw [HP.out]; exact decide_eq_false (by rintro (h | h | h); exact hx0 h; exact hy1 h; exact hy2 h))
      have hF := Fin.out hiR
      by_cases hia : i = a + 2
      · have ei : ((i : Int) == (a : Int) + 2) = true := by rw [beq_iff_eq]; omega
        rw [if_pos hia] at hF
        have HF := hide hF
        clear hF hiR hia hy1 hy2
        go_wp2_with fail
        refine (V.out _).mono ?_
        rintro e wz ⟨rfl, rfl⟩
        go_wp2_with fail
        refine (LD.out _).mono ?_
        rintro e wz ⟨rfl, rfl⟩
        go_wp2_with fail
        refine (LD.out _).mono ?_
        rintro e wz ⟨rfl, rfl⟩
        go_wp2
        refine bodyPost_ret (v := .tuple #[.int .i64 0, .int .u8 0, .string ⟨#[]⟩]) (by simp [results, Tryz.results41, go_sem]) rfl ?_
        rw [HF.out]
        exact ⟨rfl, Below.refl _ _⟩
      · have ei : ((i : Int) == (a : Int) + 2) = false := beq_eq_false_iff_ne.2 (by omega)
        rw [if_neg hia] at hF
        have HF := hide hF
        have x1 := HX.out
        rw [← hiR] at x1
        have k1 : (a : Int) + 2 ≤ (i : Int) := by omega
        have k2 : (i : Int) ≤ (s.size : Int) := by omega
        generalize (l.drop (a + 2)).take (i - (a + 2)) = t at *
        clear hF hiR hia hy1 hy2
        go_wp2_with fail
        refine (V.out _).mono ?_
        rintro e wz ⟨rfl, rfl⟩
        go_wp2_with fail
        refine (LD.out _).mono ?_
        rintro e wz ⟨rfl, rfl⟩
        go_wp2_with fail
        refine (LD.out _).mono ?_
        rintro e wz ⟨rfl, rfl⟩
        go_wp2_with fail
        go_quiet (fail)
        go_wp2
        refine bodyPost_ret (v := .tuple #[.int .i64 (i : Int), .int .u8 98, .string (bsQ t)]) (by simp [results, Tryz.results41, go_sem]) rfl ?_
        rw [HF.out]
        exact ⟨rfl, Below_drewN (Below.refl _ _) _⟩
    · have hi' : ¬ (i : Int) < (s.size : Int) := by have := Hz.out; omega
      have hiR : i = R := by rw [← hRi, spn_end (by omega)]
      have hF := Fin.out hiR
      by_cases hia : i = a + 2
      · have ei : ((i : Int) == (a : Int) + 2) = true := by rw [beq_iff_eq]; omega
        rw [if_pos hia] at hF
        have HF := hide hF
        clear hF hiR hia hRi
        go_wp2
        refine bodyPost_ret (v := .tuple #[.int .i64 0, .int .u8 0, .string ⟨#[]⟩]) (by simp [results, Tryz.results41, go_sem]) rfl ?_
        rw [HF.out]
        exact ⟨rfl, Below.refl _ _⟩
      · have ei : ((i : Int) == (a : Int) + 2) = false := beq_eq_false_iff_ne.2 (by omega)
        have hsp := spn_le (pR 1) (l.drop (a + 2))
        rw [List.length_drop] at hsp
        have hil : i ≤ l.length := by have := HR.out; omega
        rw [if_neg hia] at hF
        have HF := hide hF
        have x1 := HX.out
        rw [← hiR] at x1
        have k1 : (a : Int) + 2 ≤ (i : Int) := by omega
        have k2 : (i : Int) ≤ (s.size : Int) := by have := Hz.out; omega
        generalize (l.drop (a + 2)).take (i - (a + 2)) = t at *
        clear hF hiR hia hRi
        go_wp2_with fail
        go_quiet (fail)
        go_wp2
        refine bodyPost_ret (v := .tuple #[.int .i64 (i : Int), .int .u8 98, .string (bsQ t)]) (by simp [results, Tryz.results41, go_sem]) rfl ?_
        rw [HF.out]
        exact ⟨rfl, Below_drewN (Below.refl _ _) _⟩
set_option maxRecDepth 20000 in
set_option maxHeartbeats 8000000 in
theorem refConst_111 (l : List UInt8) (a : Nat) (c : UInt8) (w : World) (hl : l.length ≤ 50000) (ha : a + 1 < l.length) (hc : l[a + 1] = c) (hv : lowR c = 111) :
    Calls Tryz.prog 41 #[.string (bsQ l), .int .i64 (a : Int)] w fun e w' => e = .returned (.tuple #[.int .i64 ((conK l a 111 3).1 : Int), .int .u8 ((conK l a 111 3).2.1.toNat : Int), .string (bsQ (conK l a 111 3).2.2)]) ∧ Below w.heap.size w w' := by
  have hz := bsQ_size l
  have hg : ∀ (i : Nat) (h : i < (bsQ l).size) (h2 : i < l.length), (bsQ l)[i]'h = l[i] := fun i h h2 => bsQ_get l i h
  have L0 := hide (refLowerQ_any c)
  rw [hv] at L0
  have L := hide (fun W : World => show Calls Tryz.prog 44 #[.int .u8 (c.toNat : Int)] W fun e w' => e = .returned (.int .u8 111) ∧ w' = W from L0.out W)
  have LO := hide refLowerQ_any
  have VA := hide (fun (d : UInt8) (W : World) => show Calls Tryz.prog 72 #[.int .u8 (d.toNat : Int), .int .i64 3] W fun e w' => e = .returned (.int .i64 (valR d 3)) ∧ w' = W from refValueQ_any d 3 W (by omega))
  have hs1 : a + 1 < (bsQ l).size := by omega
  have hsc : (bsQ l)[a + 1]'hs1 = c := by rw [hg (a + 1) hs1 ha, hc]
  have hx := bsQ_mid l
  obtain ⟨R, hR⟩ : ∃ R, a + 2 + spn (pR 3) (l.drop (a + 2)) = R := ⟨_, rfl⟩
  have hRl : R ≤ l.length + 2 := by rw [← hR]; have := spn_le (pR 3) (l.drop (a + 2)); rw [List.length_drop] at this; omega
  have HR := hide hR
  have HX := hide (hx (a + 2) R)
  generalize bsQ l = s at *
  have q1 : ¬ (s.size : Int) ≤ (a : Int) + 1 := by omega
  have q2 : (a : Int) + 1 < (s.size : Int) := by omega
  have q0 : (0 : Int) ≤ (a : Int) + 1 := by omega
  have q3 : ((a : Int) + 1).toNat = a + 1 := by omega
  have w1 : IntKind.i64.wrap ((a : Int) + 1) = (a : Int) + 1 := IntWalk.i64_in _ (by omega)
  have w2 : IntKind.i64.wrap ((a : Int) + 2) = (a : Int) + 2 := IntWalk.i64_in _ (by omega)
  have q4 : (0 : Int) ≤ (a : Int) + 2 := by omega
  have q5 : ((a : Int) + 2).toNat = a + 2 := by omega
  have Hz := hide hz
  have Hg := hide hg
  clear hz hg hx hR hv L0 hc
  go_enter Tryz.func41, Tryz.ntmps41
  go_wp2_with fail
  refine (L.out _).mono ?_
  rintro e wz ⟨rfl, rfl⟩
  go_wp2_with fail
  go_loop [10] (fun v => ∃ i : Nat, v = .int .i64 (i : Int) ∧ a + 2 ≤ i ∧ i ≤ l.length + 2 ∧ i + spn (pR 3) (l.drop i) = R) (fun v => l.length + 2 - (intOf v).toNat)
  case atStart => exact ⟨a + 2, by go_num, Nat.le_refl _, by omega, HR.out⟩
  case round =>
    obtain ⟨i, rfl, hai, hi, hRi⟩ := hrel
    have fin : ∀ (_ : i = R), conK l a 111 3 = if i = a + 2 then (0, 0, []) else (i, 111, (l.drop (a + 2)).take (i - (a + 2))) := fun e => by
      unfold conK
      have h1 := HR.out
      by_cases h : i = a + 2
      · rw [if_pos h, if_pos (by omega)]
      · rw [if_neg h, if_neg (by omega), show a + 2 + spn (pR 3) (l.drop (a + 2)) = i by omega, show spn (pR 3) (l.drop (a + 2)) = i - (a + 2) by omega]
    have Fin := hide fin
    clear fin
    by_cases hlt : i < l.length
    · have hi' : (i : Int) < (s.size : Int) := by have := Hz.out; omega
      have hi0 : (0 : Int) ≤ (i : Int) := by omega
      have his : i < s.size := by omega
      have hwi : IntKind.i64.wrap ((i : Int) + 1) = (i : Int) + 1 := IntWalk.i64_in _ (by omega)
      obtain ⟨d, hd⟩ : ∃ d, l[i]'hlt = d := ⟨_, rfl⟩
      have hsd : s[i]'his = d := by rw [Hg.out i his hlt, hd]
      have V := hide (VA.out d)
      have LD := hide (LO.out d)
      have HP := hide (show pR 3 d = decide (0 ≤ valR d 3 ∨ lowR d = 120 ∨ lowR d = 122) from rfl)
      have HS := hide (fun h : pR 3 d = true => show (i + 1) + spn (pR 3) (l.drop (i + 1)) = R by rw [← hRi, spn_step hlt (by rw [hd]; exact h)])
      have HT := hide (fun h : pR 3 d = false => show i = R by rw [← hRi, spn_stop hlt (by rw [hd]; exact h)])
      obtain ⟨x, hx⟩ : ∃ x, valR d 3 = x := ⟨_, rfl⟩
      obtain ⟨y, hy⟩ : ∃ y, lowR d = y := ⟨_, rfl⟩
      rw [hx, hy] at HP
      rw [hx] at V
      rw [hy] at LD
      clear hRi hd hx hy
      by_cases hx0 : 0 ≤ x
      · have HN := hide (HS.out (by rw [HP.out]; exact decide_eq_true (.inl hx0)))
        go_wp2_with fail
        refine (V.out _).mono ?_
        rintro e wz ⟨rfl, rfl⟩
        go_wp2
        go_round
        case rel => exact ⟨i + 1, by go_num, by omega, by omega, HN.out⟩
        case measure => simp [intOf]; omega
      by_cases hy1 : y = 120
      · have HN := hide (HS.out (by rw [HP.out]; exact decide_eq_true (.inr (.inl hy1))))
        subst hy1
        go_wp2_with fail
        refine (V.out _).mono ?_
        rintro e wz ⟨rfl, rfl⟩
        go_wp2_with fail
        refine (LD.out _).mono ?_
        rintro e wz ⟨rfl, rfl⟩
        go_wp2
        go_round
        case rel => exact ⟨i + 1, by go_num, by omega, by omega, HN.out⟩
        case measure => simp [intOf]; omega
      have n1 : ((y.toNat : Int) == 120) = false := toNat_neQ (d := 120) hy1
      by_cases hy2 : y = 122
      · have HN := hide (HS.out (by rw [HP.out]; exact decide_eq_true (.inr (.inr hy2))))
        subst hy2
        go_wp2_with fail
        refine (V.out _).mono ?_
        rintro e wz ⟨rfl, rfl⟩
        go_wp2_with fail
        refine (LD.out _).mono ?_
        rintro e wz ⟨rfl, rfl⟩
        go_wp2_with fail
        refine (LD.out _).mono ?_
        rintro e wz ⟨rfl, rfl⟩
        go_wp2
        go_round
        case rel => exact ⟨i + 1, by go_num, by omega, by omega, HN.out⟩
        case measure => simp [intOf]; omega
      have n2 : ((y.toNat : Int) == 122) = false := toNat_neQ (d := 122) hy2
      have hiR := HT.out (by rw [HP.out]; exact decide_eq_false (by rintro (h | h | h); exact hx0 h; exact hy1 h; exact hy2 h))
      have hF := Fin.out hiR
      by_cases hia : i = a + 2
      · have ei : ((i : Int) == (a : Int) + 2) = true := by rw [beq_iff_eq]; omega
        rw [if_pos hia] at hF
        have HF := hide hF
        clear hF hiR hia hy1 hy2
        go_wp2_with fail
        refine (V.out _).mono ?_
        rintro e wz ⟨rfl, rfl⟩
        go_wp2_with fail
        refine (LD.out _).mono ?_
        rintro e wz ⟨rfl, rfl⟩
        go_wp2_with fail
        refine (LD.out _).mono ?_
        rintro e wz ⟨rfl, rfl⟩
        go_wp2
        refine bodyPost_ret (v := .tuple #[.int .i64 0, .int .u8 0, .string ⟨#[]⟩]) (by simp [results, Tryz.results41, go_sem]) rfl ?_
        rw [HF.out]
        exact ⟨rfl, Below.refl _ _⟩
      · have ei : ((i : Int) == (a : Int) + 2) = false := beq_eq_false_iff_ne.2 (by omega)
        rw [if_neg hia] at hF
        have HF := hide hF
        have x1 := HX.out
        rw [← hiR] at x1
        have k1 : (a : Int) + 2 ≤ (i : Int) := by omega
        have k2 : (i : Int) ≤ (s.size : Int) := by omega
        generalize (l.drop (a + 2)).take (i - (a + 2)) = t at *
        clear hF hiR hia hy1 hy2
        go_wp2_with fail
        refine (V.out _).mono ?_
        rintro e wz ⟨rfl, rfl⟩
        go_wp2_with fail
        refine (LD.out _).mono ?_
        rintro e wz ⟨rfl, rfl⟩
        go_wp2_with fail
        refine (LD.out _).mono ?_
        rintro e wz ⟨rfl, rfl⟩
        go_wp2_with fail
        go_quiet (fail)
        go_wp2
        refine bodyPost_ret (v := .tuple #[.int .i64 (i : Int), .int .u8 111, .string (bsQ t)]) (by simp [results, Tryz.results41, go_sem]) rfl ?_
        rw [HF.out]
        exact ⟨rfl, Below_drewN (Below.refl _ _) _⟩
    · have hi' : ¬ (i : Int) < (s.size : Int) := by have := Hz.out; omega
      have hiR : i = R := by rw [← hRi, spn_end (by omega)]
      have hF := Fin.out hiR
      by_cases hia : i = a + 2
      · have ei : ((i : Int) == (a : Int) + 2) = true := by rw [beq_iff_eq]; omega
        rw [if_pos hia] at hF
        have HF := hide hF
        clear hF hiR hia hRi
        go_wp2
        refine bodyPost_ret (v := .tuple #[.int .i64 0, .int .u8 0, .string ⟨#[]⟩]) (by simp [results, Tryz.results41, go_sem]) rfl ?_
        rw [HF.out]
        exact ⟨rfl, Below.refl _ _⟩
      · have ei : ((i : Int) == (a : Int) + 2) = false := beq_eq_false_iff_ne.2 (by omega)
        have hsp := spn_le (pR 3) (l.drop (a + 2))
        rw [List.length_drop] at hsp
        have hil : i ≤ l.length := by have := HR.out; omega
        rw [if_neg hia] at hF
        have HF := hide hF
        have x1 := HX.out
        rw [← hiR] at x1
        have k1 : (a : Int) + 2 ≤ (i : Int) := by omega
        have k2 : (i : Int) ≤ (s.size : Int) := by have := Hz.out; omega
        generalize (l.drop (a + 2)).take (i - (a + 2)) = t at *
        clear hF hiR hia hRi
        go_wp2_with fail
        go_quiet (fail)
        go_wp2
        refine bodyPost_ret (v := .tuple #[.int .i64 (i : Int), .int .u8 111, .string (bsQ t)]) (by simp [results, Tryz.results41, go_sem]) rfl ?_
        rw [HF.out]
        exact ⟨rfl, Below_drewN (Below.refl _ _) _⟩
set_option maxRecDepth 20000 in
set_option maxHeartbeats 8000000 in
theorem refConst_104 (l : List UInt8) (a : Nat) (c : UInt8) (w : World) (hl : l.length ≤ 50000) (ha : a + 1 < l.length) (hc : l[a + 1] = c) (hv : lowR c = 104) :
    Calls Tryz.prog 41 #[.string (bsQ l), .int .i64 (a : Int)] w fun e w' => e = .returned (.tuple #[.int .i64 ((conK l a 104 4).1 : Int), .int .u8 ((conK l a 104 4).2.1.toNat : Int), .string (bsQ (conK l a 104 4).2.2)]) ∧ Below w.heap.size w w' := by
  have hz := bsQ_size l
  have hg : ∀ (i : Nat) (h : i < (bsQ l).size) (h2 : i < l.length), (bsQ l)[i]'h = l[i] := fun i h h2 => bsQ_get l i h
  have L0 := hide (refLowerQ_any c)
  rw [hv] at L0
  have L := hide (fun W : World => show Calls Tryz.prog 44 #[.int .u8 (c.toNat : Int)] W fun e w' => e = .returned (.int .u8 104) ∧ w' = W from L0.out W)
  have LO := hide refLowerQ_any
  have VA := hide (fun (d : UInt8) (W : World) => show Calls Tryz.prog 72 #[.int .u8 (d.toNat : Int), .int .i64 4] W fun e w' => e = .returned (.int .i64 (valR d 4)) ∧ w' = W from refValueQ_any d 4 W (by omega))
  have hs1 : a + 1 < (bsQ l).size := by omega
  have hsc : (bsQ l)[a + 1]'hs1 = c := by rw [hg (a + 1) hs1 ha, hc]
  have hx := bsQ_mid l
  obtain ⟨R, hR⟩ : ∃ R, a + 2 + spn (pR 4) (l.drop (a + 2)) = R := ⟨_, rfl⟩
  have hRl : R ≤ l.length + 2 := by rw [← hR]; have := spn_le (pR 4) (l.drop (a + 2)); rw [List.length_drop] at this; omega
  have HR := hide hR
  have HX := hide (hx (a + 2) R)
  generalize bsQ l = s at *
  have q1 : ¬ (s.size : Int) ≤ (a : Int) + 1 := by omega
  have q2 : (a : Int) + 1 < (s.size : Int) := by omega
  have q0 : (0 : Int) ≤ (a : Int) + 1 := by omega
  have q3 : ((a : Int) + 1).toNat = a + 1 := by omega
  have w1 : IntKind.i64.wrap ((a : Int) + 1) = (a : Int) + 1 := IntWalk.i64_in _ (by omega)
  have w2 : IntKind.i64.wrap ((a : Int) + 2) = (a : Int) + 2 := IntWalk.i64_in _ (by omega)
  have q4 : (0 : Int) ≤ (a : Int) + 2 := by omega
  have q5 : ((a : Int) + 2).toNat = a + 2 := by omega
  have Hz := hide hz
  have Hg := hide hg
  clear hz hg hx hR hv L0 hc
  go_enter Tryz.func41, Tryz.ntmps41
  go_wp2_with fail
  refine (L.out _).mono ?_
  rintro e wz ⟨rfl, rfl⟩
  go_wp2_with fail
  go_loop [10] (fun v => ∃ i : Nat, v = .int .i64 (i : Int) ∧ a + 2 ≤ i ∧ i ≤ l.length + 2 ∧ i + spn (pR 4) (l.drop i) = R) (fun v => l.length + 2 - (intOf v).toNat)
  case atStart => exact ⟨a + 2, by go_num, Nat.le_refl _, by omega, HR.out⟩
  case round =>
    obtain ⟨i, rfl, hai, hi, hRi⟩ := hrel
    have fin : ∀ (_ : i = R), conK l a 104 4 = if i = a + 2 then (0, 0, []) else (i, 104, (l.drop (a + 2)).take (i - (a + 2))) := fun e => by
      unfold conK
      have h1 := HR.out
      by_cases h : i = a + 2
      · rw [if_pos h, if_pos (by omega)]
      · rw [if_neg h, if_neg (by omega), show a + 2 + spn (pR 4) (l.drop (a + 2)) = i by omega, show spn (pR 4) (l.drop (a + 2)) = i - (a + 2) by omega]
    have Fin := hide fin
    clear fin
    by_cases hlt : i < l.length
    · have hi' : (i : Int) < (s.size : Int) := by have := Hz.out; omega
      have hi0 : (0 : Int) ≤ (i : Int) := by omega
      have his : i < s.size := by omega
      have hwi : IntKind.i64.wrap ((i : Int) + 1) = (i : Int) + 1 := IntWalk.i64_in _ (by omega)
      obtain ⟨d, hd⟩ : ∃ d, l[i]'hlt = d := ⟨_, rfl⟩
      have hsd : s[i]'his = d := by rw [Hg.out i his hlt, hd]
      have V := hide (VA.out d)
      have LD := hide (LO.out d)
      have HP := hide (show pR 4 d = decide (0 ≤ valR d 4 ∨ lowR d = 120 ∨ lowR d = 122) from rfl)
      have HS := hide (fun h : pR 4 d = true => show (i + 1) + spn (pR 4) (l.drop (i + 1)) = R by rw [← hRi, spn_step hlt (by rw [hd]; exact h)])
      have HT := hide (fun h : pR 4 d = false => show i = R by rw [← hRi, spn_stop hlt (by rw [hd]; exact h)])
      obtain ⟨x, hx⟩ : ∃ x, valR d 4 = x := ⟨_, rfl⟩
      obtain ⟨y, hy⟩ : ∃ y, lowR d = y := ⟨_, rfl⟩
      rw [hx, hy] at HP
      rw [hx] at V
      rw [hy] at LD
      clear hRi hd hx hy
      by_cases hx0 : 0 ≤ x
      · have HN := hide (HS.out (by rw [HP.out]; exact decide_eq_true (.inl hx0)))
        go_wp2_with fail
        refine (V.out _).mono ?_
        rintro e wz ⟨rfl, rfl⟩
        go_wp2
        go_round
        case rel => exact ⟨i + 1, by go_num, by omega, by omega, HN.out⟩
        case measure => simp [intOf]; omega
      by_cases hy1 : y = 120
      · have HN := hide (HS.out (by rw [HP.out]; exact decide_eq_true (.inr (.inl hy1))))
        subst hy1
        go_wp2_with fail
        refine (V.out _).mono ?_
        rintro e wz ⟨rfl, rfl⟩
        go_wp2_with fail
        refine (LD.out _).mono ?_
        rintro e wz ⟨rfl, rfl⟩
        go_wp2
        go_round
        case rel => exact ⟨i + 1, by go_num, by omega, by omega, HN.out⟩
        case measure => simp [intOf]; omega
      have n1 : ((y.toNat : Int) == 120) = false := toNat_neQ (d := 120) hy1
      by_cases hy2 : y = 122
      · have HN := hide (HS.out (by rw [HP.out]; exact decide_eq_true (.inr (.inr hy2))))
        subst hy2
        go_wp2_with fail
        refine (V.out _).mono ?_
        rintro e wz ⟨rfl, rfl⟩
        go_wp2_with fail
        refine (LD.out _).mono ?_
        rintro e wz ⟨rfl, rfl⟩
        go_wp2_with fail
        refine (LD.out _).mono ?_
        rintro e wz ⟨rfl, rfl⟩
        go_wp2
        go_round
        case rel => exact ⟨i + 1, by go_num, by omega, by omega, HN.out⟩
        case measure => simp [intOf]; omega
      have n2 : ((y.toNat : Int) == 122) = false := toNat_neQ (d := 122) hy2
      have hiR := HT.out (by rw [HP.out]; exact decide_eq_false (by rintro (h | h | h); exact hx0 h; exact hy1 h; exact hy2 h))
      have hF := Fin.out hiR
      by_cases hia : i = a + 2
      · have ei : ((i : Int) == (a : Int) + 2) = true := by rw [beq_iff_eq]; omega
        rw [if_pos hia] at hF
        have HF := hide hF
        clear hF hiR hia hy1 hy2
        go_wp2_with fail
        refine (V.out _).mono ?_
        rintro e wz ⟨rfl, rfl⟩
        go_wp2_with fail
        refine (LD.out _).mono ?_
        rintro e wz ⟨rfl, rfl⟩
        go_wp2_with fail
        refine (LD.out _).mono ?_
        rintro e wz ⟨rfl, rfl⟩
        go_wp2
        refine bodyPost_ret (v := .tuple #[.int .i64 0, .int .u8 0, .string ⟨#[]⟩]) (by simp [results, Tryz.results41, go_sem]) rfl ?_
        rw [HF.out]
        exact ⟨rfl, Below.refl _ _⟩
      · have ei : ((i : Int) == (a : Int) + 2) = false := beq_eq_false_iff_ne.2 (by omega)
        rw [if_neg hia] at hF
        have HF := hide hF
        have x1 := HX.out
        rw [← hiR] at x1
        have k1 : (a : Int) + 2 ≤ (i : Int) := by omega
        have k2 : (i : Int) ≤ (s.size : Int) := by omega
        generalize (l.drop (a + 2)).take (i - (a + 2)) = t at *
        clear hF hiR hia hy1 hy2
        go_wp2_with fail
        refine (V.out _).mono ?_
        rintro e wz ⟨rfl, rfl⟩
        go_wp2_with fail
        refine (LD.out _).mono ?_
        rintro e wz ⟨rfl, rfl⟩
        go_wp2_with fail
        refine (LD.out _).mono ?_
        rintro e wz ⟨rfl, rfl⟩
        go_wp2_with fail
        go_quiet (fail)
        go_wp2
        refine bodyPost_ret (v := .tuple #[.int .i64 (i : Int), .int .u8 104, .string (bsQ t)]) (by simp [results, Tryz.results41, go_sem]) rfl ?_
        rw [HF.out]
        exact ⟨rfl, Below_drewN (Below.refl _ _) _⟩
    · have hi' : ¬ (i : Int) < (s.size : Int) := by have := Hz.out; omega
      have hiR : i = R := by rw [← hRi, spn_end (by omega)]
      have hF := Fin.out hiR
      by_cases hia : i = a + 2
      · have ei : ((i : Int) == (a : Int) + 2) = true := by rw [beq_iff_eq]; omega
        rw [if_pos hia] at hF
        have HF := hide hF
        clear hF hiR hia hRi
        go_wp2
        refine bodyPost_ret (v := .tuple #[.int .i64 0, .int .u8 0, .string ⟨#[]⟩]) (by simp [results, Tryz.results41, go_sem]) rfl ?_
        rw [HF.out]
        exact ⟨rfl, Below.refl _ _⟩
      · have ei : ((i : Int) == (a : Int) + 2) = false := beq_eq_false_iff_ne.2 (by omega)
        have hsp := spn_le (pR 4) (l.drop (a + 2))
        rw [List.length_drop] at hsp
        have hil : i ≤ l.length := by have := HR.out; omega
        rw [if_neg hia] at hF
        have HF := hide hF
        have x1 := HX.out
        rw [← hiR] at x1
        have k1 : (a : Int) + 2 ≤ (i : Int) := by omega
        have k2 : (i : Int) ≤ (s.size : Int) := by have := Hz.out; omega
        generalize (l.drop (a + 2)).take (i - (a + 2)) = t at *
        clear hF hiR hia hRi
        go_wp2_with fail
        go_quiet (fail)
        go_wp2
        refine bodyPost_ret (v := .tuple #[.int .i64 (i : Int), .int .u8 104, .string (bsQ t)]) (by simp [results, Tryz.results41, go_sem]) rfl ?_
        rw [HF.out]
        exact ⟨rfl, Below_drewN (Below.refl _ _) _⟩
end Go.Proofs.YtjlpekjfmgcbdaaGreatDoor
