/- MgH: the texts QrE QrF QrG in one. -/
import Derived.Test.YtjlpekjfmgcbdaaGreatDoorMgG
import Derived.Deep.RegionWith
/- Contracts of the reference's digits, strip, repeat. -/
set_option linter.unusedVariables false
set_option linter.unusedSimpArgs false
namespace Go.Proofs.YtjlpekjfmgcbdaaGreatDoor
open Go.RowKit Go.Shelf
theorem refDigitsQ_any (l : List UInt8) (at0 : Nat) (w : World) (hl : l.length ≤ 1000000) (hat : at0 ≤ 1000000) :
    Calls Tryz.prog 40 #[.string (bsQ l), .int .i64 (at0 : Int)] w fun e w' => e = .returned (.int .i64 ((at0 + spn dgQ (l.drop at0) : Nat) : Int)) ∧ w' = w := by
  obtain ⟨R, hR⟩ : ∃ R, at0 + spn dgQ (l.drop at0) = R := ⟨_, rfl⟩
  have HR := hide hR
  have hz := bsQ_size l
  have hg : ∀ (i : Nat) (h : i < (bsQ l).size) (h2 : i < l.length), (bsQ l)[i]'h = l[i] := fun i h h2 => bsQ_get l i h
  rw [hR]
  clear hR
  generalize bsQ l = s at *
  have Hz := hide hz
  have Hg := hide hg
  have DG := hide refDigitQ_any
  clear hz hg
  go_enter Tryz.func40, Tryz.ntmps40
  go_wp2_with fail
  go_loop [1] (fun v => ∃ i : Nat, v = .int .i64 (i : Int) ∧ i + spn dgQ (l.drop i) = R ∧ i ≤ 2000000) (fun v => l.length - (intOf v).toNat)
  case atStart => exact ⟨at0, rfl, HR.out, by omega⟩
  case round =>
    obtain ⟨i, rfl, hRi, hi⟩ := hrel
    by_cases hlt : i < l.length
    · have hi' : (i : Int) < (s.size : Int) := by have := Hz.out; omega
      have hi0 : (0 : Int) ≤ (i : Int) := by omega
      have his : i < s.size := by omega
      have hwi : IntKind.i64.wrap ((i : Int) + 1) = (i : Int) + 1 := IntWalk.i64_in _ (by omega)
      obtain ⟨c, hc⟩ : ∃ c, l[i]'hlt = c := ⟨_, rfl⟩
      have hsc : s[i]'his = c := by rw [Hg.out i his hlt, hc]
      have D := hide (DG.out c)
      cases hd : dgQ c with
      | true =>
        rw [hd] at D
        have HN := hide (show (i + 1) + spn dgQ (l.drop (i + 1)) = R by rw [← hRi, spn_step hlt (by rw [hc]; exact hd)])
        clear hRi hc hd
        go_wp2_with fail
        refine (D.out _).mono ?_
        rintro e wz ⟨rfl, rfl⟩
        go_wp2
        go_round
        case rel => exact ⟨i + 1, by go_num, HN.out, by omega⟩
        case measure => simp [intOf]; omega
      | false =>
        rw [hd] at D
        have HN := hide (show i = R by rw [← hRi, spn_stop hlt (by rw [hc]; exact hd)])
        clear hRi hc hd
        go_wp2_with fail
        refine (D.out _).mono ?_
        rintro e wz ⟨rfl, rfl⟩
        go_wp2
        go_ret
        rw [HN.out]
        exact ⟨rfl, rfl⟩
    · have hi' : ¬ (i : Int) < (s.size : Int) := by have := Hz.out; omega
      have HN := hide (show i = R by rw [← hRi, spn_end (by omega)])
      clear hRi
      go_wp2
      go_ret
      rw [HN.out]
      exact ⟨rfl, rfl⟩
def stripR : List UInt8 → List UInt8
  | [] => []
  | [c] => [c]
  | c :: d :: t => if c = 48 then stripR (d :: t) else c :: d :: t
theorem stripR_eq : ∀ l : List UInt8, l ≠ [] → stripR l = stripQ l
  | [], h => absurd rfl h
  | [c], _ => by
    unfold stripR stripQ
    rw [List.dropWhile_cons]
    by_cases h : c = 48
    · subst h; rfl
    · have hb : (c == 48) = false := by simpa using h
      rw [hb]; rfl
  | c :: d :: t, _ => by
    unfold stripR
    by_cases h : c = 48
    · subst h
      rw [if_pos rfl, stripR_eq (d :: t) (by simp)]
      unfold stripQ
      conv => rhs; rw [List.dropWhile_cons]
      rfl
    · rw [if_neg h]
      unfold stripQ
      have hb : (c == 48) = false := by simpa using h
      rw [List.dropWhile_cons, hb]; rfl
set_option maxRecDepth 20000 in
theorem refStripQ_any (l : List UInt8) (w : World) (hl : l.length ≤ 1000000) :
    Calls Tryz.prog 42 #[.string (bsQ l)] w fun e w' => e = .returned (.string (bsQ (stripR l))) ∧ w' = w := by
  obtain ⟨R, hR⟩ : ∃ R, stripR l = R := ⟨_, rfl⟩
  have HR := hide hR
  rw [hR]
  clear hR
  obtain ⟨s, hs⟩ : ∃ s, bsQ l = s := ⟨_, rfl⟩
  have Hs := hide hs
  rw [hs]
  clear hs
  go_enter Tryz.func42, Tryz.ntmps42
  go_wp2_with fail
  go_loop [0] (fun v => ∃ m : List UInt8, v = .string (bsQ m) ∧ m.length ≤ 1000000 ∧ stripR m = R) (fun v => match v with | .string b => b.size | _ => 0)
  case atStart => exact ⟨l, by rw [Hs.out], hl, HR.out⟩
  case round =>
    obtain ⟨m, rfl, hml, hm⟩ := hrel
    have hz := bsQ_size m
    by_cases h1 : 1 < m.length
    · obtain ⟨c, d, r, rfl⟩ : ∃ c d r, m = c :: d :: r := by
        match m, h1 with
        | c :: d :: r, _ => exact ⟨c, d, r, rfl⟩
      have q1 : (1 : Int) < ((bsQ (c :: d :: r)).size : Int) := by omega
      have hs0 : 0 < (bsQ (c :: d :: r)).size := by omega
      have hsc : (bsQ (c :: d :: r))[0]'hs0 = c := by rw [bsQ_get]; rfl
      by_cases h48 : c = 48
      · subst h48
        have x1 : (bsQ (48 :: d :: r)).extract 1 (bsQ (48 :: d :: r)).size = bsQ (d :: r) := bsQ_drop (48 :: d :: r) 1
        have HN := hide (show stripR (d :: r) = R by rw [← hm]; conv => rhs; unfold stripR; rw [if_pos rfl])
        have hz2 := bsQ_size (d :: r)
        have HL := hide (show (d :: r).length ≤ 1000000 by rw [List.length_cons] at hml; omega)
        have hsz : (bsQ (d :: r)).size + 1 = (bsQ (48 :: d :: r)).size := by rw [hz, hz2]; rfl
        obtain ⟨t2, ht2⟩ : ∃ t2, bsQ (d :: r) = t2 := ⟨_, rfl⟩
        rw [ht2] at x1 hsz
        have HT := hide ht2
        have Hsz := hide hsz
        clear hsz
        generalize bsQ (48 :: d :: r) = t at *
        have k1 : (1 : Int) ≤ (t.size : Int) := by omega
        clear hm hz hml hz2 ht2 h1
        go_wp2
        go_round
        case rel => exact ⟨d :: r, by rw [HT.out], HL.out, HN.out⟩
        case measure => have := Hsz.out; simp; omega
      · have e1 : ((c.toNat : Int) == 48) = false := toNat_neQ (d := 48) h48
        have HN := hide (show c :: d :: r = R by rw [← hm]; conv => rhs; unfold stripR; rw [if_neg h48])
        obtain ⟨t, ht⟩ : ∃ t, bsQ (c :: d :: r) = t := ⟨_, rfl⟩
        have HT := hide (show t = bsQ R by rw [← HN.out, ht])
        generalize bsQ (c :: d :: r) = t at *
        subst ht
        clear hm hz hml h1 h48
        go_wp2
        go_ret
        exact ⟨retQ_s HT.out.symm, rfl⟩
    · have q1 : ¬ (1 : Int) < ((bsQ m).size : Int) := by omega
      have HN := hide (show m = R by
        rw [← hm]
        match m, h1 with
        | [], _ => rfl
        | [c], _ => rfl
        | c :: d :: r, h => exact absurd (by simp) h)
      have HT := hide (show bsQ m = bsQ R by rw [HN.out])
      generalize bsQ m = t at *
      clear hm hz hml h1
      go_wp2
      go_ret
      exact ⟨retQ_s HT.out.symm, rfl⟩
set_option maxRecDepth 20000 in
theorem refRepeatQ_any (c : UInt8) (k : Int) (w : World) (hk : k ≤ 1000000) :
    Calls Tryz.prog 45 #[.int .u8 (c.toNat : Int), .int .i64 k] w fun e w' => e = .returned (.string (bsQ (List.replicate k.toNat c))) ∧ Below w.heap.size w w' := by
  have hcv := fun W : World => conv1b W c
  go_enter Tryz.func45, Tryz.ntmps45
  go_wp2_with fail
  go_loopw [5, 6] (fun v5 v6 wr => ∃ i : Nat, v6 = .int .i64 (i : Int) ∧ i ≤ k.toNat ∧ v5 = .string (bsQ (List.replicate i c)) ∧ Below w.heap.size w wr) (fun _ v _ => k.toNat - (intOf v).toNat)
  case atStart => exact ⟨0, rfl, Nat.zero_le _, rfl, Below.refl _ _⟩
  case round =>
    obtain ⟨i, rfl, hi, rfl, hb⟩ := hrel
    have Hb := hide (fun o => hb.alloc hb.size o)
    have Hb0 := hide hb
    clear hb
    by_cases hlt : (i : Int) < k
    · have hwi : IntKind.i64.wrap ((i : Int) + 1) = (i : Int) + 1 := IntWalk.i64_in _ (by omega)
      have y1 : ∀ W : World, (Op.stringOp .add (bsQ (List.replicate i c)) ⟨#[c]⟩).run Tryz.prog W = .ok (.string (bsQ (List.replicate (i + 1) c))) W := fun W => by
        rw [List.replicate_succ']
        exact catQ (List.replicate i c) [c] (by rw [List.length_replicate]; show i + 1 ≤ _; omega) W
      obtain ⟨t2, ht2⟩ : ∃ t2, bsQ (List.replicate (i + 1) c) = t2 := ⟨_, rfl⟩
      rw [ht2] at y1
      have HT := hide ht2
      generalize bsQ (List.replicate i c) = t at *
      clear ht2
      go_wp2
      go_roundw
      case rel => exact ⟨i + 1, by go_num, by omega, by rw [HT.out], Hb.out _⟩
      case measure => simp [intOf]; omega
    · have hik : i = k.toNat := by omega
      have HT := hide (show bsQ (List.replicate i c) = bsQ (List.replicate k.toNat c) by rw [hik])
      generalize bsQ (List.replicate i c) = t at *
      clear hik
      go_wp2
      go_ret
      exact ⟨retQ_s HT.out.symm, Hb0.out⟩
end Go.Proofs.YtjlpekjfmgcbdaaGreatDoor

/- Contract of the reference's binary. -/
set_option linter.unusedVariables false
set_option linter.unusedSimpArgs false
namespace Go.Proofs.YtjlpekjfmgcbdaaGreatDoor
open Go.RowKit Go.Shelf
/-- the number that digits spell -/
def valD (l : List UInt8) : Nat := l.foldl (fun v c => 10 * v + (c.toNat - 48)) 0
theorem valD_snoc (l : List UInt8) (c : UInt8) : valD (l ++ [c]) = 10 * valD l + (c.toNat - 48) := by unfold valD; rw [List.foldl_append]; rfl
theorem foldD_zero : ∀ (l : List UInt8) (v : Nat), l.foldl (fun v c => 10 * v + (c.toNat - 48)) v = v * 10 ^ l.length + valD l
  | [], v => by simp [valD]
  | c :: t, v => by
    unfold valD
    rw [List.foldl_cons, List.foldl_cons, foldD_zero t, foldD_zero t (10 * 0 + (c.toNat - 48)), List.length_cons, Nat.pow_succ, Nat.add_mul]
    rw [show 10 * v * 10 ^ t.length = v * (10 ^ t.length * 10) by rw [Nat.mul_comm 10 v, Nat.mul_assoc, Nat.mul_comm 10], Nat.mul_zero, Nat.zero_add]
    omega
theorem valD_cons (c : UInt8) (t : List UInt8) : valD (c :: t) = (c.toNat - 48) * 10 ^ t.length + valD t := by
  show (c :: t).foldl _ 0 = _
  rw [List.foldl_cons, foldD_zero]
  simp
theorem valD_zero (t : List UInt8) : valD (48 :: t) = valD t := by rw [valD_cons]; simp
theorem valD_strip : ∀ l : List UInt8, valD (stripR l) = valD l
  | [] => rfl
  | [c] => rfl
  | c :: d :: t => by
    unfold stripR
    by_cases h : c = 48
    · subst h; rw [if_pos rfl, valD_strip (d :: t), valD_zero]
    · rw [if_neg h]
/-- canonical: one digit at most, or no zero in front -/
def Canon (l : List UInt8) : Prop := l.length ≤ 1 ∨ l.head? ≠ some 48
theorem canon_strip : ∀ l : List UInt8, Canon (stripR l)
  | [] => .inl (Nat.zero_le _)
  | [c] => .inl (Nat.le_refl _)
  | c :: d :: t => by
    unfold stripR
    by_cases h : c = 48
    · rw [if_pos h]; exact canon_strip (d :: t)
    · rw [if_neg h]; exact .inr (by simpa using h)
theorem stripR_mem : ∀ (l : List UInt8), ∀ c ∈ stripR l, c ∈ l
  | [], c, h => h
  | [d], c, h => h
  | a :: d :: t, c, h => by
    unfold stripR at h
    by_cases h2 : a = 48
    · rw [if_pos h2] at h; exact List.mem_cons_of_mem _ (stripR_mem (d :: t) c h)
    · rw [if_neg h2] at h; exact h
theorem stripR_len : ∀ (l : List UInt8), (stripR l).length ≤ l.length
  | [] => Nat.le_refl _
  | [_] => Nat.le_refl _
  | a :: d :: t => by
    unfold stripR
    by_cases h2 : a = 48
    · rw [if_pos h2]; have := stripR_len (d :: t); rw [List.length_cons]; omega
    · rw [if_neg h2]; exact Nat.le_refl _
theorem canon_pos {l : List UInt8} (hc : Canon l) (hd : ∀ c ∈ l, dgQ c = true) (h0 : l ≠ []) (h1 : l ≠ [48]) : 0 < valD l := by
  cases l with
  | nil => exact absurd rfl h0
  | cons c t =>
    have hb : 48 ≤ c.toNat ∧ c.toNat ≤ 57 := of_decide_eq_true (hd c List.mem_cons_self)
    have hne : c ≠ 48 := by
      intro e
      rcases hc with h | h
      · have : t = [] := List.length_eq_zero_iff.1 (by rw [List.length_cons] at h; omega)
        exact h1 (by rw [e, this])
      · exact h (by rw [e]; rfl)
    have : c.toNat ≠ 48 := fun e => hne (UInt8.toNat_inj.1 (by rw [e]; rfl))
    rw [valD_cons]
    have := Nat.mul_pos (show 0 < c.toNat - 48 by omega) (Nat.pos_of_ne_zero (fun e => by simp at e) : 0 < 10 ^ t.length)
    omega
/-- the bits of a number without zeros in front -/
def binF : Nat → Nat → List UInt8
  | 0, _ => []
  | k + 1, v => if v = 0 then [] else binF k (v / 2) ++ [bitQ v]
theorem binF_fuel : ∀ (k j v : Nat), v ≤ k → v ≤ j → binF k v = binF j v
  | 0, 0, _, _, _ => rfl
  | 0, j + 1, v, h, _ => by unfold binF; rw [if_pos (by omega)]
  | k + 1, 0, v, _, h => by unfold binF; rw [if_pos (by omega)]
  | k + 1, j + 1, v, h1, h2 => by
    unfold binF
    by_cases h : v = 0
    · rw [if_pos h, if_pos h]
    · rw [if_neg h, if_neg h, binF_fuel k j (v / 2) (by omega) (by omega)]
def binM (v : Nat) : List UInt8 := binF v v
theorem binM_zero : binM 0 = [] := rfl
theorem binM_step {v : Nat} (h : 0 < v) : binM v = binM (v / 2) ++ [bitQ v] := by
  unfold binM
  conv => lhs; rw [binF_fuel v (v + 1) v (Nat.le_refl _) (by omega)]; unfold binF
  rw [if_neg (by omega), binF_fuel v (v / 2) (v / 2) (by omega) (Nat.le_refl _)]
end Go.Proofs.YtjlpekjfmgcbdaaGreatDoor

/- Contract of the reference's binary: the walk. -/
set_option linter.unusedVariables false
set_option linter.unusedSimpArgs false
namespace Go.Proofs.YtjlpekjfmgcbdaaGreatDoor
open Go.RowKit Go.Shelf
theorem conv1d (w : World) (c : UInt8) : (convert 51 9 (.slice (some ⟨w.heap.size, 0, none⟩) 1 1)).run Tryz.prog (w.alloc (.cells #[.int .u8 (c.toNat : Int)] 5)).drew = .ok (.string ⟨#[c]⟩) (w.alloc (.cells #[.int .u8 (c.toNat : Int)] 5)).drew := by
  refine run_convert_bytes_back _ _ _ 5 ⟨w.heap.size, 0, none⟩ 1 [c] (by kernel_rfl) (by kernel_rfl) (by kernel_rfl) ?_
  intro j hj
  obtain rfl : j = 0 := by simpa using hj
  exact (Row.new w 5 #[.int .u8 (c.toNat : Int)]).drew.cell 0
def strVal (v : Value) : Nat := match v with | .string b => valD b.data.toList | _ => 0
theorem half_sum (V d : Nat) : 10 * (V / 2) + (10 * (V % 2) + d) / 2 = (10 * V + d) / 2 := by omega
theorem rest_sum (V d : Nat) : (10 * (V % 2) + d) % 2 = (10 * V + d) % 2 := by omega
theorem str_ne {a b : List UInt8} (h : a ≠ b) : ((bsQ a).toList == (bsQ b).toList) = false := by
  rw [bsQ_beq]; simpa using h
theorem u8_nat {n : Nat} (h : n < 256) : ((UInt8.ofNat n).toNat : Int) = (n : Int) := by rw [UInt8.toNat_ofNat']; omega
theorem digit_mk {n : Nat} (h : n ≤ 9) : dgQ (UInt8.ofNat (48 + n)) = true := by
  unfold dgQ; rw [decide_eq_true_eq, UInt8.toNat_ofNat']; omega
theorem digit_sub {n : Nat} (h : n ≤ 9) : (UInt8.ofNat (48 + n)).toNat - 48 = n := by rw [UInt8.toNat_ofNat']; omega
theorem binF_len : ∀ (j k v : Nat), v < 2 ^ k → (binF j v).length ≤ k
  | 0, _, _, _ => Nat.zero_le _
  | j + 1, k, v, h => by
    unfold binF
    by_cases h0 : v = 0
    · rw [if_pos h0]; exact Nat.zero_le _
    · rw [if_neg h0, List.length_append]
      cases k with
      | zero => simp at h; omega
      | succ k =>
        have := binF_len j k (v / 2) (by rw [Nat.pow_succ] at h; omega)
        show _ + 1 ≤ _
        omega
theorem valD_lt : ∀ (l : List UInt8), (∀ c ∈ l, dgQ c = true) → valD l < 10 ^ l.length
  | [], _ => by simp [valD]
  | c :: t, h => by
    have hb : 48 ≤ c.toNat ∧ c.toNat ≤ 57 := of_decide_eq_true (h c List.mem_cons_self)
    have ih := valD_lt t (fun x hx => h x (List.mem_cons_of_mem _ hx))
    rw [valD_cons, List.length_cons, Nat.pow_succ]
    have : (c.toNat - 48) * 10 ^ t.length ≤ 9 * 10 ^ t.length := Nat.mul_le_mul_right _ (by omega)
    omega
theorem ten_two : (10 : Nat) ^ 1000 ≤ 2 ^ 3400 := by decide +kernel
theorem binM_len {l : List UInt8} (hd : ∀ c ∈ l, dgQ c = true) (hl : l.length ≤ 1000) : (binM (valD l)).length ≤ 3400 :=
  binF_len _ _ _ (Nat.lt_of_lt_of_le (valD_lt l hd) (Nat.le_trans (Nat.pow_le_pow_right (by omega) hl) ten_two))
set_option maxRecDepth 20000 in
set_option maxHeartbeats 8000000 in
theorem refBinary_any (l : List UInt8) (w : World) (hl : l.length ≤ 1000) (hd : ∀ c ∈ l, dgQ c = true) (hc : Canon l) :
    Calls Tryz.prog 73 #[.string (bsQ l)] w fun e w' => e = .returned (.string (bsQ (binM (valD l)))) ∧ Below w.heap.size w w' := by
  have hRl := binM_len hd hl
  obtain ⟨R, hR⟩ : ∃ R, binM (valD l) = R := ⟨_, rfl⟩
  rw [hR] at hRl
  have HR := hide hR
  rw [hR]
  clear hR
  obtain ⟨s, hs⟩ : ∃ s, bsQ l = s := ⟨_, rfl⟩
  have Hs := hide hs
  rw [hs]
  have HD := hide hd
  have HC := hide hc
  clear hs hd hc
  have ST := hide (fun (m : List UInt8) (W : World) (h : m.length ≤ 1000000) => refStripQ_any m W h)
  go_enter Tryz.func73, Tryz.ntmps73
  go_wp2_with fail
  go_loopw [0, 3] (fun v0 v3 wr => ∃ (m P : List UInt8), v0 = .string (bsQ m) ∧ v3 = .string (bsQ P) ∧ m.length ≤ 1000 ∧ Hid (∀ c ∈ m, dgQ c = true) ∧ Hid (Canon m) ∧ binM (valD m) ++ P = R ∧ Below w.heap.size w wr) (fun v _ _ => strVal v)
  case atStart => exact ⟨l, [], by rw [Hs.out], rfl, hl, HD, HC, by rw [List.append_nil]; exact HR.out, Below.refl _ _⟩
  case round =>
    obtain ⟨m, P, rfl, rfl, hml, Hm, Hcan, hB, hb⟩ := hrel
    have HB := hide hB
    have Hb := hide hb
    have hPl : P.length ≤ 3400 := by have := congrArg List.length hB; rw [List.length_append] at this; omega
    clear hB hb
    by_cases h0 : m = []
    · subst h0
      have HF := hide (show bsQ P = bsQ R by rw [← HB.out]; rfl)
      have f1 : (bsQ []).toList.isEmpty = true := by rw [Lib.toList_data, bsQ_list]; rfl
      generalize bsQ P = sp at *
      generalize bsQ [] = t at *
      go_wp2
      go_ret
      exact ⟨retQ_s HF.out.symm, Hb.out⟩
    by_cases h48 : m = [48]
    · subst h48
      have HF := hide (show bsQ P = bsQ R by rw [← HB.out]; rfl)
      have f1 : (bsQ [48]).toList.isEmpty = false := by rw [Lib.toList_data, bsQ_list]; rfl
      have f2 : ((bsQ [48]).toList == [48]) = true := by rw [Lib.toList_data, bsQ_list]; rfl
      generalize bsQ P = sp at *
      generalize bsQ [48] = t at *
      go_wp2
      go_ret
      exact ⟨retQ_s HF.out.symm, Hb.out⟩
    have HV := hide (canon_pos Hcan.out Hm.out h0 h48)
    have hz := bsQ_size m
    have hg : ∀ (i : Nat) (h : i < (bsQ m).size) (h2 : i < m.length), (bsQ m)[i]'h = m[i] := fun i h h2 => bsQ_get m i h
    have t1 : ((bsQ m).toList == ([] : List UInt8)) = false := by rw [Lib.toList_data, bsQ_list]; simpa using h0
    have t1' : ¬ (bsQ m).toList = [] := by rw [Lib.toList_data, bsQ_list]; exact h0
    have t1'' : (bsQ m).toList.isEmpty = false := by rw [Lib.toList_data, bsQ_list]; simpa using h0
    have t2 : ((bsQ m).toList == [48]) = false := by rw [Lib.toList_data, bsQ_list]; simpa using h48
    have t2' : ((bsQ m).toList == (⟨#[48]⟩ : ByteArray).toList) = false := str_ne (b := [48]) h48
    have t2'' : ((bsQ m).toList != (⟨#[48]⟩ : ByteArray).toList) = true := by rw [bne, t2']; rfl
    obtain ⟨V, hV⟩ : ∃ V, valD m = V := ⟨_, rfl⟩
    have HVe := hide hV
    rw [hV] at HV HB
    have HVm := hide (show valD (bsQ m).data.toList = V by rw [bsQ_list]; exact hV)
    have Hg := hide (fun (i : Nat) (h : i < (bsQ m).size) (h2 : i < m.length) => hg i h h2)
    clear hg h0 h48 hV
    generalize bsQ m = t at *
    have Hz := hide hz
    clear hz
    go_wp2_with fail
    go_loopw [4, 5, 6] (fun v4 v5 v6 wq => ∃ (i r : Nat) (H : List UInt8), v6 = .int .i64 (i : Int) ∧ v5 = .int .i64 (r : Int) ∧ v4 = .string (bsQ H) ∧ i ≤ m.length ∧ H.length = i ∧ r ≤ 1 ∧ Hid (r = valD (m.take i) % 2 ∧ valD H = valD (m.take i) / 2) ∧ Hid (∀ c ∈ H, dgQ c = true) ∧ Below w.heap.size w wq) (fun _ _ v _ => m.length - (intOf v).toNat)
    case atStart => exact ⟨0, 0, [], rfl, rfl, rfl, Nat.zero_le _, rfl, Nat.zero_le _, hide ⟨by rw [List.take_zero]; rfl, by rw [List.take_zero]; rfl⟩, hide (fun c hc => by cases hc), Hb.out⟩
    case round =>
      obtain ⟨i, r, H, rfl, rfl, rfl, hi, hHl, hr1, Hr, HHd, hb⟩ := hrel
      have Hb2 := hide (fun o => hb.alloc hb.size o)
      have Hb3 := hide hb
      have HHl := hide hHl
      clear hb hHl
      by_cases hlt : i < m.length
      · have hi' : (i : Int) < (t.size : Int) := by have := Hz.out; omega
        have hi0 : (0 : Int) ≤ (i : Int) := by omega
        have his : i < t.size := by omega
        have hwi : IntKind.i64.wrap ((i : Int) + 1) = (i : Int) + 1 := IntWalk.i64_in _ (by omega)
        obtain ⟨c, hc⟩ : ∃ c, m[i]'hlt = c := ⟨_, rfl⟩
        have hcd := Hm.out _ (List.getElem_mem hlt)
        have htk : m.take (i + 1) = m.take i ++ [m[i]] := List.take_succ_eq_append_getElem hlt
        rw [hc] at hcd htk
        have hb2 : 48 ≤ c.toNat ∧ c.toNat ≤ 57 := of_decide_eq_true hcd
        obtain ⟨d, hd⟩ : ∃ d, c.toNat = d + 48 := ⟨c.toNat - 48, by omega⟩
        have hd9 : d ≤ 9 := by omega
        obtain ⟨n, hn⟩ : ∃ n, 10 * r + d = n := ⟨_, rfl⟩
        obtain ⟨q, hq⟩ : ∃ q, n / 2 = q := ⟨_, rfl⟩
        obtain ⟨r2, hr2⟩ : ∃ r2, n % 2 = r2 := ⟨_, rfl⟩
        have hq9 : q ≤ 9 := by omega
        have hr21 : r2 ≤ 1 := by omega
        have hsc : t[i]'his = c := by rw [Hg.out i his hlt, hc]
        have hcI : (c.toNat : Int) - 48 = (d : Int) := by omega
        have w1 : IntKind.u8.wrap (d : Int) = (d : Int) := by rw [IntKind.wrap_u8]; omega
        have w2 : IntKind.i64.wrap (d : Int) = (d : Int) := IntWalk.i64_in _ (by omega)
        have hnI : 10 * (r : Int) + (d : Int) = (n : Int) := by omega
        have hqI : (n : Int) / 2 = (q : Int) := by omega
        have hrI : (n : Int) % 2 = (r2 : Int) := by omega
        have hn0 : (0 : Int) ≤ (n : Int) := by omega
        have w3 : IntKind.u8.wrap (48 + (q : Int)) = 48 + (q : Int) := by rw [IntKind.wrap_u8]; omega
        have HN := hide (show r2 = valD (m.take (i + 1)) % 2 ∧ valD (H ++ [UInt8.ofNat (48 + q)]) = valD (m.take (i + 1)) / 2 by
          obtain ⟨a1, a2⟩ := Hr.out
          rw [htk, valD_snoc, valD_snoc, digit_sub hq9, hd, Nat.add_sub_cancel, a2]
          refine ⟨?_, ?_⟩
          · rw [← hr2, ← hn, a1]; omega
          · rw [← hq, ← hn, a1]; omega)
        have HDn := hide (show ∀ c ∈ H ++ [UInt8.ofNat (48 + q)], dgQ c = true by
          intro x hx
          rcases List.mem_append.1 hx with h | h
          · exact HHd.out x h
          · rw [List.mem_singleton.1 h]; exact digit_mk hq9)
        have hcc := u8_nat (n := 48 + q) (by omega)
        have hcc2 : ((UInt8.ofNat (48 + q)).toNat : Int) = 48 + (q : Int) := by rw [hcc]; omega
        have hcv : ∀ W : World, (convert 51 9 (.slice (some ⟨W.heap.size, 0, none⟩) 1 1)).run Tryz.prog (W.alloc (.cells #[.int .u8 (48 + (q : Int))] 5)) = .ok (.string ⟨#[UInt8.ofNat (48 + q)]⟩) (W.alloc (.cells #[.int .u8 (48 + (q : Int))] 5)) := fun W => by rw [← hcc2]; exact conv1b W _
        have y1 : ∀ W : World, (Op.stringOp .add (bsQ H) ⟨#[UInt8.ofNat (48 + q)]⟩).run Tryz.prog W = .ok (.string (bsQ (H ++ [UInt8.ofNat (48 + q)]))) W := fun W => catQ H [UInt8.ofNat (48 + q)] (by rw [HHl.out]; show i + 1 ≤ _; omega) W
        have HHl2 := hide (show (H ++ [UInt8.ofNat (48 + q)]).length = i + 1 by rw [List.length_append, HHl.out]; rfl)
        generalize UInt8.ofNat (48 + q) = cc at *
        generalize H ++ [cc] = H2 at *
        generalize bsQ H = sh at *
        have HrI := hide hrI
        clear hc hcd htk hb2 hd hn hq hr2 hcc hcc2
        go_wp2
        go_roundw
        case rel => exact ⟨i + 1, r2, H2, by go_num, congrArg (Value.int .i64) HrI.out, rfl, by omega, HHl2.out, hr21, HN, HDn, Hb2.out _⟩
        case measure => simp [intOf]; omega
      · have hi' : ¬ (i : Int) < (t.size : Int) := by have := Hz.out; omega
        have him : i = m.length := by omega
        obtain ⟨a1, a2⟩ := Hr.out
        rw [him, List.take_length, HVe.out] at a1 a2
        have HH := hide a2
        have hbI := bitQ_int V
        have hrV : (r : Int) = (V : Int) % 2 := by omega
        rw [← hrV] at hbI
        have hcv : ∀ W : World, (convert 51 9 (.slice (some ⟨W.heap.size, 0, none⟩) 1 1)).run Tryz.prog (W.alloc (.cells #[.int .u8 (48 + (r : Int))] 5)).drew = .ok (.string ⟨#[bitQ V]⟩) (W.alloc (.cells #[.int .u8 (48 + (r : Int))] 5)).drew := fun W => by rw [hbI]; exact conv1d W _
        have y1 : ∀ W : World, (Op.stringOp .add ⟨#[bitQ V]⟩ (bsQ P)).run Tryz.prog W = .ok (.string (bsQ (bitQ V :: P))) W := fun W => catQ [bitQ V] P (by show 1 + P.length ≤ _; omega) W
        have w3 : IntKind.u8.wrap (48 + (r : Int)) = 48 + (r : Int) := by rw [IntKind.wrap_u8]; omega
        have w4 : IntKind.i64.wrap (48 + (r : Int)) = 48 + (r : Int) := IntWalk.i64_in _ (by omega)
        have STH := hide (fun W : World => ST.out H W (by rw [HHl.out]; omega))
        have HB2 := hide (show binM (valD (stripR H)) ++ (bitQ V :: P) = R by
          rw [valD_strip, HH.out, ← HB.out, binM_step HV.out, List.append_assoc]; rfl)
        have HM := hide (show valD (stripR H) < V by rw [valD_strip, HH.out]; have := HV.out; omega)
        have HL := hide (show (stripR H).length ≤ 1000 by have := stripR_len H; rw [HHl.out] at this; omega)
        have HDs := hide (show ∀ c ∈ stripR H, dgQ c = true from fun c h => HHd.out c (stripR_mem H c h))
        have HCs := hide (canon_strip H)
        generalize bitQ V = bb at *
        generalize bb :: P = P2 at *
        generalize bsQ P = sp at *
        generalize bsQ H = sh at *
        clear him a1 a2 hbI hrV
        obtain ⟨H2, hH2⟩ : ∃ H2, stripR H = H2 := ⟨_, rfl⟩
        rw [hH2] at STH HB2 HM HL HDs HCs
        clear hH2
        go_wp2_with fail
        go_region_with (go_at_call 42; refine (STH.out _).mono ?_; rintro e w' ⟨rfl, rfl⟩)
        all_goals
          go_wp2_with fail
          go_roundw
          case rel => first | exact ⟨H2, P2, rfl, rfl, HL.out, HDs, HCs, HB2.out, (Hb3.out.alloc Hb3.out.size _).drew⟩ | ((repeat apply Exists.intro); exact ⟨⟨H2, P2, rfl, rfl, HL.out, HDs, HCs, HB2.out, (Hb3.out.alloc Hb3.out.size _).drew⟩, rfl⟩)
          case measure => (show valD H2 < valD t.data.toList); rw [HVm.out]; exact HM.out
end Go.Proofs.YtjlpekjfmgcbdaaGreatDoor
