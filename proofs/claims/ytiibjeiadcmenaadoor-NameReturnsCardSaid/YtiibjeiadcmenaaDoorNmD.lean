/- Contracts of the reference's number and Range; Width of both. -/
import Derived.Test.YtiibjeiadcmenaaDoorNmC
set_option linter.unusedVariables false
set_option linter.unusedSimpArgs false
namespace Go.Proofs.YtiibjeiadcmenaaDoor
open Go.RowKit Go.Shelf Go.Sort

def NumPost (o : Option Int) (B : Nat) (w : World) (e : Ending) (w' : World) : Prop := ∃ (v : Int) (ok : Bool), e = .returned (.tuple #[.int .i64 v, .bool ok]) ∧ (∀ m, o = some m → v = m ∧ ok = true) ∧ (o = none → ok = false) ∧ Below B w w'
theorem NumPost.no {B : Nat} {w w' : World} {v : Int} {o : Option Int} (h : o = none) (hb : Below B w w') : NumPost o B w (.returned (.tuple #[.int .i64 v, .bool false])) w' := ⟨v, false, rfl, (fun m hm => by rw [h] at hm; cases hm), (fun _ => rfl), hb⟩
theorem NumPost.yes {B : Nat} {w w' : World} {v : Int} {o : Option Int} (h : o = some v) (hb : Below B w w') : NumPost o B w (.returned (.tuple #[.int .i64 v, .bool true])) w' := ⟨v, true, rfl, (fun m hm => by rw [h] at hm; exact ⟨Option.some.inj hm, rfl⟩), (fun hn => by rw [h] at hn; cases hn), hb⟩
/-- numW, by what is left behind the sign -/
theorem numW_of (l : List UInt8) : numW l = if badD (takeS l [45]).2 (takeS l [45]).1 = false ∧ nd (takeS l [45]).2 = (takeS l [45]).2.length then some (if (takeS l [45]).1 then -((dv (takeS l [45]).2 : Nat) : Int) else ((dv (takeS l [45]).2 : Nat) : Int)) else none := by
  unfold numW numS
  generalize takeS l [45] = t
  obtain ⟨neg, l1⟩ := t
  simp only
  cases hb : badD l1 neg with
  | true => simp
  | false =>
    simp only [Bool.false_eq_true, if_false, true_and]
    have hle := nd_le l1
    by_cases hn : nd l1 = l1.length
    · rw [if_pos hn, if_pos (by rw [List.drop_eq_nil_iff]; omega), List.take_of_length_le (by omega)]
    · rw [if_neg hn, if_neg (by rw [List.drop_eq_nil_iff]; omega)]
theorem if_iff {α : Type} {p q : Prop} [Decidable p] [Decidable q] (h : p ↔ q) (a b : α) : (if p then a else b) = if q then a else b := by
  by_cases hp : p
  · rw [if_pos hp, if_pos (h.1 hp)]
  · rw [if_neg hp, if_neg (fun hq => hp (h.2 hq))]
theorem digits_head (l : List UInt8) (h : nd l = l.length) : ∀ j (hj : j < l.length), isD l[j] = true := fun j hj => nd_in l j hj (by omega)
/-- the reference's last test -/
theorem last_test (l : List UInt8) (neg : Bool) (hn : nd l = l.length) (h9 : l.length ≤ 9) : badD l neg = false ↔ (l ≠ [] ∧ l = Lib.decDigits (dv l) ∧ (0 < dv l ∨ neg = false)) := by
  unfold badD
  rw [decide_eq_false_iff_not]
  by_cases h0 : l = []
  · subst h0
    constructor
    · intro h; exact absurd (.inl (by decide)) h
    · intro h; exact absurd rfl h.1
  · have hp : 1 ≤ l.length := List.length_pos_iff.2 h0
    have hd := digits_head l hn
    have hi := dec_iff l hd hp
    have hh : l.head? = some (l[0]'(by omega)) := by rw [List.head?_eq_getElem?, List.getElem?_eq_getElem]
    rw [hi, hh]
    have hz : l[0]'(by omega) = 48 → l.length = 1 → dv l = 0 := by
      intro h1 h2
      obtain ⟨a, ha⟩ := List.length_eq_one_iff.1 h2
      have h3 : l.head? = some 48 := by rw [hh, h1]
      rw [ha] at h3 ⊢
      obtain rfl : a = 48 := Option.some.inj h3
      rfl
    have hpos : ¬ (l[0]'(by omega) = 48 ∧ 1 < l.length) → dv l = 0 → l[0]'(by omega) = 48 ∧ l.length = 1 := by
      intro h1 h2
      have he := hi.2 h1
      rw [h2, Lib.decDigits, dif_pos (by decide)] at he
      have h3 : l.length = 1 := by rw [he]; rfl
      have h4 : l.head? = some 48 := by rw [he]; rfl
      rw [hh] at h4
      exact ⟨Option.some.inj h4, h3⟩
    constructor
    · intro h
      refine ⟨h0, fun h' => h (.inr (.inr ⟨by rw [h'.1], .inl (by omega)⟩)), ?_⟩
      cases hneg : neg with
      | false => exact .inr rfl
      | true =>
        left
        rcases Nat.eq_zero_or_pos (dv l) with h1 | h1
        · obtain ⟨q1, q2⟩ := hpos (fun h' => h (.inr (.inr ⟨by rw [h'.1], .inl (by omega)⟩))) h1
          exact absurd (.inr (.inr ⟨by rw [q1], .inr hneg⟩)) h
        · exact h1
    · rintro ⟨_, h1, h2⟩ (h | h | ⟨h, h'⟩)
      · omega
      · omega
      · have q1 : l[0]'(by omega) = 48 := Option.some.inj h
        rcases h' with h' | h'
        · exact h1 ⟨q1, by omega⟩
        · have q2 : l.length = 1 := by
            rcases Nat.lt_or_ge 1 l.length with h3 | h3
            · exact absurd ⟨q1, h3⟩ h1
            · omega
          have := hz q1 q2
          rcases h2 with h2 | h2
          · omega
          · rw [h2] at h'; cases h'

set_option maxRecDepth 20000 in
set_option maxHeartbeats 8000000 in
theorem refNumber_any (s : ByteArray) (w : World) (hz : s.size ≤ 1000000) :
    Calls Tryd.prog 41 #[.string s] w (NumPost (numW s.data.toList) w.heap.size w) := by
  have hW := numW_of s.data.toList
  have hTk := takeS_one s.data.toList 45
  have hlen := size_list s
  generalize numW s.data.toList = O at hW ⊢
  obtain ⟨tk, htk⟩ : ∃ tk, takeS s.data.toList [45] = tk := ⟨_, rfl⟩
  rw [htk] at hW hTk
  obtain ⟨neg, l1⟩ := tk
  simp only at hW
  obtain ⟨t, rfl⟩ : ∃ t : ByteArray, l1 = t.data.toList := ⟨bstr l1, rfl⟩
  have ht1 : t.size ≤ 1000000 := by
    have := takeS_len s.data.toList [45]
    rw [htk] at this
    have h2 := size_list t
    simp only at this
    omega
  have HTk := hide hTk
  have HW := hide hW
  clear hTk hW htk hlen
  obtain ⟨n1, n2, n3⟩ := nd_bytes t
  have hlt := size_list t
  obtain ⟨N, hN⟩ : ∃ N, nd t.data.toList = N := ⟨_, rfl⟩
  rw [hN] at n1 n2
  have N3 : Hid (∀ h : N < t.size, ¬ (48 ≤ (t[N]'h).toNat ∧ (t[N]'h).toNat ≤ 57)) := hide (by subst hN; exact n3)
  have N2 := hide n2
  have HN := hide hN
  have DV := hide (fun (k : Nat) (h : k < t.size) => (show dv (t.data.toList.take (k + 1)) = 10 * dv (t.data.toList.take k) + ((t[k]'h).toNat - 48) from dv_take t.data.toList k (by rw [size_list]; exact h)))
  have DL := hide (fun (k : Nat) (h : k ≤ N) => dv_lt t.data.toList k (fun j hj hjk => nd_in _ j hj (by rw [HN.out]; omega)) (by rw [size_list]; omega))
  have HL := hide hlt
  clear n2 n3 hN hlt
  go_enter Tryd.func41, Tryd.ntmps41
  have hsgn : (neg = true ∧ ∃ h0 : 0 < s.size, ((s[0]'h0).toNat : Int) = 45 ∧ s.extract 1 s.size = t) ∨ (neg = false ∧ t = s ∧ ∀ h0 : 0 < s.size, (((s[0]'h0).toNat : Int) == 45) = false) := by
    have htk := HTk.out
    by_cases h0 : 0 < s.size
    · have hh := hd_at s h0
      by_cases h45 : ((s[0]'h0).toNat : Int) = 45
      · rw [if_pos (by rw [hh]; congr 1; exact (u8_eq _ 45 (by decide)).2 h45)] at htk
        obtain ⟨h1, ht⟩ := Prod.mk.inj htk
        refine .inl ⟨h1, h0, h45, ?_⟩
        apply Go.WideShapes.bytes_inj
        rw [Lib.extract_to_end, ht]
        cases s.data.toList <;> rfl
      · rw [if_neg (by rw [hh]; exact fun e => h45 ((u8_eq _ 45 (by decide)).1 (Option.some.inj e)))] at htk
        obtain ⟨h1, ht⟩ := Prod.mk.inj htk
        exact .inr ⟨h1, Go.WideShapes.bytes_inj ht, fun _ => beq_eq_false_iff_ne.2 h45⟩
    · have hs0 := empty_of h0
      rw [if_neg (by rw [hs0]; intro e; cases e)] at htk
      obtain ⟨h1, ht⟩ := Prod.mk.inj htk
      exact .inr ⟨h1, Go.WideShapes.bytes_inj ht, fun h => absurd h h0⟩
  have HSg := hide hsgn
  clear hsgn HTk
  go_upto_region 2 with fail
  go_cut [13] (fun v wx => v = .bool neg ∧ wx = w)
  case first =>
    rcases HSg.out with ⟨rfl, h0, h45, _⟩ | ⟨rfl, _, h45⟩
    · obtain ⟨hn, hne⟩ := toList_pos h0
      have hne' : (!s.toList.isEmpty) = true := by rw [hne]; rfl
      go_wp2_with fail
      go_meet
      exact ⟨rfl, rfl⟩
    · by_cases h0 : 0 < s.size
      · obtain ⟨hn, hne⟩ := toList_pos h0
        have hne' : (!s.toList.isEmpty) = true := by rw [hne]; rfl
        have h45' := h45 h0
        clear h45
        go_wp2_with fail
        go_meet
        exact ⟨rfl, rfl⟩
      · obtain rfl := empty_of h0
        clear h45 h0
        go_wp2_with fail
        go_meet
        exact ⟨rfl, rfl⟩
  case rest =>
  obtain ⟨rfl, rfl⟩ := hcut
  go_upto_if 13 with fail
  obtain ⟨sg, hsg⟩ : ∃ sg : Int, (if neg then (-1 : Int) else 1) = sg := ⟨_, rfl⟩
  have Hsg := hide hsg
  clear hsg
  go_cut [0, 4] (fun v0 v4 wx => v0 = .string t ∧ v4 = .int .i64 sg ∧ ∃ n, wx = wc.drewN n)
  case first =>
    rcases HSg.out with ⟨rfl, h0, _, hx⟩ | ⟨rfl, hx, _⟩
    · have Hx := hide hx
      clear hx
      have g1 : (1 : Int) ≤ (s.size : Int) := by omega
      have hq := Hsg.out
      rw [if_pos rfl] at hq
      subst hq
      go_wp2_with fail
      go_quiet (fail)
      go_wp2_with fail
      go_meet
      exact ⟨by rw [← Hx.out], rfl, _, rfl⟩
    · have Hx := hide hx
      clear hx
      have hq := Hsg.out
      rw [if_neg Bool.false_ne_true] at hq
      subst hq
      go_wp2_with fail
      go_meet
      exact ⟨by rw [Hx.out], rfl, 0, rfl⟩
  case rest =>
    obtain ⟨rfl, rfl, n0, rfl⟩ := hcut
    clear HSg
    have HB0 := hide (Below_drewN (Below.refl wc.heap.size wc) n0)
    generalize wc.drewN n0 = wd at HB0 ⊢
    have ht9 : N ≤ 9 ∨ 9 < N := by omega
    have hnone1 : N < t.size → O = none := fun h => by
      rw [HW.out, if_neg]
      rintro ⟨_, h2⟩
      rw [HN.out, HL.out] at h2; omega
    have hnone2 : 9 < N → O = none := fun h => by
      rw [HW.out, if_neg]
      rintro ⟨h1, _⟩
      have : badD t.data.toList neg = true := decide_eq_true (.inr (.inl (by rw [HN.out]; exact h)))
      rw [this] at h1; cases h1
    have HO1 := hide hnone1
    have HO2 := hide hnone2
    clear hnone1 hnone2 ht9
    go_wp2
    go_loop [5, 6] (fun vn vk => ∃ k : Nat, vk = .int .i64 k ∧ k ≤ N ∧ k ≤ 9 ∧ vn = .int .i64 (dv (t.data.toList.take k))) (fun _ vk => t.size - (intOf vk).toNat)
    case atStart => exact ⟨0, rfl, Nat.zero_le _, by omega, rfl⟩
    case round =>
      obtain ⟨k, rfl, hk, hk9, rfl⟩ := hrel
      have hdl := DL.out k hk
      have hp := Nat.pow_le_pow_right (n := 10) (by decide) hk9
      have e9 : (10 : Nat) ^ 9 = 1000000000 := by decide
      have hb0 : (0 : Int) ≤ (dv (t.data.toList.take k) : Int) := by omega
      have hb1 : (dv (t.data.toList.take k) : Int) ≤ 999999999 := by omega
      clear hdl hp e9
      by_cases hks : k < t.size
      · have hks' : (k : Int) < (t.size : Int) := by omega
        by_cases hlt : k < N
        · have hd := N2.out k hks hlt
          have hd1 : (48 : Int) ≤ ((t[k]'hks).toNat : Int) := by omega
          have hd2 : ((t[k]'hks).toNat : Int) ≤ 57 := by omega
          have hdv := DV.out k hks
          have HDV := hide (show (dv (t.data.toList.take (k + 1)) : Int) = 10 * (dv (t.data.toList.take k) : Int) + (((t[k]'hks).toNat : Int) - 48) by omega)
          clear hdv
          generalize ((dv (t.data.toList.take k) : Nat) : Int) = D at HDV hb0 hb1 ⊢
          by_cases h9 : k = 9
          · have ho := HO2.out (by omega)
            have Ho := hide ho
            have z9 : ((k : Int) == 9) = true := beq_iff_eq.2 (by omega)
            clear h9 ho hd hk9 hk hlt
            go_wp2
            go_ret2
            exact NumPost.no Ho.out HB0.out
          · have z9 : ((k : Int) == 9) = false := beq_eq_false_iff_ne.2 (by omega)
            have K9 := hide (show k + 1 ≤ 9 by omega)
            clear h9 hd
            go_wp2
            go_round
            case rel => exact ⟨k + 1, by go_num, by omega, K9.out, by rw [HDV.out]⟩
            case measure => simp [intOf]; omega
        · obtain rfl : k = N := Nat.le_antisymm hk (Nat.le_of_not_lt hlt)
          have hx := N3.out hks
          have Ho := hide (HO1.out hks)
          have hc : ((t[k]'hks).toNat : Int) < 48 ∨ ((48 : Int) ≤ ((t[k]'hks).toNat : Int) ∧ (57 : Int) < ((t[k]'hks).toNat : Int)) := by omega
          clear hx
          generalize ((dv (t.data.toList.take k) : Nat) : Int) = D at hb0 hb1 ⊢
          rcases hc with hc | ⟨hc1, hc2⟩
          all_goals
            go_wp2
            go_ret2
            exact NumPost.no Ho.out HB0.out
      · have hkz : k = t.size := by omega
        have hNz : N = k := by omega
        subst hNz
        have hks' : ¬ (N : Int) < (t.size : Int) := by omega
        have htake : t.data.toList.take N = t.data.toList := List.take_of_length_le (by rw [size_list]; omega)
        rw [htake] at hb0 hb1 ⊢
        have hall : nd t.data.toList = t.data.toList.length := by rw [HN.out, HL.out]; exact hkz
        have hlast := last_test t.data.toList neg hall (by rw [HL.out]; omega)
        have hO := HW.out
        have D := hide (fun W : World => Decimal_i (dv t.data.toList : Nat) W (by omega) (by omega))
        have hdec : (decB ((dv t.data.toList : Nat) : Int) = t) ↔ t.data.toList = Lib.decDigits (dv t.data.toList) := by
          have e2 : (decB ((dv t.data.toList : Nat) : Int)).data.toList = Lib.decDigits (dv t.data.toList) := by
            unfold decB; rw [Lib.itoa_nonneg]
          constructor
          · intro e; rw [← e2, e]
          · intro e; exact Go.WideShapes.bytes_inj (by rw [e2]; exact e.symm)
        have hpos : (0 < dv t.data.toList) ↔ (0 : Int) < ((dv t.data.toList : Nat) : Int) := by omega
        rw [hpos] at hlast
        rw [← hdec] at hlast
        have hne : t.data.toList ≠ [] ↔ 0 < t.size := by rw [← size_list, List.length_pos_iff]
        rw [hne] at hlast
        rw [if_iff ((and_iff_left hall).trans hlast)] at hO
        clear hdec hpos hne hlast hall htake HW
        generalize ((dv t.data.toList : Nat) : Int) = num at *
        generalize decB num = dn at D hO
        have HO := hide hO
        clear hO hkz
        have hw1 : IntKind.i64.wrap (-1 * num) = -num := by rw [IntWalk.i64_in _ (by omega)]; omega
        have hw2 : IntKind.i64.wrap (1 * num) = num := by rw [IntWalk.i64_in _ (by omega)]; omega
        have Hsg2 := Hsg
        by_cases h0 : 0 < t.size
        · obtain ⟨hn, hne⟩ := toList_pos h0
          have hne' : (!t.toList.isEmpty) = true := by rw [hne]; rfl
          by_cases hd : dn = t
          · have HOd := HO.out
            have e8 : (dn.toList == t.toList) = true := by rw [hd]; exact beq_self_eq_true _
            by_cases hp : 0 < num
            · rw [if_pos ⟨h0, hd, .inl hp⟩] at HOd
              have HO2 := hide HOd
              clear HOd hd
              cases neg with
              | true =>
                have hq := Hsg.out
                rw [if_pos rfl] at hq
                subst hq
                simp only [if_true] at HO2
                go_wp2_with fail
                refine (D.out _).mono ?_
                rintro e wx ⟨rfl, hb⟩
                have HB := hide hb
                clear hb
                go_wp2
                go_ret2
                exact NumPost.yes HO2.out (HB0.out.trans (HB.out.mono HB0.out.size))
              | false =>
                have hq := Hsg.out
                rw [if_neg Bool.false_ne_true] at hq
                subst hq
                simp only [Bool.false_eq_true, if_false] at HO2
                go_wp2_with fail
                refine (D.out _).mono ?_
                rintro e wx ⟨rfl, hb⟩
                have HB := hide hb
                clear hb
                go_wp2
                go_ret2
                exact NumPost.yes HO2.out (HB0.out.trans (HB.out.mono HB0.out.size))
            · have hpd : decide (0 < num) = false := decide_eq_false hp
              cases neg with
              | true =>
                have hq := Hsg.out
                rw [if_pos rfl] at hq
                subst hq
                rw [if_neg (by rintro ⟨_, _, h | h⟩; exact hp h; cases h)] at HOd
                have HO2 := hide HOd
                clear HOd hd
                go_wp2_with fail
                refine (D.out _).mono ?_
                rintro e wx ⟨rfl, hb⟩
                have HB := hide hb
                clear hb
                go_wp2
                go_ret2
                exact NumPost.no HO2.out (HB0.out.trans (HB.out.mono HB0.out.size))
              | false =>
                have hq := Hsg.out
                rw [if_neg Bool.false_ne_true] at hq
                subst hq
                rw [if_pos ⟨h0, hd, .inr rfl⟩] at HOd
                have HO2 := hide HOd
                clear HOd hd
                simp only [Bool.false_eq_true, if_false] at HO2
                go_wp2_with fail
                refine (D.out _).mono ?_
                rintro e wx ⟨rfl, hb⟩
                have HB := hide hb
                clear hb
                go_wp2
                go_ret2
                exact NumPost.yes HO2.out (HB0.out.trans (HB.out.mono HB0.out.size))
          · have HOd := HO.out
            rw [if_neg (fun h => hd h.2.1)] at HOd
            have HO2 := hide HOd
            have e8 : (dn.toList == t.toList) = false := toList_beq hd
            clear HOd hd
            have hsg : sg = -1 ∨ sg = 1 := by have := Hsg.out; cases neg <;> simp at this <;> omega
            rcases hsg with rfl | rfl
            all_goals
              go_wp2_with fail
              refine (D.out _).mono ?_
              rintro e wx ⟨rfl, hb⟩
              have HB := hide hb
              clear hb
              go_wp2
              go_ret2
              exact NumPost.no HO2.out (HB0.out.trans (HB.out.mono HB0.out.size))
        · have HOd := HO.out
          rw [if_neg (fun h => h0 h.1)] at HOd
          have HO2 := hide HOd
          obtain rfl := empty_of h0
          clear HOd
          have hsg : sg = -1 ∨ sg = 1 := by have := Hsg.out; cases neg <;> simp at this <;> omega
          rcases hsg with rfl | rfl
          all_goals
            go_wp2
            go_ret2
            exact NumPost.no HO2.out HB0.out
end Go.Proofs.YtiibjeiadcmenaaDoor
